/- laid together -/
import Derived.Test.YtommijghjlikkaaGreatMx3
import Derived.Test.YtommijghjlikkaaGreatBmTy
set_option linter.unusedVariables false
set_option linter.unusedSimpArgs false
set_option maxRecDepth 100000
open Go.IntKind (wrap)
namespace Go.Bm
theorem I4 {x:Int} (h:i64 x):GI [I x]=some [U (x.natAbs:Int)]:=by
  unfold i64 at h;unfold GI;rw[Zdb];by_cases D:x<0
  · rw[Ee D,Ae (x:=x+1) (by omega),Ae (x:=0-(x+1)) (by omega),Ic (x:=0-(x+1)) (by omega),Ic (x:=0-(x+1)+1) (by omega)]
    rw[show 0-(x+1)+1=(x.natAbs:Int) by omega]
  · rw[A_ D,Ic (x:=x) (by omega)]
    rw[show x=(x.natAbs:Int) by omega];simp
def sgn (a b:Int):Int:=if a=0 then 0 else if b=0 then 0 else if(a<0↔b<0)then 1 else-1
theorem Yn (a b:Int):Gp [I a,I b]=some [I (sgn a b)]:=by
  unfold Gp;rw[Qut];simp only[go_sem];unfold sgn
  repeat' split
  all_goals rfl
def Hd (a b:Nat):Int:=if a<b then-1 else if a=b then 0 else 1
def LJ (a b:Int):Int:=if a<b then-1 else if a=b then 0 else 1
noncomputable def w64:Nat:=Classical.choose (⟨18446744073709551616,rfl⟩:∃n:Nat,n=18446744073709551616)
theorem BV:w64=18446744073709551616:=Classical.choose_spec (⟨18446744073709551616,rfl⟩:∃n:Nat,n=18446744073709551616)
theorem NF {x:Int} (h:i64 x):x.natAbs<w64:=by unfold i64 at h;have:=BV;omega
theorem Q8d {x y:Nat} (E:x<w64) (G:y<w64):II [U x,U y]=some [U ((x*y/w64:Nat):Int),U ((x*y%w64:Nat):Int)]:=by
  rw[BV]at E G;have I:∀z:Nat,z<18446744073709551616->inU (z:Int)=true:=by
    intro z J;have D:Ge=18446744073709551616:=rfl;simp only[inU,D,ak,cq];omega
  show Sa (x:Int) (y:Int)=_;unfold Sa;rw[I x E,I y G,BV];rfl
theorem Q3v {x y:Nat} (D:x<w64) (E:y<w64):E2 [U x,U y]=some [U ((x*y/w64:Nat):Int),U ((x*y%w64:Nat):Int)]:=by
  unfold E2;rw[Zi7,Q8d D E];simp only[go_sem]
theorem Qw7 (a b c d:Nat) (hb:b<w64) (D:d<w64):IB [U a,U b,U c,U d]=some [I (Hd (a*w64+b) (c*w64+d))]:=by
  unfold IB;rw[Zj0];simp only[go_sem,and_true];unfold Hd;simp only[BV]at*;by_cases E:a<c
  · rw[aa (by omega),aa (by omega)]
  · rw[ab (by omega)]
    by_cases G:a=c
    · rw[aa (by omega)]
      by_cases J:b<d
      · rw[aa (by omega),aa (by omega)]
      · rw[ab (by omega)]
        by_cases L:b=d
        · rw[aa (by omega),ab (by omega),aa (by omega)]
        · rw[ab (by omega),ab (by omega),ab (by omega)]
    · rw[ab (by omega),ab (by omega),ab (by omega),ab (by omega)]
theorem U3 (a b:Int):sgn a b*((a.natAbs*b.natAbs:Nat):Int)=a*b:=by
  unfold sgn;by_cases G:a=0
  · subst G;simp
  · by_cases I:b=0
    · subst I;simp
    · rw[ab G,ab I]
      have e:((a.natAbs*b.natAbs:Nat):Int)=(a.natAbs:Int)*(b.natAbs:Int):=by simp
      rw[e];by_cases D:a<0<;>by_cases E:b<0
      · rw[aa (by simp[D,E]),show(a.natAbs:Int)= -a by omega,show(b.natAbs:Int)= -b by omega,Int.neg_mul_neg,Int.one_mul]
      · rw[ab (by simp[D,E]),show(a.natAbs:Int)= -a by omega,show(b.natAbs:Int)=b by omega,Int.neg_mul,Int.one_mul,Int.neg_mul,Int.neg_neg]
      · rw[ab (by simp[D,E]),show(a.natAbs:Int)=a by omega,show(b.natAbs:Int)= -b by omega,Int.mul_neg,Int.neg_mul_neg,Int.one_mul]
      · rw[aa (by simp[D,E]),show(a.natAbs:Int)=a by omega,show(b.natAbs:Int)=b by omega,Int.one_mul]
theorem TK (a b:Int):(sgn a b=0/\a*b=0)\/(sgn a b=1/\0<a*b)\/(sgn a b= -1/\a*b<0):=by
  have h:=U3 a b;by_cases D:a=0
  · subst D;left;simp[sgn]
  · by_cases E:b=0
    · subst E;left;simp[sgn]
    · have I:0<a.natAbs*b.natAbs:=Nat.mul_pos (by omega) (by omega)
      generalize a.natAbs*b.natAbs=p at*;generalize a*b=x at*;unfold sgn at h⊢;rw[ab D,ab E]at h⊢;by_cases G:(a<0↔b<0)
      · rw[aa G]at h⊢;right;left;exact⟨rfl,by omega⟩
      · rw[ab G]at h⊢;right;right;exact⟨rfl,by omega⟩
theorem Z3m {a b c d:Int}:(if sgn a b≠sgn c d then(if sgn a b<sgn c d then-1 else 1)else sgn a b*Hd (a.natAbs*b.natAbs) (c.natAbs*d.natAbs))=LJ (a*b) (c*d):=by
  have G:=U3 a b;have I:=U3 c d;have D:=TK a b;have E:=TK c d;unfold LJ Hd;generalize a.natAbs*b.natAbs=p at*;generalize c.natAbs*d.natAbs=q at*;generalize a*b=x at*;generalize c*d=y at*;generalize sgn a b=u at*;generalize sgn c d=v at*;rcases D with⟨rfl,g1⟩|⟨rfl,g1⟩|⟨rfl,g1⟩<;>rcases E with⟨rfl,g2⟩|⟨rfl,g2⟩|⟨rfl,g2⟩
  · rw[ab (by simp),ab (show¬x<y by omega),aa (show x=y by omega)];exact Int.zero_mul _
  · rw[aa (by simp),aa (by omega),aa (by omega)]
  · rw[aa (by simp),ab (by omega),ab (by omega),ab (by omega)]
  · rw[aa (by simp),ab (by omega),ab (by omega),ab (by omega)]
  · rw[ab (by simp)]
    have e1:(p:Int)=x:=by omega
    have e2:(q:Int)=y:=by omega
    by_cases h:x<y
    · rw[aa (by omega),aa h];rfl
    · rw[ab (by omega),ab h]
      by_cases h':x=y
      · rw[aa (by omega),aa h'];rfl
      · rw[ab (by omega),ab h'];rfl
  · rw[aa (by simp),ab (by omega),ab (by omega),ab (by omega)]
  · rw[aa (by simp),aa (by omega),aa (by omega)]
  · rw[aa (by simp),aa (by omega),aa (by omega)]
  · rw[ab (by simp)]
    have e1:(p:Int)= -x:=by omega
    have e2:(q:Int)= -y:=by omega
    by_cases h:x<y
    · rw[ab (by omega),ab (by omega),aa h];rfl
    · rw[ab h]
      by_cases h':x=y
      · rw[ab (by omega),aa (by omega),aa h'];rfl
      · rw[aa (by omega),ab h'];rfl
theorem Q2n (p:Nat):p/w64*w64+p%w64=p:=by have:=Nat.div_add_mod p w64;rw[Nat.mul_comm]at this;exact this
theorem RR:0<w64:=by rw[BV];omega
theorem Zop (p q:Nat): -1<=Hd p q/\Hd p q<=1:=by unfold Hd;(repeat' split)<;>omega
theorem Zjq (a b:Int): -1<=sgn a b/\sgn a b<=1:=by unfold sgn;(repeat' split)<;>omega
theorem Z30 {u v:Int} (D: -1<=u/\u<=1) (E: -1<=v/\v<=1): -1<=u*v/\u*v<=1:=by
  have:u= -1\/u=0\/u=1:=by omega
  rcases this with rfl|rfl|rfl<;>omega
theorem Pd {x y:Nat} (G:x<w64) (I:y<w64):∃E D:Nat,E2 [U x,U y]=some [U E,U D]/\E*w64+D=x*y/\D<w64:=
  ⟨_,_,Q3v G I,Q2n _,Nat.mod_lt _ RR⟩
theorem Zdt {a b c d:Int} (M L G N:Fn) (D O E S:Nat)
   (T:G [I a]=some [U a.natAbs]) (V:G [I b]=some [U b.natAbs]) (X:G [I c]=some [U c.natAbs]) (Y:G [I d]=some [U d.natAbs])
   (ks:∀a b,N [I a,I b]=some [I (sgn a b)])
   (e1:L [U a.natAbs,U b.natAbs]=some [U D,U O]) (f1:L [U c.natAbs,U d.natAbs]=some [U E,U S])
   (J:M [U D,U O,U E,U S]=some [I (Hd (a.natAbs*b.natAbs) (c.natAbs*d.natAbs))]):Qo5 M L G N [I a,I b,I c,I d]=some [I (LJ (a*b) (c*d))]:=by
  have hm:=Z30 (Zjq a b) (Zop (a.natAbs*b.natAbs) (c.natAbs*d.natAbs));rw[Zdk];simp only[go_sem,ks,T,V,X,Y,e1,f1,J];rw[<-Z3m];rw[Ae (by omega)];by_cases D:sgn a b≠sgn c d
  · rw[aa D,aa D]
    by_cases E:sgn a b<sgn c d
    · rw[aa E,aa E]
    · rw[ab E,ab E]
  · rw[ab D,ab D]
theorem Z3n {a b c d:Int} (E:i64 a) (hb:i64 b) (G:i64 c) (J:i64 d):Pe [I a,I b,I c,I d]=some [I (LJ (a*b) (c*d))]:=by
  obtain⟨L,M,e1,e2,e3⟩:=Pd (NF E) (NF hb);obtain⟨N,O,S,T,U⟩:=Pd (NF G) (NF J);have D:=Qw7 L M N O e3 U;rw[e2,T]at D;unfold Pe;exact Zdt _ _ _ _ _ _ _ _ (I4 E) (I4 hb) (I4 G) (I4 J) Yn e1 S D
theorem eB {α β:Type} {a:Option α} {f:α->Option β} {x:α} {r:Option β} (h:a=some x) (g:f x=r):a.bind f=r:=by rw[h];exact g
theorem eT {α:Type} {c:Bool} {a b r:α} (h:c=true) (g:a=r):cond c a b=r:=by rw[h];exact g
theorem eF {α:Type} {c:Bool} {a b r:α} (h:c=false) (g:b=r):cond c a b=r:=by rw[h];exact g
theorem eC {α:Type} {c:Bool} {a b r:α} (h:c=true->a=r) (g:c=false->b=r):cond c a b=r:=by cases c;exact g rfl;exact h rfl
theorem beF {a b:Int} (h:a≠b):(a==b)=false:=by simpa using h
theorem beT {a b:Int} (h:a=b):(a==b)=true:=by simpa using h
theorem bnF {a b:Int} (h:a=b):(a !=b)=false:=by simpa using h
theorem bnT {a b:Int} (h:a≠b):(a !=b)=true:=by simpa using h
theorem FZ {α β:Type} {a:Option α} {f:α->Option β} (h:a.isSome=true) (g:∀o,a=some o->(f o).isSome=true):(a.bind f).isSome=true:=by
 cases a with
 |none=>simp at h
 |some o=>exact g o rfl
theorem B6 {α:Type} {c:Bool} {a b:Option α} (h:c=true->a.isSome=true) (g:c=false->b.isSome=true):(cond c a b).isSome=true:=by
 cases c
 ·exact g rfl
 ·exact h rfl
def Out {α:Type} (p:α->Prop) (a:Option α):Prop:=∃o,a=some o/\p o
theorem Out.is {α:Type} {p:α->Prop} {a:Option α} (h:Out p a):a.isSome=true:=by obtain⟨o,h,_⟩:=h;rw[h];rfl
theorem Out.of {α:Type} {a:Option α} (h:a.isSome=true):Out (λ_=>True) a:=by
 cases a with
 |none=>simp at h
 |some o=>exact⟨o,rfl,trivial⟩
theorem Out.bind {α β:Type} {p:α->Prop} {q:β->Prop} {a:Option α} {f:α->Option β} (h:Out p a) (g:∀o,p o->Out q (f o)):Out q (a.bind f):=by
 obtain⟨o,rfl,h⟩:=h;exact g o h
theorem Out.ibind {α β:Type} {q:β->Prop} {a:Option α} {f:α->Option β} (h:a.isSome=true) (g:∀o,a=some o->Out q (f o)):Out q (a.bind f):=by
 cases a with
 |none=>simp at h
 |some o=>exact g o rfl
theorem Out.cond {α:Type} {p:α->Prop} {c:Bool} {a b:Option α} (h:c=true->Out p a) (g:c=false->Out p b):Out p (cond c a b):=by
 cases c
 ·exact g rfl
 ·exact h rfl
theorem Out.some {α:Type} {p:α->Prop} {o:α} (h:p o):Out p (some o):=⟨o,rfl,h⟩
theorem Out.mono {α:Type} {p q:α->Prop} {a:Option α} (h:Out p a) (g:∀o,p o->q o):Out q a:=by obtain⟨o,h,D⟩:=h;exact⟨o,h,g o D⟩
theorem Cl {S:Type} {step:Lp} (enc:S->List AC) (Inv:S->Prop) (m:S->Nat) (Q:Nat×List AC->Prop)
  (h:∀s,Inv s->Out (λo=>(o.1=0/\∃E,o.2=enc E/\Inv E/\m E<m s)\/(o.1≠0/\Q o)) (step (enc s))) (s:S) (I:Inv s):Out Q (Al step (enc s)):=by
 obtain ⟨o, G, _, D⟩ := Qw5 (step := step) enc Inv m Q (λs I => by
  obtain⟨o,G,D⟩:=h s I;rcases D with⟨D,E,J,L,M⟩|⟨D,J⟩
  ·refine .inl ⟨E,?_,L,M⟩;rw[G,<-J,<-D]
  ·exact .inr ⟨o,G,D,J⟩) s I
 exact⟨o,G,D⟩
theorem Bb {p:Prop} [Decidable p] (h:decide p=true):p:=of_decide_eq_true h
theorem Bs {p:Prop} [Decidable p] (h:decide p=false): ¬p:=of_decide_eq_false h
theorem inB {i:Int} {n:Nat} (D:0<=i) (E:i<(n:Int)):(decide (0<=i)&&decide (i<(n:Int)))=false->False:=by
 intro h;rcases Bool.and_eq_false_iff.1 h with c|c
 ·exact Bs c D
 ·exact Bs c E
theorem Cy {a b:Nat} (h:a<=b):Nat.ble a b=true:=Nat.ble_eq_true_of_le h
theorem Qy9 (a b c d:Int):(G4 [I a,I b,I c,I d]).isSome=true:=by
 unfold G4;rw[Qdm]
 repeat' first|exact rfl|refine B6 (λ_=> ?_) (λ_=> ?_)
 rename_i D E;simp at D E;omega
theorem QN (a b c:Int):FD [I a,I b,I c]=some [B (decide (1<=a/\a<=65536/\2<=b/\b<=65536/\1<=c/\c<=16777216))]:=by
 unfold FD;rw[Z7i];by_cases D:1<=a<;>by_cases E:a<=65536<;>by_cases G:2<=b<;>by_cases J:b<=65536<;>by_cases L:1<=c<;>by_cases M:c<=16777216<;>simp[D,E,G,J,L,M]
theorem Zl0 {M:Fn} (h:∀a b c d,(M [I a,I b,I c,I d]).isSome=true) (a b c v x:Int):(QI M [I a,I b,I c,I v,I x]).isSome=true:=by
 rw[YR]
 repeat' first|exact rfl|exact h _ _ _ _|refine B6 (λ_=> ?_) (λ_=> ?_)|refine FZ ?_ λ_ _=> ?_
theorem Qoj (a b c v x:Int):(GV [I a,I b,I c,I v,I x]).isSome=true:=Zl0 Qy9 a b c v x
theorem Z55 (x:Int): -9223372036854775808<=wrap .i64 x/\wrap .i64 x<=9223372036854775807:=by
 simp[IntKind.wrap,IntKind.signed,IntKind.bits];omega
theorem Zra {D MV:Fn} (E:∀a b c d,(D [I a,I b,I c,I d]).isSome=true) {v a b c low high:Int} (G: -9000000000000<=low/\low<=9000000000000) (J: -9000000000000<=high/\high<=9000000000000):
  Out (λo=>o.1=1) (Al (Ng D MV) [I v,I low,I high,I a,I b,I c]):=by
 refine Cl (λs:Int×Int=>[I v,I s.1,I s.2,I a,I b,I c]) (λs=>(-9000000000000<=s.1/\s.1<=9000000000000)/\(-9000000000000<=s.2/\s.2<=9000000000000)) (λs=>(s.2-s.1).toNat) _ ?_ (low,high) ⟨G,J⟩;rintro⟨l,h⟩ ⟨L,M⟩;dsimp only at*;rw[XF];refine .cond (λc=> ?_) (λc=> ?_)
 ·have c:=Bb c;have e:wrap .i64 (h-wrap .i64 ((wrap .i64 (h-l)).tdiv 2))=h-(h-l)/2:=by
   rw[Ae (x:=h-l) (by omega),bc (by omega),Ae (x:=(h-l)/2) (by omega),Ae (by omega)]
  rw[e];refine .ibind (E _ _ _ _) λo _=> ?_;refine .cond (λ_=> ?_) (λ_=> ?_)
  ·exact .some (.inl ⟨rfl,(h-(h-l)/2,h),rfl,by dsimp only;omega,by dsimp only;omega⟩)
  ·refine .some (.inl ⟨rfl,(l,h-(h-l)/2-1),?_,by dsimp only;omega,by dsimp only;omega⟩);rw[Ae (x:=h-(h-l)/2-1) (by omega)]
 ·exact .some (.inr ⟨by simp,rfl⟩)
theorem Zpa {J D:Fn} (L:∀a b c d,(J [I a,I b,I c,I d]).isSome=true) (M:∀a b c,D [I a,I b,I c]=some [B (decide (1<=a/\a<=65536/\2<=b/\b<=65536/\1<=c/\c<=16777216))]) (a b c v x:Int):
  (S8 J D (Al (Ng J D)) [I a,I b,I c,I v,I x]).isSome=true:=by
 rw[Zan,M];simp only[ag];refine B6 (λ_=>rfl) λN=>B6 (λ_=>rfl) λE=>B6 (λ_=>rfl) λG=> ?_;simp only[go_sem,Bool.not_eq_false',cq]at N;have E:=Bs E;have G:=Bs G;have T: -1099511627776<=x/\x<=1099511627776:=by
  unfold mx at E;unfold mn at G;split at E<;>split at G<;>omega
 obtain⟨o,O,S⟩:=Zra (MV:=D) L (v:=v) (a:=a) (b:=b) (c:=c) (low:=wrap .i64 (wrap .i64 (0-x)-b)) (high:=mn (wrap .i64 (b-x)) a)
  (by rw[Ae (x:=0-x) (by omega),Ae (by omega)];omega) (by rw[Ae (x:=b-x) (by omega)];unfold mn;split<;>omega)
 rw[O];simp only[ag,S];rfl
theorem Z7u (a b c v x:Int):(FL [I a,I b,I c,I v,I x]).isSome=true:=Zpa Qy9 QN a b c v x
theorem Zt5 {D J L:Fn} (M:∀a b c v x,(D [I a,I b,I c,I v,I x]).isSome=true) {a b c v x:Int}:
  Out (λo=>o.1=1\/o.1=2/\(wA o.2 0).length<=4096) (Al (ID D J L) [.view Aa [],I v,I x,I a,I b,I c]):=by
 refine Cl (λs:Rw×Int×Int=>[.view Aa s.1,I s.2.1,I s.2.2,I a,I b,I c]) (λs=>s.1.length<=4096) (λs=>4096-s.1.length) _ ?_ ([],v,x) (by simp);rintro⟨l,v,x⟩ h;dsimp only at*;rw[QS];refine .cond (λ_=> ?_) (λ_=> ?_)
 ·refine .cond (λ_=> ?_) (λE=> ?_)
  ·exact .some (.inr ⟨by simp, .inl rfl⟩)
  ·have E: ¬((l.length:Int)=4096):=by simpa using E
   refine .ibind (M _ _ _ _ _) λo _=> ?_;refine .cond (λ_=> ?_) (λG=> ?_)
   ·exact .some (.inl ⟨rfl,(_,_,_),rfl,by simp;omega,by simp;omega⟩)
   ·rw[Cy (by simp;omega)]at G;cases G
 ·exact .some (.inr ⟨by simp, .inr ⟨rfl,h⟩⟩)
theorem Zpc {D E G:Fn} (J:∀a b c v x,(D [I a,I b,I c,I v,I x]).isSome=true) (L:∀a b c v x,(E [I a,I b,I c,I v,I x]).isSome=true) (M:∀a b c,G [I a,I b,I c]=some [B (decide (1<=a/\a<=65536/\2<=b/\b<=65536/\1<=c/\c<=16777216))]) (a b c v x:Int):
  Out (λo=>(wA o 0).length<=4096) (QZ D E G (Al (ID D E G)) [I a,I b,I c,I v,I x]):=by
 rw[Wi,M];simp only[ag];refine .cond (λ_=> .some (by simp[gA,wA,bA,jA,nth,BZ])) λ_=> .ibind (L _ _ _ _ _) λo _=> .cond (λ_=> .some (by simp[gA,wA,bA,jA,nth,BZ])) λ_=> ?_;refine .bind (Zt5 J) λo h=> ?_;rcases h with h|⟨h,N⟩
 ·rw[h];exact .some (by simp[gA,wA,bA,jA,nth,BZ])
 ·rw[h];exact .some N
theorem Zkd (a b c v x:Int):Out (λo=>(wA o 0).length<=4096) (KS [I a,I b,I c,I v,I x]):=Zpc Z7u Qoj QN a b c v x
theorem Q4u {M:Fn} {u:Int} {sp out:Rw} (D:out.length=sp.length) (E:sp.length<=4096):
  Out (λo=>o.1=1/\(wA o.2 0).length=sp.length) (Al (H3 M) [.view Aa out,I u, .view Aa sp,I (sp.length:Int),I 0]):=by
 refine Cl (λs:Rw×Int×Nat=>[.view Aa s.1,I s.2.1, .view Aa sp,I (sp.length:Int),I (s.2.2:Int)]) (λs=>s.1.length=sp.length/\s.2.2<=sp.length) (λs=>sp.length-s.2.2) _ ?_ (out,u,0) ⟨D,by simp⟩;rintro⟨l,u,i⟩ ⟨g1,g2⟩;dsimp only at*;rw[Qe1];refine .cond (λc=> ?_) (λ_=> ?_)
 ·have c:=Bb c;refine .cond (λ_=> ?_) (λh=> ?_)
  ·refine .cond (λ_=> ?_) (λh=> ?_)
   ·have e:=Ae (x:=(i:Int)+1) (by omega);rw[e];generalize wrap .i64 (u+gA (nth [] sp (i:Int).toNat) 0)=z;exact .some (.inl ⟨rfl,(l.set (i:Int).toNat [I z],z,i+1),rfl,by simp;omega,by simp;omega⟩)
   ·simp at h;omega
  ·simp at h;omega
 ·exact .some (.inr ⟨by simp,rfl,g1⟩)
theorem Zgm {M:Fn} (D:∀a b c v x,Out (λo=>(wA o 0).length<=4096) (M [I a,I b,I c,I v,I x])) (a b c E G J L N O:Int):
  Out (λo=>(wA o 0).length<=4096) (Po M (Al (H3 M)) [I a,I b,I c,I E,I G,I J,I L,I N,I O]):=by
 rw[Tm];refine .bind (D _ _ _ _ _) λo h=> ?_;generalize wA o 0=sp at*;refine .cond (λ_=> .some (by simp[gA,wA,bA,jA,nth,BZ])) λ_=> ?_;refine .cond (λ_=> ?_) λc=>by simp at c
 refine .cond (λ_=> ?_) λc=>by simp at c;omega
 refine .bind (Q4u (by simp) h) λo g=> ?_;rw[g.1];exact .some (by show(wA o.2 0).length<=4096;omega)
theorem Qqd (a b c D E G J L M:Int):Out (λo=>(wA o 0).length<=4096) (Fk [I a,I b,I c,I D,I E,I G,I J,I L,I M]):=Zgm Zkd a b c D E G J L M
theorem Z7c {M:Fn} (O:∀a b c D E G J L N,Out (λo=>(wA o 0).length<=4096) (M [I a,I b,I c,I D,I E,I G,I J,I L,I N])) (a b c D E G J L N:Int):
  (Ln M [I a,I b,I c,I D,I E,I G,I J,I L,I N]).isSome=true:=by
 rw[U4];obtain⟨o,S,T⟩:=O a b c D E G J L N;rw[S];simp only[ag];generalize wA o 0=sp at*;refine B6 (λ_=>rfl) λ_=>B6 (λ_=>rfl) λc=>B6 (λ_=>rfl) λd=> ?_;have c: ¬((sp.length:Int)=0):=by simpa using c
 rw[Ae (by omega)]at d;simp at d;omega
theorem Qu0 (a b c D E G J L M:Int):(F5 [I a,I b,I c,I D,I E,I G,I J,I L,I M]).isSome=true:=Z7c Qqd a b c D E G J L M
theorem Z32 {m k:Nat} (h:2^(k+1)*m+2^k<w64):wrap .u64 (((BitVec.ofInt IntKind.u64.bits ((2^(k+1)*m:Nat):Int)|||BitVec.ofInt IntKind.u64.bits ((2^k:Nat):Int)).toNat:Nat):Int)=((2^(k+1)*m+2^k:Nat):Int):=by
 rw[BV]at h;have e:(BitVec.ofInt IntKind.u64.bits ((2^(k+1)*m:Nat):Int)|||BitVec.ofInt IntKind.u64.bits ((2^k:Nat):Int)).toNat=2^(k+1)*m+2^k:=by
  rw[BitVec.toNat_or];have e1:∀v:Nat,v<18446744073709551616->(BitVec.ofInt IntKind.u64.bits (v:Int)).toNat=v:=by
   intro v G;simp only[IntKind.bits,BitVec.toNat_ofInt];omega
  have D:0<2^k:=Nat.two_pow_pos _;generalize E:2^(k+1)*m=A at*;rw[e1 _ (by omega),e1 _ (by omega),<-E];exact(Nat.two_pow_add_eq_or_of_lt (Nat.pow_lt_pow_right (by omega) (by omega)) m).symm
 rw[e,Ic (by omega)]
theorem Zee (k:Nat):((2^(k+1):Nat):Int).fdiv (2^min (Int.toNat 1) IntKind.u64.bits)=((2^k:Nat):Int):=by
 have e:(2^min (Int.toNat 1) IntKind.u64.bits:Int)=2:=rfl;rw[e,Int.fdiv_eq_ediv_of_nonneg _ (by omega),Nat.pow_succ];omega
theorem Ztw:(1:Int).fdiv (2^min (Int.toNat 1) IntKind.u64.bits)=0:=rfl
theorem Qv5 {L M:Fn} (S:∀x y:Nat,x<w64->y<w64->∃hi D:Nat,M [U x,U y]=some [U hi,U D]/\hi*w64+D=x*y/\D<w64)
  (T:∀a b c d:Nat,b<w64->d<w64->L [U a,U b,U c,U d]=some [I (Hd (a*w64+b) (c*w64+d))]) {k m hi D:Nat} {bit:Int} (J:D<w64) (hb:((2^k:Nat):Int).fdiv (2^min (Int.toNat 1) IntKind.u64.bits)=bit) (h:2^(k+1)*m+2^k<w64):
  Ma L M [U ((2^(k+1)*m:Nat):Int),U ((2^k:Nat):Int),U hi,U D]=
   some (0,[U (((if(2^(k+1)*m+2^k)*(2^(k+1)*m+2^k)<=hi*w64+D then 2^(k+1)*m+2^k else 2^(k+1)*m):Nat):Int),U bit,U hi,U D]):=by
 obtain⟨G,V,e1,e2,e3⟩:=S _ _ h h;have E:=T G V hi D e3 J;rw[e2]at E;have N:0<2^k:=Nat.two_pow_pos _;rw[Q93,Z32 h,hb];simp only[go_sem,e1,E];rw[aa (by omega)];generalize(2^(k+1)*m+2^k)*(2^(k+1)*m+2^k)=q at*;unfold Hd;by_cases G:q<hi*w64+D
 ·rw[aa G,aa (by omega),aa (by omega)]
 ·rw[ab G];by_cases O:q=hi*w64+D
  ·rw[aa O,aa (by omega),aa (by omega)]
  ·rw[ab O,ab (by omega),ab (by omega)]
theorem Qc1 {N O:Fn} (J:∀x y:Nat,x<w64->y<w64->∃hi lo:Nat,O [U x,U y]=some [U hi,U lo]/\hi*w64+lo=x*y/\lo<w64)
  (L:∀a b c d:Nat,b<w64->d<w64->N [U a,U b,U c,U d]=some [I (Hd (a*w64+b) (c*w64+d))]) {hi lo:Nat} (D:lo<w64):∀(k m:Nat),2^(k+1)*m+2^(k+1)<=w64->
  (2^(k+1)*m)*(2^(k+1)*m)<=hi*w64+lo->hi*w64+lo<(2^(k+1)*m+2^(k+1))*(2^(k+1)*m+2^(k+1))->
  ∃r:Nat,Al (Ma N O) [U ((2^(k+1)*m:Nat):Int),U ((2^k:Nat):Int),U hi,U lo]=some (1,[U r])/\r*r<=hi*w64+lo/\hi*w64+lo<(r+1)*(r+1)/\r<w64
 |0,m,V,M,S=>by
  have T:=Qv5 J L (k:=0) (m:=m) (hi:=hi) (bit:=0) D Ztw (by simp at V⊢;omega);rw[Bv T];have E:∀r:Nat,Al (Ma N O) [U (r:Int),U 0,U hi,U lo]=some (1,[U r]):=by
   intro r;refine A7 ?_ (by simp);rw[Q93];simp only[go_sem];rw[ab (by omega)]
  simp only[Nat.zero_add,Nat.pow_one,Nat.pow_zero]at*;by_cases h:(2*m+1)*(2*m+1)<=hi*w64+lo
  ·rw[aa h,E];exact⟨_,rfl,h,S,by omega⟩
  ·rw[ab h,E];exact⟨_,rfl,M,by omega,by omega⟩
 |k+1,m,V,M,S=>by
  have e1:2^(k+1+1)*m=2^(k+1)*(2*m):=by rw[Nat.pow_succ 2 (k+1),Nat.mul_assoc]
  have e2:2^(k+1+1)*m+2^(k+1)=2^(k+1)*(2*m+1):=by rw[e1,Nat.mul_add,Nat.mul_one]
  have e3:2^(k+1+1)=2^(k+1)+2^(k+1):=by rw[Nat.pow_succ 2 (k+1)];omega
  have X:0<2^(k+1):=Nat.two_pow_pos _;have T:=Qv5 J L (k:=k+1) (m:=m) (hi:=hi) (bit:=((2^k:Nat):Int)) D (Zee k) (by omega);rw[Bv T];by_cases h:(2^(k+1+1)*m+2^(k+1))*(2^(k+1+1)*m+2^(k+1))<=hi*w64+lo
  ·rw[aa h,e2];rw[e2]at h;refine Qc1 J L D k (2*m+1) ?_ h ?_
   ·rw[<-e2];omega
   ·rw[<-e2];rw[show 2^(k+1+1)*m+2^(k+1)+2^(k+1)=2^(k+1+1)*m+2^(k+1+1) by omega];exact S
  ·rw[ab h];have Y:hi*w64+lo<(2^(k+1+1)*m+2^(k+1))*(2^(k+1+1)*m+2^(k+1)):=by omega
   have G:2^(k+1+1)*m+2^(k+1)<=w64:=by omega
   rw[e1]at M Y G⊢;exact Qc1 J L D k (2*m) G M Y
theorem Zvh {D E:Fn} (O:∀x y:Nat,x<w64->y<w64->∃hi lo:Nat,E [U x,U y]=some [U hi,U lo]/\hi*w64+lo=x*y/\lo<w64)
  (S:∀a b c d:Nat,b<w64->d<w64->D [U a,U b,U c,U d]=some [I (Hd (a*w64+b) (c*w64+d))]) {hi lo:Nat} (G:hi<w64) (J:lo<w64):
  ∃r:Nat,Qb0 D E (Al (Ma D E)) [U hi,U lo]=some [U r]/\r*r<=hi*w64+lo/\hi*w64+lo<(r+1)*(r+1)/\r<w64:=by
 have hb:hi*w64+lo<w64*w64:=by
  have:hi*w64+w64<=w64*w64:=by rw[<-Nat.succ_mul];exact bf _ G
  omega
 obtain⟨r,M,T,V,X⟩:=Qc1 O S (hi:=hi) (lo:=lo) J 63 0 (by rw[BV];omega) (by simp) (by rw[Nat.mul_zero,Nat.zero_add,show 2^(63+1)=w64 by rw[BV]];exact hb);refine⟨r,?_,T,V,X⟩;rw[Nat.mul_zero]at M;generalize Al (Ma D E)=N at*;have L:N [AC.int IntKind.u64 0,AC.int IntKind.u64 9223372036854775808,AC.int IntKind.u64 hi,AC.int IntKind.u64 lo]=some (1,[U r]):=M;rw[Z5x,L];simp only[go_sem]
theorem Zc0 {hi lo:Nat} (D:hi<w64) (E:lo<w64):∃r:Nat,J5 [U hi,U lo]=some [U r]/\r*r<=hi*w64+lo/\hi*w64+lo<(r+1)*(r+1)/\r<w64:=
 Zvh (λ_ _ G I=>Pd G I) Qw7 D E
theorem Qfr {n:Nat} (h:n<9223372036854775808):FA [U n,B false]=some [I n,B true]:=by
 unfold FA;rw[Qpu];simp only[go_sem];rw[ab (by simp),aa (by simp),aa (by omega),Ae (by omega)]
theorem Zrr {x y b:Nat} (G:x<w64) (I:y<w64) (hb:b=0\/b=1):KP [U x,U y,U b]=some [U (((x:Int)-y-b)%Ge),U (if x<y+b then 1 else 0)]:=by
 rw[BV]at G I;have D:Ge=18446744073709551616:=rfl;have J:∀z:Nat,z<18446744073709551616->inU (z:Int)=true:=by
  intro z L;simp only[inU,D,ak,cq];omega
 have E:(decide ((b:Int)=0)||decide ((b:Int)=1))=true:=by
  rcases hb with rfl|rfl<;>simp
 unfold KP;simp only[Ik,Mx,L7,H5,gA,jA,wA,bA];rw[J x G,J y I,E];by_cases h:x<y+b
 ·rw[aa h,Ee (p:=(x:Int)<y+b) (by omega)];simp
 ·rw[ab h,A_ (p:=(x:Int)<y+b) (by omega)];simp
theorem Q2d {x y:Nat} (E:x<w64) (G:y<=x):KP [U x,U y,U 0]=some [U ((x-y:Nat):Int),U 0]:=by
 have:=Zrr (x:=x) (y:=y) (b:=0) E (by omega) (.inl rfl);have D:Ge=18446744073709551616:=rfl;rw[BV]at E;rw[ab (by omega),D,show((x:Int)-y-((0:Nat):Int))%18446744073709551616=((x-y:Nat):Int) by omega]at this;exact this
theorem Ztb {L E M N:Fn} {n r:Nat} {mode:Int} (hn:n<9223372036854775807) (S:r*r<=n) (T:N [U 0,U n]=some [U r]) (V:M [U r,U r]=some [U 0,U ((r*r:Nat):Int)]) (G:E [U n,U ((r*r:Nat):Int),U 0]=some [U ((n-r*r:Nat):Int),U 0])
  (J:E [U 0,U 0,U 0]=some [U 0,U 0]) (O:∀k:Nat,k<9223372036854775808->L [U k,B false]=some [I k,B true]) (D:mode=1\/mode=2):
  X9 L E M N [U 0,U n,I mode]=some [I ((if(mode=1/\r*r<n)\/(mode=2/\r*r+r<n)then r+1 else r:Nat):Int),B true]:=by
 have X:r<=r*r:=by
  rcases Nat.eq_zero_or_pos r with h|h
  ·subst h;simp
  ·exact Nat.le_mul_of_pos_left r h
 have Y:wrap .u64 ((r:Int)+1)=((r+1:Nat):Int):=by rw[Ic (by omega)];omega
 have s1:=O r (by omega);have s2:=O (r+1) (by omega);rw[Zx9];simp only[go_sem,T,V,G,J,Y,s1,s2];rcases D with rfl|rfl
 ·rw[aa rfl,ab (by omega)];by_cases h:r*r<n
  ·rw[aa (by omega),aa (by omega)]
  ·rw[ab (by omega),ab (by omega),ab (by omega)]
 ·rw[ab (by omega),aa rfl,ab (by omega)];by_cases h:r*r+r<n
  ·rw[aa (by omega),aa (by omega)]
  ·rw[ab (by omega),ab (by omega)]
theorem Zh9 {D E:Fn} {n:Nat} {mode:Int} {k:Int} (M:n<9223372036854775807) (G:E [I mode]=some [B true]) (J:D [U 0,U n,I mode]=some [I k,B true]):ZR D E [I n,I mode]=some [I k,B true]:=by
 have L:wrap .u64 (n:Int)=(n:Int):=Ic (by omega);rw[Z0z];simp only[go_sem,G,L,J];rw[ab (by omega),ab (by simp)]
theorem Qi9 {mode:Int} (h:mode=0\/mode=1\/mode=2):Gm [I mode]=some [B true]:=by
 unfold Gm;rw[Q38];rcases h with rfl|rfl|rfl<;>rfl
theorem Qwv {n:Nat} {mode:Int} (O:n<9223372036854775807) (D:mode=1\/mode=2):
  ∃r:Nat,Jb [I n,I mode]=some [I ((if(mode=1/\r*r<n)\/(mode=2/\r*r+r<n)then r+1 else r:Nat):Int),B true]/\r*r<=n/\n<(r+1)*(r+1):=by
 have E:n<w64:=by rw[BV];omega
 obtain⟨r,V,L,S,T⟩:=Zc0 (hi:=0) (lo:=n) RR E;rw[Nat.zero_mul,Nat.zero_add]at L S;obtain⟨G,J,e1,e2,e3⟩:∃G J:Nat,II [U r,U r]=some [U G,U J]/\G*w64+J=r*r/\J<w64:=⟨_,_,Q8d T T,Q2n _,Nat.mod_lt _ RR⟩;have M:G=0:=by
  rcases Nat.eq_zero_or_pos G with h|h
  ·exact h
  ·have:=bf w64 h;omega
 subst M;have N:J=r*r:=by omega
 subst N;have z:=Q2d (x:=0) (y:=0) RR (co _);refine⟨r,?_,L,S⟩;exact Zh9 O (Qi9 (.inr D)) (Ztb O L V e1 (Q2d E L) z (λk X=>Qfr X) D)
def Bw (a b:Int):Int:=(2*a+b)/(2*b)
theorem L4 {a b k:Int} (hb:0<b) (D:k*(2*b)<=2*a+b) (E:2*a+b<(k+1)*(2*b)):Bw a b=k:=by
 unfold Bw;have g1:k<=(2*a+b)/(2*b):=(Int.le_ediv_iff_mul_le (by omega)).2 D;have g2:(2*a+b)/(2*b)<k+1:=(Int.ediv_lt_iff_lt_mul (by omega)).2 E;omega
theorem Q9d {p c:Nat} (D:p<w64) (I:0<c):G9 [U 0,U p,U c]=some [U ((p/c:Nat):Int),U ((p%c:Nat):Int)]:=by
 rw[BV]at D;have E:(p:Int).tdiv (c:Int)=((p/c:Nat):Int):=by rw[bc (by omega)];simp
 have G:(p:Int).tmod (c:Int)=((p%c:Nat):Int):=by rw[Int.tmod_eq_emod_of_nonneg (by omega)];simp
 have J:p/c<=p:=Nat.div_le_self _ _;unfold G9;generalize I8=M;generalize UN=L;generalize Qgn=N;rw[Q0b];rw[Bn (by simp;omega),A_ (by omega),BO (by simp),A_ (by omega),A_ (by omega),E,G];generalize p/c=q at*;rw[Ic (by omega)]
theorem Zba (more:Int) (some_ neg:Bool):If [I 2,I more,B some_,B neg]=some [B (if more>0 then true else if more=0 then !neg else false)]:=by
 unfold If;rw[Q0x];simp only[go_sem];rw[ab (by omega),ab (by omega)]
 repeat' split
 all_goals rfl
theorem Qv1 {n:Nat} (h:n<=9223372036854775808):FA [U n,B true]=some [I (-(n:Int)),B true]:=by
 unfold FA;rw[Qpu];simp only[go_sem];rw[aa (by omega),NY,S2];have:((0-(n:Int))%18446744073709551616+9223372036854775808)%18446744073709551616-9223372036854775808= -(n:Int):=by omega
 rw[this]
def Hx (q r c:Nat) (neg:Bool):Nat:=if r>c-r then q+1 else if r<c-r then q else if neg then q else q+1
theorem Z8n {M1 M2 M3 M4 M5 M6 M7:Fn} {a b s:Int} {A C p q r c:Nat} (L:0<c) (M:c<9223372036854775808) (hr:r<c) (hq:q<9223372036854775807)
  (N:M7 [I 2]=some [B true]) (O:M6 [I a]=some [U A]) (S:M6 [I b]=some [U C]) (T:M6 [I c]=some [U c]) (V:M5 [U A,U C]=some [U 0,U p]) (X:M4 [U 0,U p,U c]=some [U q,U r]) (Y:M3 [I a,I b]=some [I s])
  (k8:∀(more:Int) (some_ neg:Bool),M2 [I 2,I more,B some_,B neg]=some [B (if more>0 then true else if more=0 then !neg else false)])
  (G:∀k:Nat,k<9223372036854775808->M1 [U k,B false]=some [I k,B true]) (D:∀k:Nat,k<9223372036854775808->M1 [U k,B true]=some [I (-(k:Int)),B true]):
  S5 M1 M2 M3 M4 M5 M6 M7 [I a,I b,I c,I 2]=some [I (if s<0 then-(Hx q r c true:Int)else(Hx q r c false:Int)),B true]:=by
 have w1:wrap .u64 ((c:Int)-(r:Int))=((c-r:Nat):Int):=by rw[Ic (by omega)];omega
 have w2:wrap .u64 ((q:Int)+1)=((q+1:Nat):Int):=by rw[Ic (by omega)];omega
 have n1:=G q (by omega);have n2:=G (q+1) (by omega);rw[Q9l];simp only[go_sem,N,O,S,T,V,X,Y,k8,w1,w2,n1,n2];rw[ab (by omega),ab (by simp),ab (by omega)];by_cases J:s<0
 ·rw[aa J];rw[aa (show¬(s<0↔(c:Int)<0) by omega)];have E:(s !=0)=true:=by simp;omega
  rw[E];unfold Hx;by_cases g1:r>c-r
  ·rw[aa g1];rw[aa (show(r:Int)>((c-r:Nat):Int) by omega),aa (by decide),ab (show¬((q+1:Nat):Int)=0 by omega),D (q+1) (by omega)];simp only[go_sem]
  ·rw[ab g1];rw[ab (show¬(r:Int)>((c-r:Nat):Int) by omega)];by_cases g2:r<c-r
   ·rw[aa g2];rw[aa (show(r:Int)<((c-r:Nat):Int) by omega),ab (by decide),D q (by omega)];simp only[go_sem]
   ·rw[ab g2,aa rfl];rw[ab (show¬(r:Int)<((c-r:Nat):Int) by omega),ab (by decide),D q (by omega)];simp only[go_sem]
 ·rw[ab J];rw[ab (show¬¬(s<0↔(c:Int)<0) by omega)];unfold Hx;by_cases g1:r>c-r
  ·rw[aa g1,aa (show(r:Int)>((c-r:Nat):Int) by omega),aa (by decide),ab (show¬((q+1:Nat):Int)=0 by omega)]
  ·rw[ab g1,ab (show¬(r:Int)>((c-r:Nat):Int) by omega)];by_cases g2:r<c-r
   ·rw[aa g2,aa (show(r:Int)<((c-r:Nat):Int) by omega),ab (by decide)]
   ·rw[ab g2,ab (show¬(r:Int)<((c-r:Nat):Int) by omega),aa (by decide),ab (show¬((q+1:Nat):Int)=0 by omega),ab (by decide)]
theorem Z37 (q r c:Nat):Hx q r c false=if r<c-r then q else q+1:=by
 unfold Hx;by_cases E:r>c-r
 ·rw[aa E,ab (by omega)]
 ·rw[ab E];by_cases D:r<c-r
  ·rw[aa D,aa D]
  ·rw[ab D,ab D,ab (by simp)]
theorem Z9d (q r c:Nat):Hx q r c true=if r>c-r then q+1 else q:=by
 unfold Hx;by_cases D:r>c-r
 ·rw[aa D,aa D]
 ·rw[ab D,ab D];by_cases E:r<c-r
  ·rw[aa E]
  ·rw[ab E,aa rfl]
theorem Q62 {p q r c:Nat} (I:0<c) (h:p=c*q+r) (J:r<c):Bw p c=Hx q r c false:=by
 have e:(p:Int)=(c:Int)*q+r:=by rw[h];simp
 have e3:(q:Int)*(2*c)=2*((c:Int)*q):=by grind
 have D:((q+1:Nat):Int)*(2*c)=2*((c:Int)*q)+2*c:=by grind
 have E:((q:Int)+1)*(2*c)=2*((c:Int)*q)+2*c:=by grind
 have G:(((q+1:Nat):Int)+1)*(2*c)=2*((c:Int)*q)+4*c:=by grind
 rw[Z37];by_cases g:r<c-r
 ·rw[aa g];exact L4 (by omega) (by rw[e3];omega) (by rw[E];omega)
 ·rw[ab g];exact L4 (by omega) (by rw[D];omega) (by rw[G];omega)
theorem Zru {p q r c:Nat} (I:0<c) (h:p=c*q+r) (J:r<c):Bw (-(p:Int)) c= -(Hx q r c true:Int):=by
 have e:(p:Int)=(c:Int)*q+r:=by rw[h];simp
 have e3: -(q:Int)*(2*c)= -(2*((c:Int)*q)):=by grind
 have D: -((q+1:Nat):Int)*(2*c)= -(2*((c:Int)*q))-2*c:=by grind
 have E:(-(q:Int)+1)*(2*c)= -(2*((c:Int)*q))+2*c:=by grind
 have G:(-((q+1:Nat):Int)+1)*(2*c)= -(2*((c:Int)*q)):=by grind
 rw[Z9d];by_cases g:r>c-r
 ·rw[aa g];exact L4 (by omega) (by rw[D];omega) (by rw[G];omega)
 ·rw[ab g];exact L4 (by omega) (by rw[e3];omega) (by rw[E];omega)
theorem Tw {a b c:Int} (T:i64 a) (hb:i64 b) (hc:0<c/\c<9223372036854775808) (hp:a.natAbs*b.natAbs<9223372036854775807):BE [I a,I b,I c,I 2]=some [I (Bw (a*b) c),B true]:=by
 obtain⟨U,E,e1,e2,e3⟩:=Pd (NF T) (NF hb);have M:=U3 a b;have X:=TK a b;have Y:a*b=0->a.natAbs*b.natAbs=0:=λh=>by rw[<-Int.natAbs_mul,h];rfl
 generalize a.natAbs*b.natAbs=p at*;have N:U=0:=by
  rcases Nat.eq_zero_or_pos U with h|h
  ·exact h
  ·have:=bf w64 h;have:=BV;omega
 subst N;have O:E=p:=by omega
 subst O;obtain⟨n,rfl⟩:=bv (show 0<=c by omega);have G:0<n:=by omega
 have S:=Nat.div_add_mod E n;have L:=Nat.mod_lt E G;have h3:E/n<=E:=Nat.div_le_self _ _;have hd:=Q9d e3 G;have J:=I4 (x:=(n:Int)) (by unfold i64;omega);rw[Int.natAbs_natCast]at J;generalize E/n=q at*;generalize E%n=r at*;have D:=Z8n (M1:=FA) (M2:=If) (M3:=Gp) (M4:=G9) (M5:=E2) (M6:=GI) (M7:=Gm) G (by omega) L (by omega)
  (Qi9 (.inr (.inr rfl))) (I4 T) (I4 hb) J e1 hd (Yn a b) Zba (λk V=>Qfr V) (λk V=>Qv1 (by omega))
 have hv:(if sgn a b<0 then-(Hx q r n true:Int)else(Hx q r n false:Int))=Bw (a*b) n:=by
  rcases X with⟨g1,g2⟩|⟨g1,g2⟩|⟨g1,g2⟩
  ·rw[ab (by omega),g2];rw[g1]at M;have:E=0:=Y g2;rw[<-Q62 G S.symm L,this];rfl
  ·rw[ab (by omega),<-Q62 G S.symm L,<-M,g1,Int.one_mul]
  ·rw[aa (by omega),<-Zru G S.symm L,<-M,g1,Int.neg_mul,Int.one_mul]
 rw[hv]at D;exact D
def val:List Nat->Nat
 |[]=>0
 |d::l=>d+65536*val l
def Dig (l:List Nat):Prop:=∀d∈l,d<65536
theorem Dig.sub {l m:List Nat} (h:Dig l) (D:∀d∈m,d∈l):Dig m:=λd E=>h d (D d E)
theorem Dig.set {l:List Nat} (h:Dig l) (j d:Nat) (D:d<65536):Dig (l.set j d):=by
 intro x E;rcases List.mem_or_eq_of_mem_set E with h'|rfl
 ·exact h x h'
 ·exact D
def bd (A:Nat) (p:Pt):Prop:=p.x.natAbs<=A/\p.y.natAbs<=A/\p.z.natAbs<=A
def JN (a b:Pt):Int:=a.x*b.x+a.y*b.y+a.z*b.z
def Hy (a b:Pt):Pt:=⟨a.x-b.x,a.y-b.y,a.z-b.z⟩
theorem Im {x y:Int} {A B:Nat} (D:x.natAbs<=A) (E:y.natAbs<=B):(x*y).natAbs<=A*B:=by rw[Int.natAbs_mul];exact dl D E
theorem A6 {A B:Nat} {a:Pt} (h:bd A a) (D:A<=B):bd B a:=⟨cg h.1 D,cg h.2.1 D,cg h.2.2 D⟩
theorem Z40 (a b:Pt):JN (Hy a b) (Hy a b)=JN (Hy b a) (Hy b a):=by
 simp only[JN,Hy];have h:∀x y:Int,(x-y)*(x-y)=(y-x)*(y-x):=by intro x y;rw[<-Int.neg_mul_neg,Int.neg_sub]
 rw[h a.x,h a.y,h a.z]
theorem Zyo {x y:Int}:LJ x y<=0↔x<=y:=by
 unfold LJ;by_cases h:x<y
 ·rw[aa h];omega
 ·rw[ab h];by_cases h':x=y
  ·rw[aa h'];omega
  ·rw[ab h'];omega
theorem Q3d (v:Nat) (h:v<w64):wrap .u64 (((BitVec.ofInt IntKind.u64.bits (v:Int)&&&BitVec.ofInt IntKind.u64.bits 4294967295).toNat:Nat):Int)=((v%4294967296:Nat):Int):=by
 rw[BV]at h;have e:(BitVec.ofInt IntKind.u64.bits (v:Int)&&&BitVec.ofInt IntKind.u64.bits 4294967295).toNat=v%4294967296:=by
  rw[BitVec.toNat_and];have e1:(BitVec.ofInt IntKind.u64.bits (v:Int)).toNat=v:=by
   simp only[IntKind.bits,BitVec.toNat_ofInt];omega
  have e2:(BitVec.ofInt IntKind.u64.bits 4294967295).toNat=2^32-1:=by
   simp only[IntKind.bits,BitVec.toNat_ofInt];rfl
  rw[e1,e2,Nat.and_two_pow_sub_one_eq_mod]
 rw[e,Ic (by omega)]
theorem Q0m (v:Nat):(v:Int).fdiv (2^min (Int.toNat 32) IntKind.u64.bits)=((v/4294967296:Nat):Int):=by
 have e:(2^min (Int.toNat 32) IntKind.u64.bits:Int)=4294967296:=rfl;rw[e,Int.fdiv_eq_ediv_of_nonneg _ (by omega)];omega
def E5 (a n:Nat) (down:Bool) (j:Nat):Prop:=
 (j=0\/if down=true then(2*j-1)*(2*j-1)*n<4*(a*a)else(2*j-1)*(2*j-1)*n<=4*(a*a))/\
 (if down=true then 4*(a*a)<=(2*j+1)*(2*j+1)*n else 4*(a*a)<(2*j+1)*(2*j+1)*n)
theorem Rg {p q n:Nat} (h:p<=q):p*p*n<=q*q*n:=bf _ (dl h h)
theorem Zhh {a n:Nat} {down:Bool} {i j:Nat} (G:E5 a n down i) (I:E5 a n down j):i=j:=by
 have key:∀{i j:Nat},E5 a n down i->E5 a n down j-> ¬i<j:=by
  rintro i j ⟨-,E⟩ ⟨D,-⟩ L;have M:=Rg (n:=n) (show 2*i+1<=2*j-1 by omega);rcases D with D|D
  ·omega
  ·by_cases J:down=true
   ·rw[aa J]at E D;omega
   ·rw[ab J]at E D;omega
 have N:=key G I;have E:=key I G;omega
open Classical in
noncomputable def rnd (a n:Nat) (down:Bool):Nat:=if h:∃j,E5 a n down j then Classical.choose h else 0
theorem R0 {a n:Nat} {down:Bool} {j:Nat} (h:E5 a n down j):rnd a n down=j:=by
 have D:∃j,E5 a n down j:=⟨j,h⟩;unfold rnd;rw[dif_pos D];exact Zhh (Classical.choose_spec D) h
noncomputable def Ci (x r n:Int):Int:=if x<0 then-(rnd (x.natAbs*r.natAbs) n.natAbs true:Int)else(rnd (x.natAbs*r.natAbs) n.natAbs false:Int)
theorem Xr {X R n j:Nat} {down:Bool} (E:0<n) (G:X*X<=n) (h:E5 (X*R) n down j):j<=R:=by
 by_cases c:j<=R
 ·exact c
 exfalso;have e:4*(X*R*(X*R))=(2*R)*(2*R)*(X*X):=by grind
 have I:(2*R)*(2*R)*(X*X)<=(2*R)*(2*R)*n:=Nat.mul_le_mul_left _ G;have J:(2*R)*(2*R)*n<(2*R+1)*(2*R+1)*n:=Nat.mul_lt_mul_of_pos_right (Nat.mul_self_lt_mul_self (by omega)) E;have L:(2*R+1)*(2*R+1)*n<=(2*j-1)*(2*j-1)*n:=Rg (by omega);obtain⟨D,-⟩:=h;rcases D with D|D
 ·omega
 ·split at D<;>omega
theorem Zon {X R n j:Nat} {down:Bool} (D:0<n) (E:R*R<=n) (h:E5 (X*R) n down j):j<=X:=by
 rw[Nat.mul_comm]at h;exact Xr D E h
theorem Zyy {a n q:Nat} (down:Bool) (E:q*q*n<=a*a) (G:a*a<(q+1)*(q+1)*n):
  E5 a n down (if(if down=true then(2*q+1)*(2*q+1)*n<2*a*(2*a)else(2*q+1)*(2*q+1)*n<=2*a*(2*a))then q+1 else q):=by
 have I:2*a*(2*a)=4*(a*a):=by grind
 rw[I];have e1:4*(q*q*n)<=4*(a*a):=Nat.mul_le_mul_left _ E;have e2:4*(a*a)<4*((q+1)*(q+1)*n):=by omega
 have L:(2*q-1)*(2*q-1)*n<=(2*q)*(2*q)*n:=Rg (by omega);have M:(2*q)*(2*q)*n=4*(q*q*n):=by grind
 have e7:(2*(q+1))*(2*(q+1))*n=4*((q+1)*(q+1)*n):=by grind
 have N:(2*(q+1))*(2*(q+1))*n<=(2*(q+1)+1)*(2*(q+1)+1)*n:=Rg (by omega);have O:n=0\/q=0\/(2*q-1)*(2*q-1)*n<(2*q)*(2*q)*n:=by
  by_cases D:n=0
  ·exact .inl D
  ·by_cases J:q=0
   ·exact .inr (.inl J)
   ·right;right;refine Nat.mul_lt_mul_of_pos_right ?_ (by omega);exact Nat.mul_self_lt_mul_self (by omega)
 have D:n≠0:=by rintro rfl;simp at G
 unfold E5;cases down
 ·simp only[Bool.false_eq_true,if_false];by_cases c:(2*q+1)*(2*q+1)*n<=4*(a*a)
  ·rw[aa c];refine⟨.inr ?_,by omega⟩;rw[show 2*(q+1)-1=2*q+1 by omega];exact c
  ·rw[ab c];exact⟨by omega,by omega⟩
 ·simp only[if_true];by_cases c:(2*q+1)*(2*q+1)*n<4*(a*a)
  ·rw[aa c];refine⟨.inr ?_,by omega⟩;rw[show 2*(q+1)-1=2*q+1 by omega];exact c
  ·rw[ab c];exact⟨by omega,by omega⟩
theorem Zsn {A N:Nat} (D:0<N):∃q:Nat,q*q*N<=A*A/\A*A<(q+1)*(q+1)*N:=by
 have key:∀n:Nat,∃r:Nat,r*r<=n/\n<(r+1)*(r+1):=by
  intro n;induction n with
  |zero=>exact⟨0,by simp,by simp⟩
  |succ n I=>
   obtain⟨r,E,G⟩:=I;by_cases h:n+1<(r+1)*(r+1)
   ·exact⟨r,by omega,h⟩
   ·refine⟨r+1,by omega,?_⟩;have:(r+1+1)*(r+1+1)=(r+1)*(r+1)+2*(r+1)+1:=by grind
    omega
 obtain⟨q,E,G⟩:=key (A*A/N);exact⟨q,(Nat.le_div_iff_mul_le D).1 E,(Nat.div_lt_iff_lt_mul D).1 G⟩
theorem Tn {x r n:Int} (S:x.natAbs<=33554432*4) (J:0<=r/\r<=33554432*4) (T:0<n/\n<=4611686018427387904) (L:x*x<=n):
  True/\(Ci x r n).natAbs<=268435456/\E5 (x.natAbs*r.natAbs) n.natAbs (decide (x<0)) (Ci x r n).natAbs:=by
 obtain⟨R,rfl⟩:=bv J.1;obtain⟨N,rfl⟩:=bv (show 0<=n by omega);have I:x.natAbs*x.natAbs<=N:=by
  have:((x.natAbs*x.natAbs:Nat):Int)=x*x:=by rw[Int.natAbs_mul_self]
  omega
 simp only[Ci,Int.natAbs_natCast];obtain⟨q,M,O⟩:=Zsn (A:=x.natAbs*R) (N:=N) (by omega);obtain⟨j,G⟩:∃j,E5 (x.natAbs*R) N (decide (x<0)) j:=⟨_,Zyy (decide (x<0)) M O⟩;have hle:=Xr (X:=x.natAbs) (R:=R) (by omega) I G;have D:=R0 G;by_cases E:x<0
 ·have e:=al E;rw[e]at G D⊢;rw[aa E,D,Int.natAbs_neg,Int.natAbs_natCast];exact⟨trivial,by omega,G⟩
 ·have e:=am E;rw[e]at G D⊢;rw[ab E,D,Int.natAbs_natCast];exact⟨trivial,by omega,G⟩
def IU (n k:Int):Prop:=0<=k/\n<=k*k/\(k=0\/(k-1)*(k-1)<n)
theorem Ze6 {n i j:Int} (E:IU n i) (G:IU n j):i=j:=by
 have key:∀{i j:Int},IU n i->IU n j-> ¬i<j:=by
  rintro i j ⟨I,J,-⟩ ⟨M,N,D⟩ L;rcases D with D|D
  ·omega
  ·have:=Int.mul_self_le_mul_self I (show i<=j-1 by omega);omega
 have I:=key E G;have J:=key G E;omega
open Classical in
noncomputable def upR (n:Int):Int:=if h:∃j,IU n j then Classical.choose h else 0
theorem Zcm {n k:Int} (h:IU n k):upR n=k:=by
 have D:∃j,IU n j:=⟨k,h⟩;unfold upR;rw[dif_pos D];exact Ze6 (Classical.choose_spec D) h
theorem Q2f {n r:Nat} (D:r*r<=n) (E:n<(r+1)*(r+1)):IU n (if r*r<n then r+1 else r:Nat):=by
 unfold IU;by_cases c:r*r<n
 ·rw[aa c];have e1:((r+1:Nat):Int)*((r+1:Nat):Int)=(((r+1)*(r+1):Nat):Int):=(Int.natCast_mul _ _).symm;have e2:(((r+1:Nat):Int)-1)*(((r+1:Nat):Int)-1)=((r*r:Nat):Int):=by
   rw[show((r+1:Nat):Int)-1=(r:Int) by omega];exact(Int.natCast_mul _ _).symm
  rw[e1,e2];generalize(r+1)*(r+1)=A at*;generalize r*r=B at*;exact⟨by omega,by omega, .inr (by omega)⟩
 ·rw[ab c];have e1:(r:Int)*(r:Int)=((r*r:Nat):Int):=(Int.natCast_mul _ _).symm;rw[e1];refine⟨by omega,by omega,?_⟩;rcases Nat.eq_zero_or_pos r with h|h
  ·left;omega
  ·right;have e2:((r:Int)-1)*((r:Int)-1)=(((r-1)*(r-1):Nat):Int):=by
    rw[show(r:Int)-1=((r-1:Nat):Int) by omega];exact(Int.natCast_mul _ _).symm
   have:=Nat.mul_self_lt_mul_self (show r-1<r by omega);rw[e2];omega
theorem Zf5 (k:Nat):((2^(k+1):Nat):Int).fdiv (2^min (Int.toNat 1) IntKind.i64.bits)=((2^k:Nat):Int):=by
 have e:(2^min (Int.toNat 1) IntKind.i64.bits:Int)=2:=rfl;rw[e,Int.fdiv_eq_ediv_of_nonneg _ (by omega),Nat.pow_succ];omega
theorem Z5n:(1:Int).fdiv (2^min (Int.toNat 1) IntKind.i64.bits)=0:=rfl
theorem Zet:∀n:Nat,∃r:Nat,r*r<=n/\n<(r+1)*(r+1):=by
 intro n;induction n with
 |zero=>exact⟨0,by simp,by simp⟩
 |succ n D=>
  obtain⟨r,E,G⟩:=D;by_cases h:n+1<(r+1)*(r+1)
  ·exact⟨r,by omega,h⟩
  ·refine⟨r+1,by omega,?_⟩;have:(r+1+1)*(r+1+1)=(r+1)*(r+1)+2*(r+1)+1:=by grind
   omega
theorem U2 {n:Nat} (G:n<4611686018427387904):∃r:Nat,True/\r*r<=n/\n<(r+1)*(r+1)/\r<2147483648:=by
 obtain⟨r,D,E⟩:=Zet n;refine⟨r,trivial,D,E,?_⟩;by_cases c:r<2147483648
 ·exact c
 ·have:=dl (show 2147483648<=r by omega) (show 2147483648<=r by omega);omega
def sqD (a b:Pt):Int:=JN (Hy a b) (Hy a b)
theorem Qf (a b:Pt):0<=sqD a b:=by
 unfold sqD JN;have h:∀u:Int,0<=u*u:=λu=>by rw[<-Int.natAbs_mul_self];omega
 have:=h (Hy a b).x;have:=h (Hy a b).y;have:=h (Hy a b).z;omega
theorem D6 {x:Int} {A:Nat} (h:x.natAbs<=A):0<=x*x/\x*x<=((A*A:Nat):Int):=by
 have:=dl h h;rw[<-Int.natAbs_mul_self];omega
theorem P9 {A:Nat} {a b:Pt} (D:bd A a) (hb:bd A b) (E:A<=67108864):sqD a b<=54043195528445952:=by
 have h:∀x y:Int,x.natAbs<=A->y.natAbs<=A->(x-y)*(x-y)<=18014398509481984:=by
  intro x y G I;exact(D6 (x:=x-y) (A:=134217728) (by omega)).2
 have J:=h _ _ D.1 hb.1;have L:=h _ _ D.2.1 hb.2.1;have M:=h _ _ D.2.2 hb.2.2;unfold sqD JN Hy;simp only;omega
noncomputable def AH (a b:Pt):Int:=upR (sqD a b)
theorem YQ {a b:Pt} (E:bd 67108864 a) (hb:bd 67108864 b):True/\IU (sqD a b) (AH a b):=by
 have G:=Qf a b;have I:=P9 E hb (co _);obtain⟨d,J⟩:=bv G;unfold AH;rw[J]at I⊢;obtain⟨r,-,L,M,N⟩:=U2 (n:=d) (by omega);have D:=Q2f L M;rw[Zcm D];exact⟨trivial,D⟩
theorem IL {a b:Pt} (E:bd 67108864 a) (hb:bd 67108864 b):0<=AH a b/\AH a b<=268435456:=by
 obtain⟨-,G,I,D⟩:=YQ E hb;have J:=P9 E hb (co _);refine⟨G,?_⟩;rcases D with D|D
 ·omega
 ·by_cases c:AH a b<=268435456
  ·exact c
  ·have:=Int.mul_self_le_mul_self (a:=268435456) (b:=AH a b-1) (by omega) (by omega);omega
def JK (n k:Int):Prop:=0<=k/\n<=k*(k+1)/\(k=0\/(k-1)*k<n)
theorem I9 {x:Int} {A:Nat} (h:x.natAbs<=A) (D:A<=9223372036854775807):wrap .i64 x=x:=Ae (by omega)
theorem IN {x y:Int} {A B:Nat} (D:x.natAbs<=A) (E:y.natAbs<=B):(x-y).natAbs<=A+B:=by omega
theorem TZ {x y:Int} {A B:Nat} (D:x.natAbs<=A) (E:y.natAbs<=B):(x+y).natAbs<=A+B:=by omega
theorem WQ {c u x:Int} {A:Nat} (D:c.natAbs<=A) (E:(c+x).natAbs<=A) (h:(0<=x->0<=u/\u<=x)/\(x<=0->x<=u/\u<=0)):(c+u).natAbs<=A:=by
 rcases Int.le_total 0 x with g|g
 ·have:=h.1 g;omega
 ·have:=h.2 g;omega
theorem Zn (a b:Pt):sqD a b=(a.x-b.x)*(a.x-b.x)+(a.y-b.y)*(a.y-b.y)+(a.z-b.z)*(a.z-b.z):=rfl
theorem F6 (u:Int):0<=u*u:=by rw[<-Int.natAbs_mul_self];omega
theorem Qei {a b:Pt}:sqD a b=0↔a=b:=by
 rw[Zn];obtain⟨a1,a2,a3⟩:=a;obtain⟨b1,b2,b3⟩:=b;have J:=F6 (a1-b1);have L:=F6 (a2-b2);have M:=F6 (a3-b3);constructor
 ·intro h;simp only at h;have e1:(a1-b1)*(a1-b1)=0:=by omega
  have e2:(a2-b2)*(a2-b2)=0:=by omega
  have e3:(a3-b3)*(a3-b3)=0:=by omega
  have z:∀u:Int,u*u=0->u=0:=λu D=>by
   rcases Int.mul_eq_zero.1 D with h|h<;>exact h
  have:=z _ e1;have:=z _ e2;have:=z _ e3;rw[Pt.mk.injEq];omega
 ·intro h;injection h with E G I;subst E G I;simp
theorem Q83 (a b:Pt):(a.x-b.x)*(a.x-b.x)<=sqD a b/\(a.y-b.y)*(a.y-b.y)<=sqD a b/\(a.z-b.z)*(a.z-b.z)<=sqD a b:=by
 rw[Zn];have D:=F6 (a.x-b.x);have E:=F6 (a.y-b.y);have G:=F6 (a.z-b.z);omega
noncomputable def B4 (c a:Pt) (d:Int):Pt:=⟨c.x+Ci (a.x-c.x) d (sqD a c),c.y+Ci (a.y-c.y) d (sqD a c),c.z+Ci (a.z-c.z) d (sqD a c)⟩
abbrev B24:Nat:=16777216
theorem VQ {x r n:Int} (G:x.natAbs<=33554432*4) (I:0<=r/\r<=33554432*4) (J:0<n/\n<=4611686018427387904) (D:x*x<=n) (L:r*r<=n):
  (0<=x->0<=Ci x r n/\Ci x r n<=x)/\(x<=0->x<=Ci x r n/\Ci x r n<=0):=by
 obtain⟨-,N,M⟩:=Tn G I J D;have E := Zon (by omega) (by
  have:((r.natAbs*r.natAbs:Nat):Int)=r*r:=Int.natAbs_mul_self;omega) M
 unfold Ci at*;constructor
 ·intro h;rw[ab (by omega)]at E⊢;omega
 ·intro h;by_cases c:x<0
  ·rw[aa c]at E⊢;omega
  ·rw[ab c]at E⊢;omega
theorem Zjf {a b:Pt} (D:bd B24 a) (hb:bd B24 b):sqD a b<=3377699720527872:=by
 have h:∀x y:Int,x.natAbs<=B24->y.natAbs<=B24->(x-y)*(x-y)<=1125899906842624:=by
  intro x y E G;unfold B24 at*;exact(D6 (x:=x-y) (A:=33554432) (by omega)).2
 have I:=h _ _ D.1 hb.1;have J:=h _ _ D.2.1 hb.2.1;have L:=h _ _ D.2.2 hb.2.2;rw[Zn];omega
theorem Lh {c a:Pt} {d:Int} (D:bd B24 c) (E:bd B24 a) (J:a≠c) (N:0<=d/\d<AH a c):bd B24 (B4 c a d):=by
 have O:sqD a c≠0:=λh=>J (Qei.1 h);have S:=Qf a c;have T:=P9 (A6 E (by decide)) (A6 D (by decide)) (show 67108864<=67108864 by omega);obtain⟨-,g1,g2,g3⟩:=YQ (A6 E (show B24<=67108864 by decide)) (A6 D (show B24<=67108864 by decide));have hl:=IL (A6 E (show B24<=67108864 by decide)) (A6 D (show B24<=67108864 by decide));have G:d*d<=sqD a c:=by
  have:=Int.mul_self_le_mul_self N.1 (show d<=AH a c-1 by omega);omega
 have L:d<=33554432*4:=by
  by_cases U:d<=33554432*4
  ·exact U
  ·exfalso;have h3:=Int.mul_self_le_mul_self (a:=33554432*4+1) (b:=d) (by omega) (by omega);have h4:=Zjf E D;omega
 obtain⟨V,X,Y⟩:=Q83 a c;have M:0<sqD a c/\sqD a c<=4611686018427387904:=⟨Int.lt_iff_le_and_ne.2 ⟨S,λh=>O h.symm⟩,Int.le_trans T (by decide)⟩;have I:0<=d/\d<=33554432*4:=⟨N.1,L⟩;have k1:=VQ (x:=a.x-c.x) (r:=d) (n:=sqD a c) (cg (IN E.1 D.1) (by decide)) I M V G;have k2:=VQ (x:=a.y-c.y) (r:=d) (n:=sqD a c) (cg (IN E.2.1 D.2.1) (by decide)) I M X G;have k3:=VQ (x:=a.z-c.z) (r:=d) (n:=sqD a c) (cg (IN E.2.2 D.2.2) (by decide)) I M Y G;have e:∀x y:Int,x+(y-x)=y:=λx y=>by omega
 exact⟨WQ D.1 (by rw[e];exact E.1) k1,WQ D.2.1 (by rw[e];exact E.2.1) k2,WQ D.2.2 (by rw[e];exact E.2.2) k3⟩
def GM (p c q:Pt):Pt:=⟨p.x-c.x+(q.x-c.x),p.y-c.y+(q.y-c.y),p.z-c.z+(q.z-c.z)⟩
def HS (p c q:Pt):Int:=JN (GM p c q) (GM p c q)
theorem Zq3 {p c q:Pt} (D:bd B24 p) (E:bd B24 c) (G:bd B24 q):bd 67108864 (GM p c q):=by
 unfold bd B24 GM at*;simp only;omega
def Hz (a c b:Pt) (D d:Int):Prop:=d<=mn (AH a c) (AH c b)-2/\HS (B4 c a d) c (B4 c b d)<=16*D*D
theorem U8 (x y:Int):mn x y<=x/\mn x y<=y:=by unfold mn;split<;>omega
theorem Zgy (a b:Pt):sqD a b=sqD b a:=by
 unfold sqD;exact Z40 a b
theorem Ta (a b:Pt):AH a b=AH b a:=by unfold AH;rw[Zgy]
open Classical in
noncomputable def Gj (P:Int->Prop):Nat->Int->Int
 |0,d=>if P (d+1)then d+1 else d
 |k+1,d=>Gj P k (if P (d+((2^(k+1):Nat):Int))then d+((2^(k+1):Nat):Int)else d)
open Classical in
theorem Q1n {P:Int->Prop}:∀(k:Nat) (d:Int),d<=Gj P k d/\Gj P k d<d+((2^(k+1):Nat):Int)/\(Gj P k d=d\/P (Gj P k d))
 |0,d=>by
  have e:((2^(0+1):Nat):Int)=2:=rfl;rw[e];unfold Gj;split
  ·rename_i h;exact⟨by omega,by omega, .inr h⟩
  ·exact⟨by omega,by omega, .inl rfl⟩
 |k+1,d=>by
  unfold Gj;have J:0<2^(k+1):=Nat.two_pow_pos _;have e3:2^(k+1+1)=2^(k+1)+2^(k+1):=by rw[Nat.pow_succ 2 (k+1)];omega
  rw[e3];have D:(if P (d+((2^(k+1):Nat):Int))then d+((2^(k+1):Nat):Int)else d)=d\/((if P (d+((2^(k+1):Nat):Int))then d+((2^(k+1):Nat):Int)else d)=d+((2^(k+1):Nat):Int)/\P (if P (d+((2^(k+1):Nat):Int))then d+((2^(k+1):Nat):Int)else d)):=by
   split
   ·rename_i h;exact .inr ⟨rfl,h⟩
   ·exact .inl rfl
  generalize(if P (d+((2^(k+1):Nat):Int))then d+((2^(k+1):Nat):Int)else d)=G at*;obtain⟨L,M,E⟩:=Q1n (P:=P) k G;generalize Gj P k G=x at*;generalize 2^(k+1)=m at*;rcases D with D|⟨D,I⟩
  ·subst D;exact⟨by omega,by omega,E⟩
  ·refine⟨by omega,by omega, .inr ?_⟩;rcases E with E|E
   ·rw[E];exact I
   ·exact E
open Classical in
noncomputable def DL (a c b:Pt) (D:Int):Int:=if a=c\/b=c then 0 else if Gj (Hz a c b D) 24 0<16 then 0 else Gj (Hz a c b D) 24 0
theorem Qog {a c b:Pt} {D:Int} (h:DL a c b D≠0):a≠c/\b≠c/\16<=DL a c b D/\DL a c b D<33554432/\Hz a c b D (DL a c b D):=by
 unfold DL at*;split at h
 ·exact absurd rfl h
 ·rename_i G;rw[ab G];split at h
  ·exact absurd rfl h
  ·rename_i I;rw[ab I];obtain⟨L,J,E⟩:=Q1n (P:=Hz a c b D) 24 0;have e:((2^(24+1):Nat):Int)=33554432:=rfl;rw[e]at J;refine⟨λh=>G (.inl h),λh=>G (.inr h),by omega,by omega,?_⟩;rcases E with E|E
   ·omega
   ·exact E
theorem DT {a b:Pt}:a=b↔a.x=b.x/\a.y=b.y/\a.z=b.z:=by
 obtain⟨a1,a2,a3⟩:=a;obtain⟨b1,b2,b3⟩:=b;simp
def Lx (D:Int):Nat->Int->Int
 |0,n=>n
 |k+1,n=>if n<64/\D>16*n*n*n*n*4*4 then Lx D k (n*2)else n
def Kz (n:Int):Prop:=n=2\/n=4\/n=8\/n=16\/n=32\/n=64
def LT (p c q:Pt):Int:=Lx (HS p c q) 5 2
theorem Zbm (b:Int):∀(k:Nat) (n:Int),Kz n->Kz (Lx b k n)
 |0,n,h=>by unfold Lx;exact h
 |k+1,n,h=>by
  unfold Lx;split
  ·rename_i c;refine Zbm b k (n*2) ?_;rcases h with rfl|rfl|rfl|rfl|rfl|rfl<;>simp[Kz]at c⊢
  ·exact h
theorem Wg {p c q:Pt} (D:bd B24 p) (E:bd B24 c) (G:bd B24 q):True/\Kz (LT p c q):=⟨trivial,Zbm _ 5 2 (.inl rfl)⟩
def OP (n i p c q:Int):Int:=c+Bw ((n-i)*(n-i)*(p-c)+i*i*(q-c)) (n*n)
def OB (n i:Int) (p c q:Pt):Pt:=⟨OP n i p.x c.x q.x,OP n i p.y c.y q.y,OP n i p.z c.z q.z⟩
theorem Se {a b n:Int} (D:0<n) (h:a<=b):Bw a n<=Bw b n:=by
 unfold Bw;exact Int.ediv_le_ediv (by omega) (by omega)
theorem Uy {k n:Int} (D:0<n):Bw (k*n) n=k:=L4 D (by rw[show k*(2*n)=2*(k*n) by grind];omega) (by rw[show(k+1)*(2*n)=2*(k*n)+2*n by grind];omega)
theorem NQ {n i p c q:Int} {A:Nat} (G:0<n) (I:0<=i/\i<=n) (X:p.natAbs<=A) (Y:c.natAbs<=A) (hq:q.natAbs<=A):(OP n i p c q).natAbs<=A:=by
 have D:0<n*n:=Int.mul_pos G G;have J:0<=(n-i)*(n-i):=F6 _;have L:0<=i*i:=F6 _;have M:(n-i)*(n-i)+i*i<=n*n:=by
  have:n*n-((n-i)*(n-i)+i*i)=2*(i*(n-i)):=by grind
  have:0<=i*(n-i):=Int.mul_nonneg I.1 (by omega);omega
 have key:∀s:Int,(s=1\/s= -1)->s*((n-i)*(n-i)*(p-c)+i*i*(q-c))<=(A-s*c)*(n*n):=by
  intro s E;have N:s*p<=A:=by rcases E with rfl|rfl<;>omega
  have O:s*c<=A:=by rcases E with rfl|rfl<;>omega
  have S:s*q<=A:=by rcases E with rfl|rfl<;>omega
  have g1:(n-i)*(n-i)*(s*p-s*c)<=(n-i)*(n-i)*(A-s*c):=Int.mul_le_mul_of_nonneg_left (by omega) J;have g2:i*i*(s*q-s*c)<=i*i*(A-s*c):=Int.mul_le_mul_of_nonneg_left (by omega) L;have g3:((n-i)*(n-i)+i*i)*(A-s*c)<=n*n*(A-s*c):=Int.mul_le_mul_of_nonneg_right M (by omega);have e1:s*((n-i)*(n-i)*(p-c)+i*i*(q-c))=(n-i)*(n-i)*(s*p-s*c)+i*i*(s*q-s*c):=by grind
  have e2:((n-i)*(n-i)+i*i)*(A-s*c)=(n-i)*(n-i)*(A-s*c)+i*i*(A-s*c):=Int.add_mul ..;have e3:(A-s*c)*(n*n)=n*n*(A-s*c):=Int.mul_comm ..;omega
 unfold OP;have T:=Se D (key 1 (.inl rfl)|>λh=>(by rw[Int.one_mul,Int.one_mul]at h;exact h));rw[Uy D]at T;have k2:=key (-1) (.inr rfl);have U:(-(A:Int)-c)*(n*n)<=(n-i)*(n-i)*(p-c)+i*i*(q-c):=by
  have e:(-(A:Int)-c)*(n*n)= -((A- -1*c)*(n*n)):=by grind
  omega
 have V:=Se D U;rw[Uy D]at V;omega
noncomputable def GE (a c b:Pt) (D:Int):List Pt:=
 if DL a c b D=0 then [c]
 else(List.range ((LT (B4 c a (DL a c b D)) c (B4 c b (DL a c b D))).toNat+1)).map fun(i:Nat)=>OB (LT (B4 c a (DL a c b D)) c (B4 c b (DL a c b D))) i (B4 c a (DL a c b D)) c (B4 c b (DL a c b D))
theorem Q0l {a c b:Pt} {D:Int} (L:bd B24 a) (E:bd B24 c) (hb:bd B24 b):(∀p∈GE a c b D,bd B24 p)/\1<=(GE a c b D).length/\(GE a c b D).length<=65:=by
 unfold GE;by_cases h:DL a c b D=0
 ·rw[aa h];simp;exact E
 ·rw[ab h];obtain⟨M,N,S,T,U,-⟩:=Qog h;obtain⟨m1,m2⟩:=U8 (AH a c) (AH c b);generalize DL a c b D=d at*;have G:bd B24 (B4 c a d):=Lh E L M (by omega);have I:bd B24 (B4 c b d):=Lh E hb N (by rw[Ta b c];omega);have O:=(Wg G E I).2;generalize LT (B4 c a d) c (B4 c b d)=n at*;have V:2<=n/\n<=64:=by rcases O with rfl|rfl|rfl|rfl|rfl|rfl<;>omega
  refine⟨?_,by simp,by simp;omega⟩;intro p J;simp only[ba,List.mem_range]at J;obtain⟨i,X,rfl⟩:=J;exact⟨NQ (by omega) (by omega) G.1 E.1 I.1,NQ (by omega) (by omega) G.2.1 E.2.1 I.2.1,NQ (by omega) (by omega) G.2.2 E.2.2 I.2.2⟩
theorem Q4l {v n:Int} (_:i64 v) (D:0<n/\n<=4611686018427387904):G6 [I v,I n]=some [I (v%n)]:=by
 unfold G6;rw[Zsy,A_ (by omega),A_ (by omega)];have L: -n<v.tmod n/\v.tmod n<n:=by
  have a1:=Int.tmod_lt_of_pos v D.1;have a2:=Int.lt_tmod_of_pos v D.1;omega
 rw[Ae (by omega)];have E:(v.tmod n+n).tmod n=v%n:=by
  rw[Int.tmod_eq_emod_of_nonneg (by omega),Int.add_emod_right];have G:=Int.tmod_add_mul_tdiv v n;have J:v%n=(v.tmod n+n*v.tdiv n)%n:=by rw[G]
  rw[J,Int.add_mul_emod_self_left]
 rw[E]
def Src (l:Rw):Prop:=l.length<=9223372036854775807/\∀c∈l,i64 (Af (nth .dead c 0))
theorem Zrx {l:Rw} {i:Nat} (h:i<l.length):nth [] l i∈l:=by rw[Ht [] l i h];exact bm h
theorem Zx1 {M:Fn} (G:∀v n:Int,i64 v->0<n/\n<=4611686018427387904->M [I v,I n]=some [I (v%n)]) {l:Rw} (E:Src l) {k:Nat} {n:Int} (D:0<n/\n<=4611686018427387904):
  ∃(v:Int) (k':Nat),Qnu M [I n, .view Aa l,I k]=some [I v, .view Aa l,I k']/\0<=v/\v<n/\k<=k'/\(k<l.length->k'=k+1)/\(l.length<=k->k'=k):=by
 have J:=E.1;rw[Zw6];by_cases h:k<l.length
 ·have L:=G _ n (E.2 _ (Zrx h)) D;simp only[go_sem,aj,L];rw[ab (by omega),aa (by omega),Ae (by omega)];exact⟨_,k+1,rfl,Int.emod_nonneg _ (by omega),Int.emod_lt_of_pos _ D.1,by omega,λ_=>rfl,by omega⟩
 ·simp only[go_sem];rw[aa (by omega)];exact⟨0,k,rfl,by omega,D.1,by omega,by omega,λ_=>rfl⟩
theorem Z6g {l:Rw} (E:Src l) (k:Nat) {n:Int} (D:0<n/\n<=4611686018427387904):
  ∃(v:Int) (k':Nat),BP [I n, .view Aa l,I k]=some [I v, .view Aa l,I k']/\0<=v/\v<n/\k<=k'/\(k<l.length->k'=k+1)/\(l.length<=k->k'=k):=
 Zx1 (λ_ _ G D=>Q4l G D) E D
theorem Quv (l:Rw) (k:Nat):Gx [.view Aa l,I k]=some [B (decide (k<l.length)), .view Aa l,I k]:=by
 unfold Gx;rw[Zf3];congr 3;simp
theorem QF (l:Rw):CW [.view Aa l]=some [.view Aa l,I 0]:=by
 unfold CW;rw[Zpp]
def AY (r:Int) (k:Int):Int:=if k%4=0 then r else if k%4=2 then-r else 0
def AZ (r:Int) (k:Int):Int:=if k%4=1 then r else if k%4=3 then-r else 0
theorem Z8j {r k:Int} (G:0<=r/\r<=1000000) (D:0<=k/\k<=1000):Pc [I r,I k]=some [I (AY r k),I (AZ r k)]:=by
 unfold Pc;rw[Zwc,Ae (by omega),Int.tmod_eq_emod_of_nonneg D.1];have E:k%4=0\/k%4=1\/k%4=2\/k%4=3:=by omega
 unfold AY AZ;rcases E with h|h|h|h<;>rw[h]<;>simp[nth,Af]
def plU (pl:Int) (p:Pt):Int:=if pl=17 then p.x else if pl=18 then p.z else p.y
def plW (pl:Int) (p:Pt):Int:=if pl=17 then p.y else if pl=18 then p.x else p.z
def plH (pl:Int) (p:Pt):Int:=if pl=17 then p.z else if pl=18 then p.y else p.x
def spP (pl u w h:Int):Pt:=if pl=17 then⟨u,w,h⟩else if pl=18 then⟨w,h,u⟩else⟨h,u,w⟩
def Dy (pl:Int):Prop:=pl=17\/pl=18\/pl=19
theorem Zxx {p:Pt} {pl:Int} (h:Dy pl):Ot [I p.x,I p.y,I p.z,I pl]=some [I (plU pl p),I (plW pl p),I (plH pl p)]:=by
 unfold Ot;rw[Zo7];rcases h with rfl|rfl|rfl<;>rfl
theorem Z7z {u w h pl:Int} (D:Dy pl):OH [I u,I w,I h,I pl]=some (ptR (spP pl u w h)):=by
 unfold OH;rw[Z50];rcases D with rfl|rfl|rfl<;>rfl
theorem Oi {pl u w h:Int} (D:Dy pl):plU pl (spP pl u w h)=u/\plW pl (spP pl u w h)=w/\plH pl (spP pl u w h)=h:=by
 rcases D with rfl|rfl|rfl<;>exact⟨rfl,rfl,rfl⟩
structure ArcMade (size : Int) (it : Itm) : Prop where
 kind:it.kind=3
 aF:Dy it.aF
 dir:it.dir=1\/it.dir= -1
 ends:∃r k t g h:Int,8<=r/\r<8+size/\0<=k/\k<=3/\0<=t/\t<=3/\0<=g/\g<=4/\(h=0\/h=7\/h= -12)/\(t=0->g=0)/\it.full=decide (t=0)/\
  it.ce=spP it.aF (plU it.aF it.fr-AY r k) (plW it.aF it.fr-AZ r k) (plH it.aF it.fr)/\
  it.to=spP it.aF (plU it.aF it.fr-AY r k+AY (r+g) (k+t)) (plW it.aF it.fr-AZ r k+AZ (r+g) (k+t)) (plH it.aF it.fr+h)
theorem PH {r k:Int} (D:0<=r):(-r<=AY r k/\AY r k<=r)/\(-r<=AZ r k/\AZ r k<=r):=by
 unfold AY AZ;constructor<;>constructor<;>split<;>(try split)<;>omega
theorem Zdd {r:Int} (G:1<=r) (k:Int):((AY r k).tdiv r=AY 1 k)/\((AZ r k).tdiv r=AZ 1 k):=by
 have D:r.tdiv r=1:=Int.tdiv_self (by omega);have E:(-r).tdiv r= -1:=by rw[Int.neg_tdiv,D]
 unfold AY AZ;constructor<;>split<;>(try split)<;>simp[D,E]
theorem Z5e (r k e f:Int):∃g,(g=e\/g=f)/\AY r k+AY 1 k*e=AY (r+g) k/\AZ r k+AZ 1 k*f=AZ (r+g) k:=by
 unfold AY AZ;by_cases h:k%4=0\/k%4=2
 ·refine⟨e, .inl rfl,?_,?_⟩
  ·rcases h with h|h<;>simp[h]<;>omega
  ·rcases h with h|h<;>simp[h]
 ·have D:k%4=1\/k%4=3:=by omega
  refine⟨f, .inr rfl,?_,?_⟩
  ·rcases D with h|h<;>simp[h]
  ·rcases D with h|h<;>simp[h]<;>omega
theorem Ia {pl:Int} {p:Pt} {b:Nat} (h:bd b p):(plU pl p).natAbs<=b/\(plW pl p).natAbs<=b/\(plH pl p).natAbs<=b:=by
 obtain⟨D,E,G⟩:=h;unfold plU plW plH;refine⟨?_,?_,?_⟩<;>split<;>(try split)<;>assumption
def Hf (l:Rw) (M:Fn):Prop:=∀(k:Nat) {n:Int},0<n/\n<=4611686018427387904->
  ∃(v:Int) (k':Nat),M [I n, .view Aa l,I k]=some [I v, .view Aa l,I k']/\0<=v/\v<n/\k<=k'/\(k<l.length->k'=k+1)/\(l.length<=k->k'=k)
abbrev Gl (it:Itm):Prop:=it.block=0/\it.side=0/\it.radius=0/\it.speed=0/\it.on=false
theorem Z2s {v:Int} (h:0<=v/\v<3):Af (nth .dead (nth [] [[I 17],[I 18],[I 19]] v.toNat) 0)=17+v:=by
 have D:v=0\/v=1\/v=2:=by omega
 rcases D with rfl|rfl|rfl<;>rfl
theorem Q3e {v:Int} (h:0<=v/\v<4):∃x,Af (nth .dead (nth [] [[I 0],[I 0],[I 7],[I (-12)]] v.toNat) 0)=x/\(x=0\/x=7\/x= -12):=by
 have D:v=0\/v=1\/v=2\/v=3:=by omega
 rcases D with rfl|rfl|rfl|rfl<;>exact⟨_,rfl,by decide⟩
theorem Zer {MS MT MP MN:Fn} {l:Rw} (M:Hf l MN)
  (hP:∀{p:Pt} {pl:Int},Dy pl->MP [I p.x,I p.y,I p.z,I pl]=some [I (plU pl p),I (plW pl p),I (plH pl p)])
  (hS:∀{u w h pl:Int},Dy pl->MS [I u,I w,I h,I pl]=some (ptR (spP pl u w h)))
  (hT:∀{r k:Int},(0<=r/\r<=1000000)->(0<=k/\k<=1000)->MT [I r,I k]=some [I (AY r k),I (AZ r k)])
  {p:Pt} (hp:bd 100000000 p) {size:Int} (hs:0<size/\size<=100000) (k:Nat):
  ∃(it:Itm) (k':Nat),Qjb MS MT MP MN [I p.x,I p.y,I p.z,I size, .view Aa l,I k]=some (Ag it++[.view Aa l,I k'])/\k<=k'/\it.fr=p/\ArcMade size it/\
   it.feed=0/\it.perRev=false/\it.blend=0/\it.n=0/\Gl it:=by
 obtain⟨J,k1,e1,a1,b1,c1,-,-⟩:=M k (n:=3) (by omega);obtain⟨T,k2,e2,a2,b2,c2,-,-⟩:=M k1 (n:=2) (by omega);obtain⟨E,k3,e3,a3,b3,c3,-,-⟩:=M k2 (n:=size) (by omega);obtain⟨D,k4,e4,a4,b4,c4,-,-⟩:=M k3 (n:=4) (by omega);obtain⟨G,k5,e5,a5,b5,c5,-,-⟩:=M k4 (n:=4) (by omega);rw[Zx3];simp only[go_sem,e1,e2,e3,e4,e5];rw[aa (by simp;omega)];have U:Dy (17+J):=by unfold Dy;omega
 have w1:wrap .i64 (8+E)=8+E:=Ae (by omega);have w2:wrap .i64 (D+G)=D+G:=Ae (by omega);simp only[Z2s ⟨a1,b1⟩,hP U,go_sem,w1,w2,hT (r:=8+E) (k:=D) (by omega) (by omega),hT (r:=8+E) (k:=D+G) (by omega) (by omega),hS U];obtain⟨q1,q2,q3⟩:=Ia (pl:=17+J) hp;obtain⟨⟨r1,r2⟩,r3,r4⟩:=PH (r:=8+E) (k:=D) (by omega);obtain⟨⟨r5,r6⟩,r7,r8⟩:=PH (r:=8+E) (k:=D+G) (by omega);obtain⟨d1,d2⟩:=Zdd (r:=8+E) (by omega) (D+G);obtain⟨⟨r9,d7⟩,d8,d9⟩:=PH (r:=1) (k:=D+G) (by omega);have w3:wrap .i64 (plU (17+J) p-AY (8+E) D)=plU (17+J) p-AY (8+E) D:=Ae (by omega);have w4:wrap .i64 (plW (17+J) p-AZ (8+E) D)=plW (17+J) p-AZ (8+E) D:=Ae (by omega);have w5:wrap .i64 (1-wrap .i64 (T*2))=1-T*2:=by rw[Ae (x:=T*2) (by omega),Ae (by omega)]
 have w6:wrap .i64 (plU (17+J) p-AY (8+E) D+AY (8+E) (D+G))=plU (17+J) p-AY (8+E) D+AY (8+E) (D+G):=Ae (by omega);have w7:wrap .i64 (plW (17+J) p-AZ (8+E) D+AZ (8+E) (D+G))=plW (17+J) p-AZ (8+E) D+AZ (8+E) (D+G):=Ae (by omega);rw[w3,w4,w5,w6,w7];have a0:1-T*2=1\/1-T*2= -1:=by omega
 have fin:∀(g:Int) (u w:Int) (Y:Nat),k5<=Y->0<=g->g<=4->(G=0->g=0)->u=AY (8+E+g) (D+G)->w=AZ (8+E+g) (D+G)->∀L:Int,0<=L/\L<4->
   ∃it:Itm,[I 3,I 0,I p.x,I p.y,I p.z,I (spP (17+J) (plU (17+J) p-AY (8+E) D+u) (plW (17+J) p-AZ (8+E) D+w) (plH (17+J) p+Af (nth .dead (nth [] [[I 0],[I 0],[I 7],[I (-12)]] L.toNat) 0))).x,
    I (spP (17+J) (plU (17+J) p-AY (8+E) D+u) (plW (17+J) p-AZ (8+E) D+w) (plH (17+J) p+Af (nth .dead (nth [] [[I 0],[I 0],[I 7],[I (-12)]] L.toNat) 0))).y,
    I (spP (17+J) (plU (17+J) p-AY (8+E) D+u) (plW (17+J) p-AZ (8+E) D+w) (plH (17+J) p+Af (nth .dead (nth [] [[I 0],[I 0],[I 7],[I (-12)]] L.toNat) 0))).z,
    I (17+J),I (spP (17+J) (plU (17+J) p-AY (8+E) D) (plW (17+J) p-AZ (8+E) D) (plH (17+J) p)).x,I (spP (17+J) (plU (17+J) p-AY (8+E) D) (plW (17+J) p-AZ (8+E) D) (plH (17+J) p)).y,I (spP (17+J) (plU (17+J) p-AY (8+E) D) (plW (17+J) p-AZ (8+E) D) (plH (17+J) p)).z,
    I (1-T*2),B (decide (G=0)),I 0,B false,I 0,I 0,I 0,I 0,I 0,B false, .view Aa l,I Y]=Ag it++[.view Aa l,I Y]/\it.fr=p/\ArcMade size it/\it.feed=0/\it.perRev=false/\it.blend=0/\it.n=0/\Gl it:=by
  intro g u w Y f0 d3 d4 d5 hu hw L V;obtain⟨x,hx,b0⟩:=Q3e V;rw[hx];refine⟨⟨3,0,p,_,17+J,_,1-T*2,decide (G=0),0,false,0,0,0,0,0,false⟩,rfl,rfl,⟨rfl,U,a0,8+E,D,G,g,x,?_⟩,rfl,rfl,rfl,rfl,rfl,rfl,rfl,rfl,rfl⟩;subst hu hw;exact⟨by omega,by omega,by omega,by omega,by omega,by omega,d3,d4,b0,d5,rfl,rfl,rfl⟩
 have X:∀L:Int,0<=L/\L<4->wrap .i64 (plH (17+J) p+Af (nth .dead (nth [] [[I 0],[I 0],[I 7],[I (-12)]] L.toNat) 0))=plH (17+J) p+Af (nth .dead (nth [] [[I 0],[I 0],[I 7],[I (-12)]] L.toNat) 0):=by
  intro L V;obtain⟨x,hx,b0⟩:=Q3e V;rw[hx];exact Ae (by omega)
 have d6:(G==0)=decide (G=0):=rfl;by_cases c0:G>0
 ·rw[aa c0];obtain⟨v6,k6,e6,a6,b6,c6,-,-⟩:=M k5 (n:=3) (by omega);simp only[go_sem,e6];by_cases d0:v6=0
  ·rw[aa d0,ab (by omega)];obtain⟨v7,k7,e7,a7,b7,c7,-,-⟩:=M k6 (n:=5) (by omega);obtain⟨v8,Y,e8,a8,b8,c8,-,-⟩:=M k7 (n:=5) (by omega);obtain⟨L,N,e9,O,S,c9,-,-⟩:=M Y (n:=4) (by omega);simp only[go_sem,e7,e8,e9];rw[ab (by omega),aa (by simp;omega),X L ⟨O,S⟩,d1,d2];obtain⟨g,hg,hu,hw⟩:=Z5e (8+E) (D+G) v7 v8;have mu: -4<=AY 1 (D+G)*v7/\AY 1 (D+G)*v7<=4:=by
    have hc:AY 1 (D+G)= -1\/AY 1 (D+G)=0\/AY 1 (D+G)=1:=by omega
    rcases hc with h|h|h<;>rw[h]<;>omega
   have mw: -4<=AZ 1 (D+G)*v8/\AZ 1 (D+G)*v8<=4:=by
    have hc:AZ 1 (D+G)= -1\/AZ 1 (D+G)=0\/AZ 1 (D+G)=1:=by omega
    rcases hc with h|h|h<;>rw[h]<;>omega
   rw[Ae (x:=AY 1 (D+G)) (by omega),Ae (x:=AZ 1 (D+G)) (by omega),Ae (x:=AY 1 (D+G)*v7) (by omega),Ae (x:=AZ 1 (D+G)*v8) (by omega),
    Ae (x:=AY (8+E) (D+G)+_) (by omega),Ae (x:=AZ (8+E) (D+G)+_) (by omega),hu,hw]
   obtain⟨⟨s1,s2⟩,s3,s4⟩:=PH (r:=8+E+g) (k:=D+G) (by omega);rw[Ae (x:=_+AY (8+E+g) (D+G)) (by omega),Ae (x:=_+AZ (8+E+g) (D+G)) (by omega)];obtain⟨it,h1,h2⟩:=fin g _ _ N (by omega) (by omega) (by omega) (by omega) rfl rfl L ⟨O,S⟩;refine⟨it,N,?_,by omega,h2⟩;exact congrArg some h1
  ·rw[ab d0];obtain⟨L,N,e9,O,S,c9,-,-⟩:=M k6 (n:=4) (by omega);simp only[go_sem,e9];rw[aa (by simp;omega),X L ⟨O,S⟩];obtain⟨it,h1,h2⟩:=fin 0 _ _ N (by omega) (by omega) (by omega) (by omega) (by rw[Int.add_zero]) (by rw[Int.add_zero]) L ⟨O,S⟩;refine⟨it,N,?_,by omega,h2⟩;exact congrArg some h1
 ·rw[ab c0];obtain⟨L,N,e9,O,S,c9,-,-⟩:=M k5 (n:=4) (by omega);simp only[go_sem,e9];rw[aa (by simp;omega),X L ⟨O,S⟩];obtain⟨it,h1,h2⟩:=fin 0 _ _ N (by omega) (by omega) (by omega) (by omega) (by rw[Int.add_zero]) (by rw[Int.add_zero]) L ⟨O,S⟩;refine⟨it,N,?_,by omega,h2⟩;exact congrArg some h1
theorem HL {l:Rw} (D:Src l):Hf l BP:=λk _ E=>Z6g D k E
theorem Z2j {l:Rw} (D:Src l) {p:Pt} (E:bd 100000000 p) {size:Int} (G:0<size/\size<=100000) (k:Nat):
  ∃(it:Itm) (k':Nat),Qw [I p.x,I p.y,I p.z,I size, .view Aa l,I k]=some (Ag it++[.view Aa l,I k'])/\k<=k'/\it.fr=p/\ArcMade size it/\
   it.feed=0/\it.perRev=false/\it.blend=0/\it.n=0/\Gl it:=
 Zer (HL D) Zxx Z7z Z8j E G k
structure Made (it : Itm) : Prop where
 kind:1<=it.kind/\it.kind<=6
 line:it.kind≠3->(it.to.x-it.fr.x).natAbs<=16/\(it.to.y-it.fr.y).natAbs<=16/\(it.to.z-it.fr.z).natAbs<=16
 arc:it.kind=3->ArcMade 8 it
 feed:it.kind≠1->1<=it.feed/\it.feed<=60000000
 blend:0<=it.blend/\it.blend<=9
 sync:it.kind=5\/it.kind=6->it.blend=0/\it.feed<=60
 free:it.kind<=4->it.perRev=false
 full:it.kind≠3->it.full=false
theorem Q8x {v:Int} (h:0<=v/\v<5):∃x,Af (nth .dead (nth [] [[I 300000],[I 1],[I 60000],[I 2000000],[I 60000000]] v.toNat) 0)=x/\1<=x/\x<=60000000:=by
 have D:v=0\/v=1\/v=2\/v=3\/v=4:=by omega
 rcases D with rfl|rfl|rfl|rfl|rfl<;>exact⟨_,rfl,by decide⟩
theorem Q5z {v:Int} (h:0<=v/\v<5):∃x,Af (nth .dead (nth [] [[I 0],[I 1],[I 2],[I 4],[I 9]] v.toNat) 0)=x/\0<=x/\x<=9:=by
 have D:v=0\/v=1\/v=2\/v=3\/v=4:=by omega
 rcases D with rfl|rfl|rfl|rfl|rfl<;>exact⟨_,rfl,by decide⟩
theorem Z81 {size:Int} {it:Itm} (h:ArcMade size it) (f b:Int) (pr:Bool) (n:Int):ArcMade size {it with feed:=f,blend:=b,perRev:=pr,n:=n}:=⟨h.kind,h.aF,h.dir,h.ends⟩
theorem Zzt {MA MN:Fn} {l:Rw} (D:Hf l MN)
  (hA:∀{p:Pt},bd 100000000 p->∀k:Nat,∃(it:Itm) (k':Nat),MA [I p.x,I p.y,I p.z,I 8, .view Aa l,I k]=some (Ag it++[.view Aa l,I k'])/\k<=k'/\it.fr=p/\ArcMade 8 it/\it.feed=0/\it.perRev=false/\it.blend=0/\it.n=0/\Gl it)
  {p:Pt} (hp:bd 100000000 p) {kind:Int} (hk:1<=kind/\kind<=6) (k:Nat):
  ∃(it:Itm) (k':Nat),VH MN MA [I p.x,I p.y,I p.z,I kind, .view Aa l,I k]=some (Ag it++[.view Aa l,I k'])/\k<=k'/\it.fr=p/\it.kind=kind/\Made it/\Gl it:=by
 rw[Zz1];obtain⟨b0,c0,d0⟩:=hp;by_cases h3:kind=3
 ·subst h3;obtain⟨it,k1,e1,c1,g1,g2,g3,g4,g5,g6,g7,g8,g9,g10,g11⟩:=hA ⟨b0,c0,d0⟩ k;obtain⟨E,k2,e2,a2,b2,c2,-,-⟩:=D k1 (n:=5) (by omega);obtain⟨G,k3,e3,a3,b3,c3,-,-⟩:=D k2 (n:=5) (by omega);simp only[go_sem,e1,Ag,aq,ay,e2,e3];rw[ab (by omega),aa (by simp;omega),aa (by simp;omega),ab (by omega),ab (by omega),ab (by omega)];obtain⟨f,hf,T,U⟩:=Q8x ⟨a2,b2⟩;obtain⟨b,hb,V,X⟩:=Q5z ⟨a3,b3⟩;rw[hf,hb];have J:=g2.kind;refine⟨{it with feed:=f,blend:=b,perRev:=it.perRev,n:=it.n},k3,rfl,by omega,g1,J,⟨?_,?_,?_,?_,?_,?_,?_,?_⟩,g7,g8,g9,g10,g11⟩
  ·show 1<=it.kind/\it.kind<=6;omega
  ·exact λh=>absurd J h
  ·exact λ_=>Z81 g2 f b _ _
  ·exact λ_=>⟨T,U⟩
  ·exact⟨V,X⟩
  ·intro h;change it.kind=5\/it.kind=6 at h;omega
  ·exact λ_=>g4
  ·exact λh=>absurd J h
 ·simp only[go_sem];rw[ab h3];obtain⟨L,k1,e1,a1,b1,c1,-,-⟩:=D k (n:=25) (by omega);obtain⟨E,k2,e2,a2,b2,c2,-,-⟩:=D k1 (n:=25) (by omega);obtain⟨G,k3,e3,a3,b3,c3,-,-⟩:=D k2 (n:=3) (by omega);obtain⟨v4,k4,e4,a4,b4,c4,-,-⟩:=D k3 (n:=9) (by omega);obtain⟨M,k5,e5,a5,b5,c5,-,-⟩:=D k4 (n:=2) (by omega);simp only[go_sem,e1,e2,e3,e4,e5];have hm:0<=G*v4/\G*v4<=16:=by
   have hc:G=0\/G=1\/G=2:=by omega
   rcases hc with rfl|rfl|rfl<;>omega
  generalize G*v4=m at hm;have w1:wrap .i64 (wrap .i64 (p.x+L)-12)=p.x+L-12:=by rw[Ae (x:=p.x+L) (by omega),Ae (by omega)]
  have w2:wrap .i64 (wrap .i64 (p.y+E)-12)=p.y+E-12:=by rw[Ae (x:=p.y+E) (by omega),Ae (by omega)]
  have w3:wrap .i64 (wrap .i64 (p.z+wrap .i64 m)-wrap .i64 (8*M))=p.z+m-8*M:=by
   rw[Ae (x:=m) (by omega),Ae (x:=p.z+m) (by omega),Ae (x:=8*M) (by omega),Ae (by omega)]
  rw[w1,w2,w3]
  have mk:∀(f b n:Int) (pr:Bool),(kind≠1->1<=f/\f<=60000000)->(0<=b/\b<=9)->(kind=5\/kind=6->b=0/\f<=60)->(kind<=4->pr=false)->
    ∃it:Itm,Ag it=[I kind,I 0,I p.x,I p.y,I p.z,I (p.x+L-12),I (p.y+E-12),I (p.z+m-8*M),I 0,I 0,I 0,I 0,I 0,B false,I f,B pr,I 0,I 0,I b,I n,I 0,B false]/\it.fr=p/\it.kind=kind/\Made it/\Gl it:=by
   intro f b n pr N h2 O S;refine⟨⟨kind,0,p,⟨p.x+L-12,p.y+E-12,p.z+m-8*M⟩,0,⟨0,0,0⟩,0,false,f,pr,0,0,b,n,0,false⟩,rfl,rfl,rfl,⟨hk,λ_=> ?_,λh=>absurd h h3,N,h2,O,S,λ_=>rfl⟩,rfl,rfl,rfl,rfl,rfl⟩;show(p.x+L-12-p.x).natAbs<=16/\(p.y+E-12-p.y).natAbs<=16/\(p.z+m-8*M-p.z).natAbs<=16;omega
  have Y:∀(f b n:Int) (pr:Bool) (k':Nat),k<=k'->(kind≠1->1<=f/\f<=60000000)->(0<=b/\b<=9)->(kind=5\/kind=6->b=0/\f<=60)->(kind<=4->pr=false)->
    ∃(it:Itm) (a0:Nat),some [I kind,I 0,I p.x,I p.y,I p.z,I (p.x+L-12),I (p.y+E-12),I (p.z+m-8*M),I 0,I 0,I 0,I 0,I 0,B false,I f,B pr,I 0,I 0,I b,I n,I 0,B false, .view Aa l,I k']=some (Ag it++[.view Aa l,I a0])/\k<=a0/\it.fr=p/\it.kind=kind/\Made it/\Gl it:=by
   intro f b n pr k' h0 N h2 O S;obtain⟨it,i1,i2⟩:=mk f b n pr N h2 O S;refine⟨it,k',?_,h0,i2⟩;rw[i1];rfl
  by_cases N:kind=1
  ·rw[aa N];exact Y _ _ _ _ _ (by omega) (λh=>absurd N h) (by omega) (by omega) (λ_=>rfl)
  ·rw[ab N];obtain⟨v6,k6,e6,a6,b6,c6,-,-⟩:=D k5 (n:=5) (by omega);obtain⟨v7,k7,e7,a7,b7,c7,-,-⟩:=D k6 (n:=5) (by omega);obtain⟨v8,k8,e8,a8,b8,c8,-,-⟩:=D k7 (n:=60) (by omega);obtain⟨v9,k9,e9,a9,b9,c9,-,-⟩:=D k8 (n:=2) (by omega);simp only[go_sem,e6,e7,e8,e9];rw[aa (by simp;omega),aa (by simp;omega)];obtain⟨f,hf,T,U⟩:=Q8x ⟨a6,b6⟩;obtain⟨b,hb,V,X⟩:=Q5z ⟨a7,b7⟩;rw[hf,hb,Ae (x:=1+v8) (by omega),Ae (x:=3+v9) (by omega)];by_cases S:kind=5
   ·rw[aa S,ab (by omega)];exact Y _ _ _ _ _ (by omega) (by omega) (by omega) (by omega) (by omega)
   ·rw[ab S];by_cases h6:kind=6
    ·rw[aa h6,aa h6];exact Y _ _ _ _ _ (by omega) (by omega) (by omega) (by omega) (by omega)
    ·rw[ab h6];by_cases O:kind=4
     ·rw[aa O];exact Y _ _ _ _ _ (by omega) (by omega) (by omega) (by omega) (λ_=>rfl)
     ·rw[ab O];exact Y _ _ _ _ _ (by omega) (by omega) (by omega) (by omega) (λ_=>rfl)
theorem Zt2 {l:Rw} (E:Src l) {p:Pt} (D:bd 100000000 p) {kind:Int} (G:1<=kind/\kind<=6) (k:Nat):
  ∃(it:Itm) (k':Nat),Lq [I p.x,I p.y,I p.z,I kind, .view Aa l,I k]=some (Ag it++[.view Aa l,I k'])/\k<=k'/\it.fr=p/\it.kind=kind/\Made it/\Gl it:=
 Zzt (HL E) (λD k=>Z2j E D (by omega) k) D G k
def Q1z:Pt->List Itm->Prop
 |_,[]=>True
 |p,it::l=>it.fr=p/\Q1z it.to l
structure Motions (B : Nat) (p : Pt) (l : List Itm) : Prop where
 DD:Q1z p l
 made:∀it∈l,Made it/\Gl it/\it.kind<=3/\bd B it.fr/\bd B it.to
theorem Qj7 {size:Int} {b:Nat} {it:Itm} (h:ArcMade size it) (J:size<=1000) (hf:bd b it.fr):bd (b+2*(12+size.toNat)) it.to/\bd (b+8+size.toNat) it.ce:=by
 obtain⟨r,k,t,g,x,L,M,N,O,S,T,U,V,X,G,I,D,E⟩:=h.ends;obtain⟨Y,q2,q3⟩:=Ia (pl:=it.aF) hf;obtain⟨⟨r1,r2⟩,r3,r4⟩:=PH (r:=r) (k:=k) (by omega);obtain⟨⟨r5,r6⟩,r7,r8⟩:=PH (r:=r+g) (k:=k+t) (by omega);rw[D,E];unfold bd spP;constructor<;>split<;>(try split)<;>refine⟨?_,?_,?_⟩<;>simp only<;>omega
theorem Quo {b:Nat} {it:Itm} (h:Made it) (hf:bd b it.fr):bd (b+40) it.to:=by
 by_cases D:it.kind=3
 ·exact A6 (Qj7 (h.arc D) (by omega) hf).1 (by omega)
 ·obtain⟨E,G,I⟩:=h.line D;obtain⟨g1,g2,J⟩:=hf;exact⟨by omega,by omega,by omega⟩
instance (pl:Int):Decidable (Dy pl):=by unfold Dy;infer_instance
instance (A:Nat) (p:Pt):Decidable (bd A p):=by unfold bd;infer_instance
def dU (it:Itm) (p:Pt):Int:=plU it.aF p-plU it.aF it.ce
def dW (it:Itm) (p:Pt):Int:=plW it.aF p-plW it.aF it.ce
def sq2 (u w:Int):Int:=u*u+w*w
def crs (u w x y:Int):Int:=u*y-w*x
def dt2 (u w x y:Int):Int:=u*x+w*y
def qA (it:Itm):Int:=sq2 (dU it it.fr) (dW it it.fr)
def qB (it:Itm):Int:=sq2 (dU it it.to) (dW it it.to)
def cAB (it:Itm):Int:=crs (dU it it.fr) (dW it it.fr) (dU it it.to) (dW it it.to)
def dAB (it:Itm):Int:=dt2 (dU it it.fr) (dW it it.fr) (dU it it.to) (dW it it.to)
def IE (X Y:Int):Prop:=X+Y-16<=0\/(X+Y-16)*(X+Y-16)<=4*X*Y
def Qh2 (it:Itm):Prop:=64<=qA it/\64<=qB it/\IE (qA it) (qB it)/\(it.full=true->dU it it.fr=dU it it.to/\dW it it.fr=dW it it.to)/\(it.full=false->cAB it≠0\/dAB it<0)
def Zpw (it:Itm):Prop:=Dy it.aF/\(it.dir=1\/it.dir= -1)/\bd 1048576 it.ce/\Qh2 it
def DZ (it:Itm):Prop:=(1<=it.kind/\it.kind<=6)/\bd 1048576 it.fr/\bd 1048576 it.to/\(it.kind=3->Zpw it)
theorem Qcx {it:Itm} {p:Pt} {b c:Nat} (D:bd c it.ce) (h:bd b p):(dU it p).natAbs<=b+c/\(dW it p).natAbs<=b+c:=by
 obtain⟨E,G,I⟩:=Ia (pl:=it.aF) h;obtain⟨g1,g2,J⟩:=Ia (pl:=it.aF) D;unfold dU dW;omega
theorem Q3o (x:Int) {b:Nat} (h:x.natAbs<=b):0<=x*x/\x*x<=((b*b:Nat):Int):=by
 have D:=Im h h;have E:0<=x*x:=by rw[<-Int.natAbs_mul_self];omega
 omega
theorem Zb6 {u w:Int} {b:Nat} (D:u.natAbs<=b) (E:w.natAbs<=b):0<=sq2 u w/\sq2 u w<=((2*(b*b):Nat):Int):=by
 have G:=Q3o u D;have I:=Q3o w E;unfold sq2;omega
theorem Q22 {u w x y:Int} {b c:Nat} (D:u.natAbs<=b) (E:w.natAbs<=b) (G:x.natAbs<=c) (I:y.natAbs<=c):(dt2 u w x y).natAbs<=2*(b*c)/\(crs u w x y).natAbs<=2*(b*c):=by
 have J:=Im D G;have L:=Im E I;have M:=Im D I;have N:=Im E G;unfold dt2 crs;omega
theorem Zfj {X Y:Int} (D:64<=X) (E:64<=Y):IE X Y↔(max X Y-min X Y-16<=0\/(max X Y-min X Y-16)*(max X Y-min X Y-16)<=64*min X Y):=by
 unfold IE;have key:∀M m:Int,64<=M->64<=m->m<=M->((M+m-16<=0\/(M+m-16)*(M+m-16)<=4*M*m)↔(M-m-16<=0\/(M-m-16)*(M-m-16)<=64*m)):=by
  intro M m I J L;have e:(M-m-16)*(M-m-16)-64*m=(M+m-16)*(M+m-16)-4*M*m:=by grind
  by_cases G:M-m-16<=0
  ·refine iff_of_true (.inr ?_) (.inl G);have N:(16-(M-m))*(M-m+16)>=0:=Int.mul_nonneg (by omega) (by omega);have O:(M+m-16)*(M+m-16)-4*M*m=512-(16-(M-m))*(M-m+16)-32*(M+m):=by grind
   omega
  ·constructor
   ·rintro(h|h)
    ·omega
    ·exact .inr (by omega)
   ·rintro(h|h)
    ·omega
    ·exact .inr (by omega)
 by_cases h:X<=Y
 ·rw[Int.max_eq_right h,Int.min_eq_left h,<-key Y X E D h];have e1:X+Y-16=Y+X-16:=by omega
  have e2:4*X*Y=4*Y*X:=by grind
  rw[e1,e2]
 ·rw[Int.max_eq_left (by omega),Int.min_eq_right (by omega),<-key X Y D E (by omega)]
theorem Znw (p:Pt):NW [I p.x,I p.y,I p.z]=some [B (decide (bd 1048576 p))]:=by
 unfold NW;rw[Zoa];simp only[go_sem];by_cases h:bd 1048576 p
 ·obtain⟨M,N,O⟩:=h;rw[ab (by omega),ab (by omega),ab (by omega),ab (by omega),ab (by omega),ab (by omega)];congr 3;symm;exact al ⟨M,N,O⟩
 ·have e:decide (bd 1048576 p)=false:=am h;rw[e];unfold bd at h;by_cases D:p.x< -1048576
  ·rw[aa D]
  rw[ab D];by_cases E:p.x>1048576
  ·rw[aa E]
  rw[ab E];by_cases G:p.y< -1048576
  ·rw[aa G]
  rw[ab G];by_cases J:p.y>1048576
  ·rw[aa J]
  rw[ab J];by_cases L:p.z< -1048576
  ·rw[aa L]
  rw[ab L,aa (by omega)]
def axI (pl:Int):Int×Int×Int:=if pl=17 then(0,1,2)else if pl=18 then(2,0,1)else if pl=19 then(1,2,0)else(0,0,0)
theorem Qf0 (pl:Int):F2 [I pl]=some [I (axI pl).1,I (axI pl).2.1,I (axI pl).2.2,B (decide (Dy pl))]:=by
 unfold F2;rw[Z07];simp only[go_sem];unfold axI Dy;by_cases D:pl=17
 ·rw[aa D,aa D];simp[D]
 rw[ab D,ab D];by_cases E:pl=18
 ·rw[aa E,aa E];simp[E]
 rw[ab E,ab E];by_cases G:pl=19
 ·rw[aa G,aa G];simp[G]
 rw[ab G,ab G];simp[D,E,G]
theorem Z6a {M:Fn} (E:∀pl:Int,M [I pl]=some [I (axI pl).1,I (axI pl).2.1,I (axI pl).2.2,B (decide (Dy pl))]) {p:Pt} {pl:Int} (D:Dy pl):
  Vj M [I p.x,I p.y,I p.z,I pl]=some [I (plU pl p),I (plW pl p),I (plH pl p)]:=by
 rw[Z7w];simp only[go_sem,E];rw[ab (by simpa using D)];rcases D with rfl|rfl|rfl<;>rfl
theorem Qwe {p:Pt} {pl:Int} (D:Dy pl):Ir [I p.x,I p.y,I p.z,I pl]=some [I (plU pl p),I (plW pl p),I (plH pl p)]:=Z6a Qf0 D
def Az (p:Pt):Pt:=⟨p.x*16,p.y*16,p.z*16⟩
theorem FK {b:Nat} {p:Pt} (h:bd b p):bd (b*16) (Az p):=by
 obtain⟨D,E,G⟩:=h;unfold Az;exact⟨by simp only;omega,by simp only;omega,by simp only;omega⟩
theorem T2 (pl:Int) (p:Pt):plU pl (Az p)=plU pl p*16/\plW pl (Az p)=plW pl p*16/\plH pl (Az p)=plH pl p*16:=by
 unfold plU plW plH Az;refine⟨?_,?_,?_⟩<;>split<;>(try split)<;>rfl
theorem Q26 {p:Pt} (h:bd 100000000 p):HQ [I p.x,I p.y,I p.z]=some (ptR (Az p)):=by
 unfold HQ;rw[Zmo];obtain⟨D,E,G⟩:=h;rw[Ae (by omega),Ae (by omega),Ae (by omega)];rfl
theorem Qjg {u w r h x y s g:Int} (D:u.natAbs<=1000000000) (E:w.natAbs<=1000000000) (G:x.natAbs<=1000000000) (J:y.natAbs<=1000000000):GY [I u,I w,I r,I h,I x,I y,I s,I g]=some [I (dt2 u w x y)]:=by
 unfold GY;rw[Zw5];have L:=Im D G;have M:=Im E J;unfold dt2;rw[Ae (x:=u*x) (by omega),Ae (x:=w*y) (by omega),Ae (by omega)]
theorem Qmi {u w r h x y s g:Int} (D:u.natAbs<=1000000000) (E:w.natAbs<=1000000000) (G:x.natAbs<=1000000000) (J:y.natAbs<=1000000000):Hp [I u,I w,I r,I h,I x,I y,I s,I g]=some [I (crs u w x y)]:=by
 unfold Hp;rw[Zmr];have L:=Im D J;have M:=Im E G;unfold crs;rw[Ae (x:=u*y) (by omega),Ae (x:=w*x) (by omega),Ae (by omega)]
theorem Zfr {M:Fn} (J:∀{a b c d:Int},i64 a->i64 b->i64 c->i64 d->M [I a,I b,I c,I d]=some [I (LJ (a*b) (c*d))]) {X Y:Int} (L:64<=X/\X<=1000000000000000) (N:64<=Y/\Y<=1000000000000000):
  ∃v,Yj M [I X,I Y]=some [B v]/\(v=true↔IE X Y):=by
 rw[Zqj,Zfj L.1 N.1];have E:mx X Y=max X Y:=by unfold mx;rw[Int.max_def];split<;>split<;>omega
 have G:mn X Y=min X Y:=by unfold mn;rw[Int.min_def];split<;>split<;>omega
 have O:max X Y<=1000000000000000/\64<=max X Y:=by omega
 have S:min X Y<=1000000000000000/\64<=min X Y:=by omega
 rw[E,G];generalize max X Y=a at*;generalize min X Y=b at*;simp only[go_sem];rw[Ae (x:=a-b) (by omega),Ae (x:=a-b-16) (by omega)];by_cases D:a-b-16<=0
 ·rw[aa D];exact⟨_,rfl,iff_of_true rfl (.inl D)⟩
 ·rw[ab D,J (by unfold i64;omega) (by unfold i64;omega) (by unfold i64;omega) (by unfold i64;omega)];refine⟨_,rfl,?_⟩;simp only[go_sem,cq,Zyo];exact⟨λh=> .inr h,λh=>h.resolve_left D⟩
theorem Zi1 {X Y:Int} (D:64<=X/\X<=1000000000000000) (E:64<=Y/\Y<=1000000000000000):∃v,Qg [I X,I Y]=some [B v]/\(v=true↔IE X Y):=Zfr Z3n D E
theorem Zzq {E G:Fn} {it:Itm} (J:∀p:Pt,E [I p.x,I p.y,I p.z,I it.aF]=some [I (plU it.aF p),I (plW it.aF p),I (plH it.aF p)]) (L:∀{p:Pt},bd 100000000 p->G [I p.x,I p.y,I p.z]=some (ptR (Az p)))
  (O:bd 1048576 it.fr) (S:bd 1048576 it.to) (T:bd 1048576 it.ce):
  Yu E G (Al (Qqr E G)) (Ag it)=some [I (dU it it.fr*16),I (dW it it.fr*16),I 0,I (plH it.aF it.fr*16),I (dU it it.to*16),I (dW it it.to*16),I 0,I (plH it.aF it.to*16)]:=by
 rw[Zvr];obtain⟨q1,q2,q3⟩:=Ia (pl:=it.aF) O;obtain⟨q4,q5,q6⟩:=Ia (pl:=it.aF) S;obtain⟨q7,q8,q9⟩:=Ia (pl:=it.aF) T;simp only[L (A6 T (by omega)),J,go_sem];have w0:wrap .i64 (0+1)=1:=Ae (by omega);have U:wrap .i64 (1+1)=2:=Ae (by omega);have M:=T2 it.aF it.fr;have N:=T2 it.aF it.to;have D:=T2 it.aF it.ce;have V:wrap .i64 (plU it.aF (Az it.fr)-plU it.aF (Az it.ce))=dU it it.fr*16:=by rw[M.1,D.1];unfold dU;rw[Ae (by omega)];omega
 have X:wrap .i64 (plW it.aF (Az it.fr)-plW it.aF (Az it.ce))=dW it it.fr*16:=by rw[M.2.1,D.2.1];unfold dW;rw[Ae (by omega)];omega
 have Y:wrap .i64 (plU it.aF (Az it.to)-plU it.aF (Az it.ce))=dU it it.to*16:=by rw[N.1,D.1];unfold dU;rw[Ae (by omega)];omega
 have u4:wrap .i64 (plW it.aF (Az it.to)-plW it.aF (Az it.ce))=dW it it.to*16:=by rw[N.2.1,D.2.1];unfold dW;rw[Ae (by omega)];omega
 have b1:bd 100000000 it.fr:=A6 O (by omega);have b2:bd 100000000 it.to:=A6 S (by omega);have e1:=L b1;have e2:=L b2;rw[Bv (by rw[Qos];simp only[go_sem,e1,e2,J,V,X,w0];rfl),Bv (by rw[Qos];simp only[go_sem,e1,e2,J,Y,u4,U];rfl),
  A7 (o:=(1,_)) (by rw[Qos];simp only[go_sem];rfl) (by simp)]
 simp only[go_sem,M.2.2,N.2.2]
theorem Zbr {it:Itm} (D:Dy it.aF) (E:bd 1048576 it.fr) (G:bd 1048576 it.to) (J:bd 1048576 it.ce):
  K9 (Ag it)=some [I (dU it it.fr*16),I (dW it it.fr*16),I 0,I (plH it.aF it.fr*16),I (dU it it.to*16),I (dW it it.to*16),I 0,I (plH it.aF it.to*16)]:=
 Zzq (λ_=>Qwe D) Q26 E G J
theorem Z8o {N:Fn} {X Y C D L O M S:Int} {full:Bool} (hX:0<=X/\X<=1000000000000000) (hY:0<=Y/\Y<=1000000000000000)
  (hN:∀{X Y:Int},(64<=X/\X<=1000000000000000)->(64<=Y/\Y<=1000000000000000)->∃v,N [I X,I Y]=some [B v]/\(v=true↔IE X Y)):
  ∃ v, (if X * 256 < wrap .i64 (128 * 128) then some [B false] else if Y * 256 < wrap .i64 (128 * 128) then some [B false] else
   (N [I (wrap .i64 ((X*256).tdiv 256)),I (wrap .i64 ((Y*256).tdiv 256))]).bind λo=>
   if¬C_ (nth .dead o 0)=true then some [B false]else if full=true then if L*16=M*16 then some [B (O*16==S*16)]else some [B false]else if C*256≠0 then some [B true]else some [B (decide (D*256<0))])=some [B v]/\
   (v=true↔64<=X/\64<=Y/\IE X Y/\(full=true->L=M/\O=S)/\(full=false->C≠0\/D<0)):=by
 rw[Ae (x:=128*128) (by omega),Int.mul_tdiv_cancel _ (by omega),Int.mul_tdiv_cancel _ (by omega),Ae (x:=X) (by omega),Ae (x:=Y) (by omega)];by_cases T:X*256<128*128
 ·rw[aa T];exact⟨_,rfl,iff_of_false (by simp) λh=>by omega⟩
 rw[ab T];by_cases U:Y*256<128*128
 ·rw[aa U];exact⟨_,rfl,iff_of_false (by simp) λh=>by omega⟩
 rw[ab U];obtain⟨v,h1,V⟩:=hN (X:=X) (Y:=Y) (by omega) (by omega);simp only[h1,go_sem];by_cases J:v=true
 case neg=>rw[aa J];exact⟨_,rfl,iff_of_false (by simp) λh=>J (V.2 h.2.2.1)⟩
 rw[ab (by simpa using J)];have E:=V.1 J;cases full with
 |true=>
  rw[aa rfl];by_cases G:L*16=M*16
  ·rw[aa G];refine⟨_,rfl,?_⟩;simp only[beq_iff_eq];exact⟨λh=>⟨by omega,by omega,E,λ_=>⟨by omega,by omega⟩,λh=>by simp at h⟩,λh=>by have:=(h.2.2.2.1 trivial).2;omega⟩
  ·rw[ab G];exact⟨_,rfl,iff_of_false (by simp) λh=>G (by have:=(h.2.2.2.1 rfl).1;omega)⟩
 |false=>
  rw[ab (by simp)];by_cases G:C*256≠0
  ·rw[aa G];exact⟨_,rfl,iff_of_true rfl ⟨by omega,by omega,E,λh=>by simp at h,λ_=> .inl (by omega)⟩⟩
  ·rw[ab G];refine⟨_,rfl,?_⟩;simp only[cq];exact⟨λh=>⟨by omega,by omega,E,λh=>by simp at h,λ_=> .inr (by omega)⟩,λh=>by have:=(h.2.2.2.2 trivial);omega⟩
theorem Q4z (a b c d:Int):dt2 (a*16) (b*16) (c*16) (d*16)=dt2 a b c d*256/\crs (a*16) (b*16) (c*16) (d*16)=crs a b c d*256:=by
 unfold dt2 crs;constructor<;>grind
theorem Zlc {MC MN MD ME MA MW:Fn} (hA:∀pl:Int,MA [I pl]=some [I (axI pl).1,I (axI pl).2.1,I (axI pl).2.2,B (decide (Dy pl))]) (hW:∀p:Pt,MW [I p.x,I p.y,I p.z]=some [B (decide (bd 1048576 p))])
  {it:Itm} (hE:Dy it.aF->bd 1048576 it.fr->bd 1048576 it.to->bd 1048576 it.ce->ME (Ag it)=some [I (dU it it.fr*16),I (dW it it.fr*16),I 0,I (plH it.aF it.fr*16),I (dU it it.to*16),I (dW it it.to*16),I 0,I (plH it.aF it.to*16)])
  (hD:∀{u w r h x y s g:Int},u.natAbs<=1000000000->w.natAbs<=1000000000->x.natAbs<=1000000000->y.natAbs<=1000000000->MD [I u,I w,I r,I h,I x,I y,I s,I g]=some [I (dt2 u w x y)])
  (hX:∀{u w r h x y s g:Int},u.natAbs<=1000000000->w.natAbs<=1000000000->x.natAbs<=1000000000->y.natAbs<=1000000000->MC [I u,I w,I r,I h,I x,I y,I s,I g]=some [I (crs u w x y)])
  (hN:∀{X Y:Int},(64<=X/\X<=1000000000000000)->(64<=Y/\Y<=1000000000000000)->∃v,MN [I X,I Y]=some [B v]/\(v=true↔IE X Y)):
  ∃v,Qoo MC MN MD ME MA MW (Ag it)=some [B v]/\(v=true↔DZ it):=by
 rw[Zwb];simp only[go_sem,hW,hA];by_cases c1:it.kind<1
 ·rw[aa c1];exact⟨_,rfl,iff_of_false (by simp) λh=>by have:=h.1;omega⟩
 rw[ab c1];by_cases M:it.kind>6
 ·rw[aa M];exact⟨_,rfl,iff_of_false (by simp) λh=>by have:=h.1;omega⟩
 rw[ab M];by_cases E:bd 1048576 it.fr
 case neg=>rw[aa (by simpa using E)];exact⟨_,rfl,iff_of_false (by simp) λh=>E h.2.1⟩
 rw[ab (by simpa using E)];by_cases G:bd 1048576 it.to
 case neg=>rw[aa (by simpa using G)];exact⟨_,rfl,iff_of_false (by simp) λh=>G h.2.2.1⟩
 rw[ab (by simpa using G)];by_cases J:it.kind=3
 case neg=>rw[aa J];exact⟨_,rfl,iff_of_true rfl ⟨by omega,E,G,λh=>absurd h J⟩⟩
 rw[ab (by simpa using J)];by_cases N:Dy it.aF
 case neg=>rw[aa (by simpa using N)];exact⟨_,rfl,iff_of_false (by simp) λh=>N (h.2.2.2 J).1⟩
 rw[ab (by simpa using N)];by_cases D:bd 1048576 it.ce
 case neg=>
  refine⟨false,?_,iff_of_false (by simp) λh=>D (h.2.2.2 J).2.2.1⟩;split
  ·split
   ·rfl
   ·first|rfl|(rw[aa D])
  ·first|rfl|(rw[aa D])
 by_cases c6:it.dir=1\/it.dir= -1
 case neg=>
  rw[aa (c:=it.dir≠1) (by omega),aa (c:=it.dir≠-1) (by omega)];exact⟨false,rfl,iff_of_false (by simp) λh=>c6 (h.2.2.2 J).2.1⟩
 have L:=hE N E G D;obtain⟨b1,b2⟩:=Qcx (it:=it) D E;obtain⟨b3,b4⟩:=Qcx (it:=it) D G;simp only[Ag]at L;have x1:=Zb6 b1 b2;have x2:=Zb6 b3 b4;have core:DZ it↔64<=qA it/\64<=qB it/\IE (qA it) (qB it)/\(it.full=true->dU it it.fr=dU it it.to/\dW it it.fr=dW it it.to)/\(it.full=false->cAB it≠0\/dAB it<0):=
  ⟨λh=>(h.2.2.2 J).2.2.2,λh=>⟨by omega,E,G,λ_=>⟨N,c6,D,h⟩⟩⟩
 rw[core];have a0:0<=qA it/\qA it<=1000000000000000:=⟨x1.1,by unfold qA;omega⟩;have a1:0<=qB it/\qB it<=1000000000000000:=⟨x2.1,by unfold qB;omega⟩;have O:= @hD (dU it it.fr*16) (dW it it.fr*16) 0 (plH it.aF it.fr*16) (dU it it.fr*16) (dW it it.fr*16) 0 (plH it.aF it.fr*16) (by omega) (by omega) (by omega) (by omega);have S:= @hD (dU it it.to*16) (dW it it.to*16) 0 (plH it.aF it.to*16) (dU it it.to*16) (dW it it.to*16) 0 (plH it.aF it.to*16) (by omega) (by omega) (by omega) (by omega);have U:= @hD (dU it it.fr*16) (dW it it.fr*16) 0 (plH it.aF it.fr*16) (dU it it.to*16) (dW it it.to*16) 0 (plH it.aF it.to*16) (by omega) (by omega) (by omega) (by omega);have V:= @hX (dU it it.fr*16) (dW it it.fr*16) 0 (plH it.aF it.fr*16) (dU it it.to*16) (dW it it.to*16) 0 (plH it.aF it.to*16) (by omega) (by omega) (by omega) (by omega);rw[(Q4z _ _ _ _).1]at O S U;rw[(Q4z _ _ _ _).2]at V;have e1:dt2 (dU it it.fr) (dW it it.fr) (dU it it.fr) (dW it it.fr)=qA it:=rfl;have e2:dt2 (dU it it.to) (dW it it.to) (dU it it.to) (dW it it.to)=qB it:=rfl;have e3:dt2 (dU it it.fr) (dW it it.fr) (dU it it.to) (dW it it.to)=dAB it:=rfl;have e4:crs (dU it it.fr) (dW it it.fr) (dU it it.to) (dW it it.to)=cAB it:=rfl;rw[e1]at O;rw[e2]at S;rw[e3]at U;rw[e4]at V;have T:= @Z8o MN (qA it) (qB it) (cAB it) (dAB it) (dU it it.fr) (dW it it.fr) (dU it it.to) (dW it it.to) it.full a0 a1 hN;have n7: ¬ ¬bd 1048576 it.ce:=λh=>h D;by_cases d1:it.dir=1
 ·rw[ab (c:=it.dir≠1) (λh=>h d1),ab n7];simp only[L,go_sem,O,S,U,V];exact T
 ·rw[aa (c:=it.dir≠1) d1,ab (c:=it.dir≠-1) (by omega),ab n7];simp only[L,go_sem,O,S,U,V];exact T
theorem Qoa (it:Itm):∃v,Ha (Ag it)=some [B v]/\(v=true↔DZ it):=
 Zlc Qf0 Znw (λD E G I=>Zbr D E G I) Qjg Qmi Zi1
def okS (s:Spk):Prop:=s.u.natAbs<=50000000/\s.w.natAbs<=50000000/\(0<=s.r/\s.r<=50000000)/\s.h.natAbs<=16777216
def hf (a b:Int):Int:=(a+b+1)/2
def DR (a b:Spk) (dir:Int) (full:Bool):Int×Int:=
 if full=true then(-a.u,-a.w)
 else if 0<dt2 a.u a.w b.u b.w/\0<crs a.u a.w b.u b.w*dir then(a.u+b.u,a.w+b.w)
 else if 0<dt2 a.u a.w b.u b.w then(-(a.u+b.u),-(a.w+b.w))
 else(dir*(b.w-a.w),dir*(a.u-b.u))
noncomputable def HX (a b:Spk) (u w:Int):Spk:=if u=0/\w=0 then⟨0,0,0,0⟩else⟨Ci u (hf a.r b.r) (sq2 u w),Ci w (hf a.r b.r) (sq2 u w),hf a.r b.r,hf a.h b.h⟩
noncomputable def Fd (a b:Spk) (dir:Int) (full:Bool):Spk:=HX a b (DR a b dir full).1 (DR a b dir full).2
theorem OK {a b:Spk} (D:okS a) (hb:okS b) {dir:Int} (E:dir=1\/dir= -1) (full:Bool):(DR a b dir full).1.natAbs<=100000000/\(DR a b dir full).2.natAbs<=100000000:=by
 obtain⟨a1,a2,-⟩:=D;obtain⟨b1,b2,-⟩:=hb;unfold DR;split
 ·exact⟨by simp only;omega,by simp only;omega⟩
 ·split
  ·exact⟨by simp only;omega,by simp only;omega⟩
  ·split
   ·exact⟨by simp only;omega,by simp only;omega⟩
   ·rcases E with rfl|rfl
    ·exact⟨by simp only;omega,by simp only;omega⟩
    ·exact⟨by simp only;omega,by simp only;omega⟩
theorem Q9b (u w:Int):u*u<=sq2 u w/\w*w<=sq2 u w:=by
 have D:=F6 u;have E:=F6 w;unfold sq2;omega
theorem R5 {u w:Int} (h: ¬(u=0/\w=0)):0<sq2 u w:=by
 have G:=F6 u;have I:=F6 w;have z:∀u:Int,u*u=0->u=0:=λu E=>by
  rcases Int.mul_eq_zero.1 E with h|h<;>exact h
 have J: ¬(u*u=0/\w*w=0):=λD=>h ⟨z _ D.1,z _ D.2⟩;unfold sq2;omega
theorem Q4h {a b:Int} (D:0<=a/\a<=50000000) (hb:0<=b/\b<=50000000):0<=hf a b/\hf a b<=50000000:=by unfold hf;omega
theorem Zg0 {a b:Int} (D:a.natAbs<=16777216) (hb:b.natAbs<=16777216):(hf a b).natAbs<=16777216:=by unfold hf;omega
theorem Zcv {u w r:Int} (D:u.natAbs<=100000000) (E:w.natAbs<=100000000) (N:0<=r/\r<=50000000) (h: ¬(u=0/\w=0)):
  (True/\(Ci u r (sq2 u w)).natAbs<=r.natAbs)/\(True/\(Ci w r (sq2 u w)).natAbs<=r.natAbs):=by
 have O:=R5 h;have S:=D6 D;have T:=D6 E;have U:sq2 u w<=20000000000000000:=by unfold sq2;omega
 obtain⟨G,I⟩:=Q9b u w;have key:∀x:Int,x.natAbs<=100000000->x*x<=sq2 u w->True/\(Ci x r (sq2 u w)).natAbs<=r.natAbs:=by
  intro x J L;obtain⟨g1,-,M⟩:=Tn (x:=x) (r:=r) (n:=sq2 u w) (cg J (by decide)) (by omega) (by omega) L;refine⟨g1,Xr (by omega) ?_ M⟩;have:((x.natAbs*x.natAbs:Nat):Int)=x*x:=Int.natAbs_mul_self;omega
 exact⟨key u D G,key w E I⟩
theorem Zf4 {a b:Spk} (D:okS a) (hb:okS b) {u w:Int} (G:u.natAbs<=100000000) (I:w.natAbs<=100000000):okS (HX a b u w):=by
 unfold HX;split
 ·exact⟨by simp,by simp,by simp,by simp⟩
 ·rename_i h;have E:=Q4h D.2.2.1 hb.2.2.1;obtain⟨⟨-,J⟩,-,L⟩:=Zcv G I E h;exact⟨by simp only;omega,by simp only;omega,E,Zg0 D.2.2.2 hb.2.2.2⟩
theorem Qyq {a b:Spk} (D:okS a) (hb:okS b) {dir:Int} (E:dir=1\/dir= -1) (full:Bool):okS (Fd a b dir full):=
 Zf4 D hb (OK D hb E full).1 (OK D hb E full).2
theorem HH {x:Int} (h:x.natAbs<=50000000):x.natAbs<=1000000000:=cg h (by decide)
def IM (a b:Spk) (dir:Int) (full:Bool):Prop:=full=false/\0<crs a.u a.w b.u b.w*dir/\sq2 (a.u-b.u) (a.w-b.w)<=32*mn a.r b.r-64
instance {a b:Spk} {dir:Int} {full:Bool}:Decidable (IM a b dir full):=by unfold IM;infer_instance
noncomputable def Ek (dir:Int):Nat->Bool->Spk->Spk->List Spk
 |0,_,_,b=>[b]
 |k+1,full,a,b=>if IM a b dir full then [b]else Ek dir k false a (Fd a b dir full)++Ek dir k false (Fd a b dir full) b
theorem U7 {dir:Int}:∀(k:Nat) (full:Bool) (a b:Spk),1<=(Ek dir k full a b).length/\(Ek dir k full a b).length<=2^k
 |0,_,_,b=>by simp[Ek]
 |k+1,full,a,b=>by
  have D:0<2^k:=Nat.two_pow_pos _;have e3:2^(k+1)=2^k+2^k:=by rw[Nat.pow_succ];omega
  unfold Ek;split
  ·simp;omega
  ·have E:=U7 k false a (Fd a b dir full) (dir:=dir);have G:=U7 k false (Fd a b dir full) b (dir:=dir);rw[ao];omega
theorem VD {dir:Int} (E:dir=1\/dir= -1):∀(k:Nat) (full:Bool) {a b:Spk},okS a->okS b->∀s∈Ek dir k full a b,okS s
 |0,_,a,b,_,hb,s,D=>by simp[Ek]at D;subst D;exact hb
 |k+1,full,a,b,G,hb,s,D=>by
  unfold Ek at D;have I:=Qyq G hb E full;split at D
  ·simp at D;subst D;exact hb
  ·rcases bn.1 D with D|D
   ·exact VD E k false G I s D
   ·exact VD E k false I hb s D
theorem Zla {n i j:Int} (E:JK n i) (G:JK n j):i=j:=by
 have key:∀{i j:Int},JK n i->JK n j-> ¬i<j:=by
  rintro i j ⟨I,J,-⟩ ⟨M,N,D⟩ L;rcases D with D|D
  ·omega
  ·have O:=dm (show i<=j-1 by omega) (show i+1<=j by omega) (by omega) (by omega);omega
 have I:=key E G;have J:=key G E;omega
open Classical in
noncomputable def F_ (n:Int):Int:=if h:∃j,JK n j then Classical.choose h else 0
theorem SZ {n k:Int} (h:JK n k):F_ n=k:=by
 have D:∃j,JK n j:=⟨k,h⟩;unfold F_;rw[dif_pos D];exact Zla (Classical.choose_spec D) h
theorem Ty {n r:Nat} (D:r*r<=n) (E:n<(r+1)*(r+1)):JK n (if r*r+r<n then r+1 else r:Nat):=by
 have e0:(r+1)*(r+1)=r*r+r+r+1:=by grind
 unfold JK;by_cases c:r*r+r<n
 ·rw[aa c];have e1:((r+1:Nat):Int)*(((r+1:Nat):Int)+1)=((r*r+r+r+r+2:Nat):Int):=by
   have:((r+1:Nat):Int)+1=((r+2:Nat):Int):=by omega
   rw[this,<-Int.natCast_mul];congr 1
   grind
  have e2:(((r+1:Nat):Int)-1)*((r+1:Nat):Int)=((r*r+r:Nat):Int):=by
   rw[show((r+1:Nat):Int)-1=(r:Int) by omega,<-Int.natCast_mul];congr 1
  rw[e1,e2];generalize r*r=A at*;exact⟨by omega,by omega, .inr (by omega)⟩
 ·rw[ab c];have e1:(r:Int)*((r:Int)+1)=((r*r+r:Nat):Int):=by
   rw[show(r:Int)+1=((r+1:Nat):Int) by omega,<-Int.natCast_mul];congr 1
  rw[e1];refine⟨by omega,by omega,?_⟩;rcases Nat.eq_zero_or_pos r with h|h
  ·left;omega
  ·right;have e2:((r:Int)-1)*(r:Int)=(((r-1)*r:Nat):Int):=by
    rw[show(r:Int)-1=((r-1:Nat):Int) by omega];exact(Int.natCast_mul _ _).symm
   have:=Nat.mul_lt_mul_of_pos_right (show r-1<r by omega) h;rw[e2];omega
noncomputable def E3 (it:Itm) (p:Pt):Spk:=⟨dU it p*16,dW it p*16,F_ (sq2 (dU it p*16) (dW it p*16)),plH it.aF p*16⟩
theorem Zpd {n:Nat} (I:n<=2251799813685248):0<=F_ n/\F_ n<=50000000:=by
 obtain⟨r,-,D,E,-⟩:=U2 (n:=n) (by omega);have G:=Ty D E;rw[SZ G];have:r<50000000:=by
  by_cases c:r<50000000
  ·exact c
  ·have:=dl (show 50000000<=r by omega) (show 50000000<=r by omega);omega
 split<;>omega
theorem QU {it:Itm} {p:Pt} (G:bd 1048576 it.ce) (I:bd 1048576 p):(dU it p*16).natAbs<=33554432/\(dW it p*16).natAbs<=33554432/\0<=sq2 (dU it p*16) (dW it p*16)/\sq2 (dU it p*16) (dW it p*16)<=2251799813685248:=by
 obtain⟨J,L⟩:=Qcx G I;have D:(dU it p*16).natAbs<=33554432:=by omega
 have E:(dW it p*16).natAbs<=33554432:=by omega
 have M:=D6 D;have N:=D6 E;refine⟨D,E,?_⟩;unfold sq2;omega
theorem T9 {it:Itm} {p:Pt} (E:bd 1048576 it.ce) (D:bd 1048576 p):okS (E3 it p):=by
 obtain⟨G,I,J,L⟩:=QU E D;have N:=(Ia (pl:=it.aF) D).2.2;obtain⟨n,M⟩:=bv J;refine⟨cg G (by decide),cg I (by decide),?_,?_⟩
 ·show 0<=F_ _/\F_ _<=_;rw[M]at L⊢;exact Zpd (by omega)
 ·show(plH it.aF p*16).natAbs<=_;omega
noncomputable def Eh (it:Itm):List Spk:=E3 it it.fr::Ek it.dir 16 it.full (E3 it it.fr) (E3 it it.to)
theorem Q6w {it:Itm} (h:DZ it) (I:it.kind=3):∀s∈Eh it,okS s:=by
 obtain⟨-,G,J,L⟩:=h;obtain⟨N,M,D,-⟩:=L I;intro s E;rcases av.1 E with rfl|E
 ·exact T9 D G
 ·exact VD M 16 _ (T9 D G) (T9 D J) s E
theorem Qxi (it:Itm):2<=(Eh it).length/\(Eh it).length<=65537:=by
 have:=U7 (dir:=it.dir) 16 it.full (E3 it it.fr) (E3 it it.to);have e:(2:Nat)^16=65536:=rfl;rw[e]at this;unfold Eh;rw[bh];omega
noncomputable def JR (it:Itm) (s:Spk):Pt:=spP it.aF (plU it.aF (Az it.ce)+s.u) (plW it.aF (Az it.ce)+s.w) s.h
noncomputable def CK (it:Itm):List Pt:=if it.kind=3 then(Eh it).map (JR it)else [Az it.fr,Az it.to]
theorem Q7q {pl u w h:Int} {b:Nat} (D:u.natAbs<=b) (E:w.natAbs<=b) (G:h.natAbs<=b):bd b (spP pl u w h):=by
 unfold spP bd;split
 ·exact⟨D,E,G⟩
 ·split
  ·exact⟨E,G,D⟩
  ·exact⟨G,D,E⟩
theorem Zk6 {it:Itm} {s:Spk} (D:bd 1048576 it.ce) (E:okS s):bd 67108864 (JR it s):=by
 obtain⟨G,I,-⟩:=Ia (pl:=it.aF) (FK D);obtain⟨s1,s2,-,J⟩:=E;exact Q7q (by omega) (by omega) (by omega)
theorem Qd4 {it:Itm} (h:DZ it):∀p∈CK it,bd 67108864 p:=by
 intro p D;unfold CK at D;split at D
 ·rename_i E;simp only[ba]at D;obtain⟨s,G,rfl⟩:=D;exact Zk6 (h.2.2.2 E).2.2.1 (Q6w h E s G)
 ·simp at D;rcases D with rfl|rfl
  ·exact A6 (FK h.2.1) (by decide)
  ·exact A6 (FK h.2.2.1) (by decide)
theorem Qyk (it:Itm):2<=(CK it).length/\(CK it).length<=65537:=by
 have:=Qxi it;unfold CK;split<;>simp<;>omega
def Id (t:Itm) (speed:Int):Int:=if t.kind=1 then 0 else mx (Bw (mn (if t.perRev=true then t.feed*mx speed 1 else t.feed) 60000000*4096) 60000) 1
theorem Zlt {f s:Int} (hf:0<=f/\f<=60000000) (E:0<=s/\s<=30000):0<=f*mx s 1/\f*mx s 1<=1800000000000:=by
 have D:1<=mx s 1/\mx s 1<=30000:=by unfold mx;split<;>omega
 generalize mx s 1=m at*;have G:=dm hf.2 D.2 (by omega) (by omega);have I:=Int.mul_nonneg hf.1 (show 0<=m by omega);omega
theorem Q2k {x:Int} (h:0<=x):0<=mn x 60000000/\mn x 60000000<=60000000:=by unfold mn;split<;>omega
theorem Zxl {M:Fn} {t:Itm} {speed:Int} (hf:0<=t.feed/\t.feed<=60000000) (E:0<=speed/\speed<=30000)
  (D:∀a:Int,0<=a/\a<=60000000->M [I a,I 4096,I 60000,I 2]=some [I (Bw (a*4096) 60000),B true]):VL M (Ag t++[I speed])=some [I (Id t speed)]:=by
 have G:=Zlt hf E;have J:=D _ (Q2k G.1);have L:=D _ (Q2k hf.1);have N:wrap .i64 (t.feed*mx speed 1)=t.feed*mx speed 1:=Ae (by omega);simp only[Ag,aq,ay];rw[Qyg,N];simp only[go_sem,J,L];unfold Id;by_cases g1:t.kind=1
 ·rw[aa g1,aa g1]
 ·rw[ab g1,ab g1];by_cases g2:t.perRev=true
  ·rw[aa g2,aa g2]
  ·rw[ab g2,ab g2]
theorem Zft {t:Itm} {speed:Int} (hf:0<=t.feed/\t.feed<=60000000) (D:0<=speed/\speed<=30000):J6 (Ag t++[I speed])=some [I (Id t speed)]:=
 Zxl hf D λa E=>Tw (by unfold i64;omega) (by unfold i64;omega) (by omega) (by have:a.natAbs*(4096:Int).natAbs<=60000000*4096:=dl (by omega) (by omega);omega)
def it0:Itm:=⟨0,0,⟨0,0,0⟩,⟨0,0,0⟩,0,⟨0,0,0⟩,0,false,0,false,0,0,0,0,0,false⟩
def itA (items:List Itm) (i:Nat):Itm:=items.getD i it0
theorem QV {items:List Itm} {i:Nat} (h:i<items.length):itA items i=items[i]:=by unfold itA;simp[h]
theorem Qrd {items:List Itm} {i:Nat} (h:i<items.length):itA items i∈items:=by rw[QV h];exact bm h
theorem FP {items:List Itm} {i:Nat} (h:i<items.length):nth [] (items.map Ag) i=Ag (itA items i):=by rw[QV h];exact IH _ _ _ _ h
theorem Qnd {items:List Itm} {i:Nat} (h:i<items.length):items.drop i=itA items i::items.drop (i+1):=by rw[QV h];exact O1 _ _ h
def AF (it:Itm):Prop:=1<=it.kind/\it.kind<=6
def smI (it:Itm):Prop:=it.kind=2/\it.fr≠it.to
def syI (it:Itm):Prop:=it.kind=5\/it.kind=6
instance (it:Itm):Decidable (AF it):=by unfold AF;infer_instance
instance (it:Itm):Decidable (smI it):=by unfold smI;infer_instance
instance (it:Itm):Decidable (syI it):=by unfold syI;infer_instance
def Bl (it:Itm):Pt:=⟨(it.fr.x+it.to.x)*8,(it.fr.y+it.to.y)*8,(it.fr.z+it.to.z)*8⟩
theorem LK {it:Itm} (D:bd 1048576 it.fr) (E:bd 1048576 it.to):bd B24 (Bl it):=by
 unfold bd B24 Bl at*;simp only;omega
def GZ:List Itm->Nat->Int
 |[],_=> -1
 |it::l,k=>if it.kind=10 then GZ l (k+1)else if smI it then k else-1
def Cq (items:List Itm) (i:Nat):Int:=if smI (itA items i)/\(itA items i).blend≠0 then GZ (items.drop (i+1)) (i+1)else-1
theorem Quc:∀(l:List Itm) (k:Nat),GZ l k= -1\/∃j:Nat,GZ l k=((k+j:Nat):Int)/\∃h:j<l.length,smI l[j]/\∀i (D:i<l.length),i<j->l[i].kind=10
 |[],_=> .inl rfl
 |it::l,k=>by
  unfold GZ;split
  ·rename_i E;rcases Quc l (k+1)with h|⟨j,G,N,I,J⟩
   ·exact .inl h
   ·refine .inr ⟨j+1,by rw[G];omega,by simp;omega,by simpa using I,?_⟩;intro i D L;cases i with
    |zero=>simpa using E
    |succ i=>simpa using J i (by simpa using D) (by omega)
  ·split
   ·rename_i M;exact .inr ⟨0,by simp,by simp,by simpa using M,λi _ D=>by omega⟩
   ·exact .inl rfl
theorem Zy (items:List Itm) (i:Nat):Cq items i= -1\/(smI (itA items i)/\(itA items i).blend≠0/\∃k:Nat,Cq items i=k/\i<k/\k<items.length/\smI (itA items k)/\∀j,i<j->j<k->(itA items j).kind=10):=by
 unfold Cq;split
 ·rename_i h;rcases Quc (items.drop (i+1)) (i+1)with D|⟨j,D,I,E,J⟩
  ·exact .inl D
  ·have G:i+1+j<items.length:=by rw[bq]at I;omega
   refine .inr ⟨h.1,h.2,i+1+j,D,by omega,G,?_,?_⟩
   ·rw[QV G];rw[List.getElem_drop]at E;exact E
   ·intro m L M;have:=J (m-(i+1)) (by omega) (by omega);rw[List.getElem_drop]at this;rw[QV (by omega)];have e:i+1+(m-(i+1))=m:=by omega
    simp only[e]at this;exact this
 ·exact .inl rfl
def Jt (it:Itm):Int:=if it.kind=10 then 5 else if it.kind=13 then 4 else 3
def F9:List Itm->Int
 |[]=>2
 |it::l=>if AF it then(if syI it then 1 else 2)else F9 l
def Ih (items:List Itm) (i:Nat):Int:=if(itA items i).kind=4 then 6 else if(itA items i).blend=0 then 1 else if syI (itA items i)then 1 else F9 (items.drop (i+1))
noncomputable def H0 (items:List Itm) (i k:Nat):List Pt:=GE (Bl (itA items i)) (Az (itA items i).to) (Bl (itA items k)) ((itA items i).blend*16)
def drawn (it:Itm):Prop:=DZ it/\0<=it.blend/\it.blend<=1000
theorem LP {items:List Itm} {i k:Nat} (D:drawn (itA items i)) (E:drawn (itA items k)):(∀p∈H0 items i k,bd B24 p)/\1<=(H0 items i k).length/\(H0 items i k).length<=65:=
 Q0l (LK D.1.2.1 D.1.2.2.1) (FK D.1.2.2.1) (LK E.1.2.1 E.1.2.2.1)
noncomputable def Jx (items:List Itm) (i:Nat) (frm:Int):List Pt:=if 0<=frm then(H0 items frm.toNat i).drop ((H0 items frm.toNat i).length/2)else(CK (itA items i)).take 1
noncomputable def Na (items:List Itm) (i:Nat):List Pt:=if 0<=Cq items i then(H0 items i (Cq items i).toNat).take ((H0 items i (Cq items i).toNat).length/2+1)else(CK (itA items i)).drop 1
noncomputable def C4 (items:List Itm) (i:Nat) (frm:Int):List Pt:=if smI (itA items i)then Jx items i frm++[Bl (itA items i)]++Na items i else CK (itA items i)
def Md (items:List Itm) (i:Nat) (frm:Int):Prop:=frm= -1\/∃f:Nat,frm=f/\f<items.length/\drawn (itA items f)
theorem Zuf {items:List Itm} {i:Nat} {frm:Int} (G:drawn (itA items i)) (hf:Md items i frm):(∀p∈Jx items i frm,bd 67108864 p)/\(Jx items i frm).length<=65:=by
 unfold Jx;rcases hf with rfl|⟨f,rfl,I,D⟩
 ·rw[ab (by omega)];exact⟨λp E=>Qd4 G.1 p (df E),by rw[List.length_take];omega⟩
 ·rw[aa (by omega)];obtain⟨J,L,M⟩:=LP (items:=items) (i:=(f:Int).toNat) (k:=i) (by simpa using D) G;exact⟨λp E=>A6 (J p (de E)) (by decide),by rw[bq];omega⟩
theorem Vc {items:List Itm} {i:Nat} (D:∀k<items.length,AF (itA items k)->drawn (itA items k)) (J:0<=Cq items i):∃k:Nat,Cq items i=k/\k<items.length/\drawn (itA items k):=by
 rcases Zy items i with h|⟨-,-,k,I,-,E,G,-⟩
 ·omega
 ·exact⟨k,I,E,D k E ⟨by have:=G.1;omega,by have:=G.1;omega⟩⟩
theorem Zs2 {items:List Itm} {i:Nat} (I:drawn (itA items i)) (J:(itA items i).kind≠3) (D:∀k<items.length,AF (itA items k)->drawn (itA items k)):(∀p∈Na items i,bd 67108864 p)/\(Na items i).length<=66:=by
 unfold Na;by_cases h:0<=Cq items i
 ·rw[aa h];obtain⟨k,L,M,E⟩:=Vc D h;obtain⟨N,J,O⟩:=LP (items:=items) (i:=i) (k:=(Cq items i).toNat) I (by rw[L];simpa using E);exact⟨λp G=>A6 (N p (df G)) (by decide),by rw[List.length_take];omega⟩
 ·rw[ab h];refine⟨λp G=>Qd4 I.1 p (de G),?_⟩;unfold CK;rw[ab J];simp
theorem WJ {items:List Itm} {i:Nat} {frm:Int} (E:drawn (itA items i)) (hf:Md items i frm) (G:∀k<items.length,AF (itA items k)->drawn (itA items k)):
  (∀p∈C4 items i frm,bd 67108864 p)/\(C4 items i frm).length<=65537:=by
 unfold C4;by_cases I:smI (itA items i)
 ·rw[aa I];obtain⟨J,M⟩:=Zuf E hf;obtain⟨L,N⟩:=Zs2 E (by have:=I.1;omega) G;refine⟨λp D=> ?_,by rw[ao,ao];simp;omega⟩;rcases bn.1 D with D|D
  ·rcases bn.1 D with D|D
   ·exact J p D
   ·simp at D;subst D;exact A6 (LK E.1.2.1 E.1.2.2.1) (by decide)
  ·exact L p D
 ·rw[ab I];exact⟨Qd4 E.1,(Qyk _).2⟩
theorem Q4t (l:List Pt):List.drop (Int.toNat 1) (l.map ptR)=(l.drop 1).map ptR:=by rw[show Int.toNat 1=1 from rfl,List.map_drop]
theorem Sq (l:List Pt):List.take (Int.toNat 1) (l.map ptR)=(l.take 1).map ptR:=by rw[show Int.toNat 1=1 from rfl,List.map_take]
end Go.Bm
namespace Go.Bm
open Classical
def B5 (it:Itm):Prop:=it.kind<1\/it.kind>14\/(AF it/\(¬DZ it\/(it.kind≠1/\(it.feed<1\/it.feed>60000000))\/it.blend<0\/it.blend>1000))\/(¬AF it/\it.kind=8/\(it.n<3\/it.n>5\/it.speed<0\/it.speed>30000))
noncomputable def G1 (items:List Itm):Nat->Nat->Int->Int
 |0,_,_=>0
 |k+1,i,last=>if B5 (itA items i)then 1 else if AF (itA items i)then(if 0<=last/\(itA items last.toNat).to≠(itA items i).fr then 13 else G1 items k (i+1) i)else G1 items k (i+1) last
noncomputable def Dm (items:List Itm):Int:=if items.length>20000 then 10 else G1 items items.length 0 (-1)
theorem Xa {items:List Itm}:∀(k i:Nat) (last:Int),i+k=items.length->G1 items k i last=0->∀j,i<=j->j<items.length-> ¬B5 (itA items j)
 |0,i,last,G,_,j,I,D=>by omega
 |k+1,i,last,G,h,j,I,D=>by
  unfold G1 at h;split at h
  ·omega
  ·rename_i c;by_cases E:j=i
   ·subst E;exact c
   ·split at h
    ·split at h
     ·omega
     ·exact Xa k (i+1) _ (by omega) h j (by omega) D
    ·exact Xa k (i+1) _ (by omega) h j (by omega) D
theorem No {items:List Itm} (h:Dm items=0):items.length<=20000/\∀j,j<items.length-> ¬B5 (itA items j):=by
 unfold Dm at h;split at h
 ·omega
 ·exact⟨by omega,λj D=>Xa _ 0 _ (by omega) h j (by omega) D⟩
theorem LU {it:Itm} (h: ¬B5 it) (D:AF it):drawn it/\(it.kind=1\/1<=it.feed/\it.feed<=60000000):=by
 unfold B5 at h;have E:DZ it:=by
  by_cases c:DZ it
  ·exact c
  ·exact absurd (.inr (.inr (.inl ⟨D, .inl c⟩))) h
 have G: ¬((it.kind≠1/\(it.feed<1\/it.feed>60000000))\/it.blend<0\/it.blend>1000):=λc=>h (.inr (.inr (.inl ⟨D, .inr c⟩)));exact⟨⟨E,by omega,by omega⟩,by omega⟩
theorem Zwf {it:Itm} (h: ¬B5 it) (D:it.kind=8):0<=it.speed/\it.speed<=30000:=by
 unfold B5 at h;have E: ¬AF it:=λc=>by have:=c.2;omega
 have G: ¬(it.n<3\/it.n>5\/it.speed<0\/it.speed>30000):=λc=>h (.inr (.inr (.inr ⟨E,D,c⟩)));omega
noncomputable def Bf (item feed lead:Int) (s:List Sgm×Int×Pt) (q:Pt):List Sgm×Int×Pt:=if q=s.2.2 then s else(s.1++[⟨q,AH s.2.2 q,item,feed,lead⟩],s.2.1+AH s.2.2 q,q)
theorem To {item feed lead:Int}:∀(D:List Pt) (s:List Sgm×Int×Pt),(∀p∈D,bd 67108864 p)->bd 67108864 s.2.2->0<=s.2.1->
  (D.foldl (Bf item feed lead) s).1.length<=s.1.length+D.length/\s.2.1<=(D.foldl (Bf item feed lead) s).2.1/\(D.foldl (Bf item feed lead) s).2.1<=s.2.1+D.length*268435456/\bd 67108864 (D.foldl (Bf item feed lead) s).2.2
 |[],s,_,G,L=>⟨by simp,by simp,by simp,G⟩
 |q::D,s,I,G,L=>by
  rw[List.foldl_cons];have M:=I q (by simp);have N:=IL G M;have E:Bf item feed lead s q=s\/Bf item feed lead s q=(s.1++[⟨q,AH s.2.2 q,item,feed,lead⟩],s.2.1+AH s.2.2 q,q):=by unfold Bf;split<;>simp
  rcases E with E|E
  ·rw[E];obtain⟨a,b,c,d⟩:=To D s (λp J=>I p (by simp[J])) G L (item:=item) (feed:=feed) (lead:=lead);exact⟨by simp;omega,b,by simp;omega,d⟩
  ·rw[E];obtain⟨a,b,c,d⟩:=To D (s.1++[⟨q,AH s.2.2 q,item,feed,lead⟩],s.2.1+AH s.2.2 q,q) (λp J=>I p (by simp[J])) M (by simp only;omega) (item:=item) (feed:=feed) (lead:=lead);simp only[ao,bh,cx]at a b c;exact⟨by simp;omega,by omega,by simp;omega,d⟩
structure BSt where
 aE:List Sgm
 aC:List Mrk
 (len speed frm:Int)
 begun:Bool
 (start at_:Pt)
def O5 (it:Itm):Int:=if syI it then mn (it.feed*16) 16777216 else 0
def Ra (it:Itm) (s:Int):Int:=if it.kind=8/\(it.n=3\/it.n=4)then it.speed else s
noncomputable def Gc (items:List Itm) (i:Nat) (s:BSt):List Sgm×Int×Pt:=
 (C4 items i s.frm).foldl (Bf i (Id (itA items i) s.speed) (O5 (itA items i))) (s.aE,s.len,if s.begun=true then s.at_ else Az (itA items i).fr)
noncomputable def Eg (items:List Itm) (i:Nat) (s:BSt):BSt:=
 if AF (itA items i)then
  ⟨(Gc items i s).1,s.aC++[⟨(Gc items i s).2.1,Ih items i,i⟩],(Gc items i s).2.1,s.speed,if 0<=Cq items i then i else-1,true,if s.begun=true then s.start else Az (itA items i).fr,(Gc items i s).2.2⟩
 else⟨s.aE,s.aC++[⟨s.len,Jt (itA items i),i⟩],s.len,Ra (itA items i) s.speed,s.frm,s.begun,s.start,s.at_⟩
noncomputable def Au (items:List Itm):Nat->BSt
 |0=>⟨[],[],0,0,-1,false,⟨0,0,0⟩,⟨0,0,0⟩⟩
 |i+1=>Eg items i (Au items i)
structure BOK (items : List Itm) (i : Nat) (s : BSt) : Prop where
 aE:s.aE.length<=i*65537
 aC:s.aC.length=i
 len:0<=s.len/\s.len<=i*65537*268435456
 speed:0<=s.speed/\s.speed<=30000
 frm:Md items i s.frm
 at_:s.begun=true->bd 67108864 s.at_
theorem Zbc {items:List Itm} {i:Nat} {s:BSt} (I:i<items.length) (D:∀j<items.length,¬B5 (itA items j)) (h:BOK items i s):BOK items (i+1) (Eg items i s):=by
 have E:∀k<items.length,AF (itA items k)->drawn (itA items k):=λk L G=>(LU (D k L) G).1;unfold Eg;by_cases G:AF (itA items i)
 ·rw[aa G];have J:=E i I G;obtain⟨M,U⟩:=WJ J h.frm E;have N:bd 67108864 (if s.begun=true then s.at_ else Az (itA items i).fr):=by
   by_cases hb:s.begun=true
   ·rw[aa hb];exact h.at_ hb
   ·rw[ab hb];exact A6 (FK J.1.2.1) (by decide)
  obtain⟨a1,a2,a3,a4⟩:=To (item:=i) (feed:=Id (itA items i) s.speed) (lead:=O5 (itA items i)) (C4 items i s.frm) (s.aE,s.len,if s.begun=true then s.at_ else Az (itA items i).fr) M N h.len.1;have V:=h.aE;have O:=h.len;have e1:(i+1)*65537=i*65537+65537:=by rw[Nat.succ_mul]
  refine⟨?_,?_,?_,h.speed,?_,λ_=>a4⟩
  ·simp only at a1;show(Gc items i s).1.length<=_;unfold Gc;omega
  ·show(s.aC++[_]).length=_;rw[ao,h.aC];rfl
  ·show 0<=(Gc items i s).2.1/\(Gc items i s).2.1<=_;unfold Gc;simp only at a2 a3;have e2:(((i+1:Nat):Int))*65537*268435456=(i:Int)*65537*268435456+65537*268435456:=by
    rw[Int.natCast_add,Int.natCast_one,Int.add_mul,Int.add_mul];rfl
   constructor
   ·omega
   ·rw[e2];omega
  ·show Md items (i+1) (if 0<=Cq items i then(i:Int)else-1);split
   ·exact .inr ⟨i,rfl,I,J⟩
   ·exact .inl rfl
 ·rw[ab G];have O:=h.len;have S:=h.aE;have e1:(i+1)*65537=i*65537+65537:=by rw[Nat.succ_mul]
  refine⟨by show s.aE.length<=_;rw[e1];exact cg S (Nat.le_add_right _ _),?_,?_,?_,h.frm,h.at_⟩
  ·show(s.aC++[_]).length=_;rw[ao,h.aC];rfl
  ·have e2:(((i+1:Nat):Int))*65537*268435456=(i:Int)*65537*268435456+65537*268435456:=by
    rw[Int.natCast_add,Int.natCast_one,Int.add_mul,Int.add_mul];rfl
   show 0<=s.len/\s.len<=_;rw[e2];omega
  ·show 0<=Ra (itA items i) s.speed/\Ra (itA items i) s.speed<=30000;unfold Ra;split
   ·rename_i T;exact Zwf (D i I) T.1
   ·exact h.speed
theorem Z66 (items:List Itm):BOK items 0 ⟨[],[],0,0,-1,false,⟨0,0,0⟩,⟨0,0,0⟩⟩:=by
 refine⟨Nat.zero_le _,cx,⟨cd _,?_⟩,⟨cd _,?_⟩, .inl rfl,λh=>by cases h⟩
 ·show(0:Int)<=((0:Nat):Int)*65537*268435456;rw[show((0:Nat):Int)=0 from rfl,Int.zero_mul,Int.zero_mul];exact cd _
 ·show(0:Int)<=30000;omega
theorem OC {items:List Itm} (D:∀j<items.length,¬B5 (itA items j)):∀i,i<=items.length->BOK items i (Au items i)
 |0,_=>by rw[Au];exact Z66 items
 |i+1,E=>by rw[Au];exact Zbc (by omega) D (OC D i (by omega))
noncomputable def AU (items:List Itm):Pth:=⟨(Au items items.length).start,(Au items items.length).aE,(Au items items.length).aC⟩
def FR:Pt->List Sgm->Pt
 |a,[]=>a
 |_,g::l=>FR g.to l
abbrev B26:Nat:=67108864
def Pg:Pt->List Sgm->Prop
 |_,[]=>True
 |a,g::l=>g.len=AH a g.to/\g.to≠a/\bd B26 g.to/\Pg g.to l
def Ay:List Sgm->Int
 |[]=>0
 |g::l=>g.len+Ay l
theorem SI (g:Sgm):∀(a:Pt) (l:List Sgm),FR a (l++[g])=g.to
 |_,[]=>rfl
 |_,h::l=>by simp only[aq,FR];exact SI g h.to l
theorem Q39 {g:Sgm}:∀{a:Pt} {l:List Sgm},Pg a l->g.len=AH (FR a l) g.to->g.to≠FR a l->bd B26 g.to->Pg a (l++[g])
 |a,[],_,D,E,G=>⟨D,E,G,trivial⟩
 |a,k::l,h,D,E,G=>⟨h.1,h.2.1,h.2.2.1,Q39 h.2.2.2 D E G⟩
theorem Qfi (g:Sgm):∀(l:List Sgm),Ay (l++[g])=Ay l+g.len
 |[]=>by simp[Ay]
 |k::l=>by simp only[aq,Ay];rw[Qfi g l];omega
def Qaf (start:Pt) (s:List Sgm×Int×Pt):Prop:=Pg start s.1/\FR start s.1=s.2.2/\Ay s.1=s.2.1
theorem Qpo {start:Pt} {item feed lead:Int}:∀(D:List Pt) (s:List Sgm×Int×Pt),(∀p∈D,bd B26 p)->Qaf start s->Qaf start (D.foldl (Bf item feed lead) s)
 |[],s,_,h=>h
 |q::D,s,G,h=>by
  rw[List.foldl_cons];refine Qpo D _ (λp E=>G p (by simp[E])) ?_;unfold Bf;by_cases c:q=s.2.2
  ·rw[aa c];exact h
  ·rw[ab c];obtain⟨J,I,L⟩:=h;refine⟨Q39 J (by rw[I]) (by rw[I];exact c) (G q (by simp)),SI _ _ _,?_⟩;simp only[Qfi,L]
structure BInv (s : BSt) : Prop where
 begun:s.begun=true->bd B26 s.start/\Qaf s.start (s.aE,s.len,s.at_)
 empty:s.begun=false->s.aE=[]/\s.len=0/\s.start=⟨0,0,0⟩
theorem Z3y {items:List Itm} {i:Nat} {s:BSt} (M:i<items.length) (D:∀j<items.length,¬B5 (itA items j)) (I:BOK items i s) (h:BInv s):BInv (Eg items i s):=by
 have E:∀k<items.length,AF (itA items k)->drawn (itA items k):=λk N G=>(LU (D k N) G).1;unfold Eg;by_cases G:AF (itA items i)
 ·rw[aa G];have J:=E i M G;obtain⟨L,-⟩:=WJ J I.frm E;refine⟨λ_=> ?_,λhb=>(by cases hb)⟩;unfold Gc;by_cases hb:s.begun=true
  ·rw[aa hb,aa hb];obtain⟨g1,g2⟩:=h.begun hb;exact⟨g1,Qpo _ _ L g2⟩
  ·rw[ab hb,ab hb];obtain⟨g1,g2,O⟩:=h.empty (by simpa using hb);refine⟨A6 (FK J.1.2.1) (by decide),Qpo _ _ L ?_⟩;rw[g1,g2];exact⟨trivial,rfl,rfl⟩
 ·rw[ab G];exact⟨h.begun,h.empty⟩
theorem Jo {items:List Itm} (D:∀j<items.length,¬B5 (itA items j)):∀i,i<=items.length->BInv (Au items i)
 |0,_=>by rw[Au];exact⟨λh=>(by cases h),λ_=>⟨rfl,rfl,rfl⟩⟩
 |i+1,E=>by rw[Au];exact Z3y (by omega) D (OC D i (by omega)) (Jo D i (by omega))
structure GoodPath (p : Pth) : Prop where
 start:bd B26 p.start
 aE:Pg p.start p.aE
 count:p.aE.length<=983055
theorem VN {items:List Itm} (hlen:items.length<=15) (G:Dm items=0):GoodPath (AU items):=by
 have D:=(No G).2;have I:=OC D items.length (co _);have E:=Jo D items.length (co _);have L:=I.aE;unfold AU;by_cases hb:(Au items items.length).begun=true
 ·obtain⟨g1,g2,-⟩:=E.begun hb;exact⟨g1,g2,by simp only;omega⟩
 ·obtain⟨g1,-,J⟩:=E.empty (by simpa using hb);refine⟨?_,?_,?_⟩
  ·simp only[J];unfold bd;simp
  ·simp only[g1];trivial
  ·simp only[g1];simp
theorem Q7v {a b:Pt} (D:bd B26 a) (hb:bd B26 b) (h:b≠a):1<=AH a b/\AH a b<=268435456:=by
 obtain⟨-,I,E,-⟩:=YQ D hb;have J:sqD a b≠0:=λe=>h (Qei.1 e).symm;have L:=Qf a b;have G:=IL D hb;refine⟨?_,G.2⟩;by_cases c:AH a b=0
 ·rw[c]at E;omega
 ·omega
theorem UC {a:Pt} {l:List Sgm} (G:bd B26 a) (h:Pg a l):∀g∈l,1<=g.len/\g.len<=268435456/\bd B26 g.to:=by
 induction l generalizing a with
 |nil=>simp
 |cons k l J=>
  obtain⟨L,I,D,M⟩:=h;intro g E;rcases av.1 E with rfl|E
  ·rw[L];exact⟨(Q7v G D I).1,(Q7v G D I).2,D⟩
  ·exact J D M g E
theorem Qpn {l:List Sgm} (h:∀g∈l,1<=g.len/\g.len<=268435456/\bd B26 g.to):(l.length:Int)<=Ay l/\Ay l<=l.length*268435456:=by
 induction l with
 |nil=>simp[Ay]
 |cons k l D=>
  have:=D λg E=>h g (by simp[E]);have:=h k (by simp);simp only[Ay,bh];omega
def Ph (a:Pt) (g:Sgm) (d:Int):Pt:=⟨a.x+Bw ((g.to.x-a.x)*d) g.len,a.y+Bw ((g.to.y-a.y)*d) g.len,a.z+Bw ((g.to.z-a.z)*d) g.len⟩
def atL:Pt->List Sgm->Int->Pt
 |a,[],_=>a
 |a,g::l,s=>if s<g.len then Ph a g s else atL g.to l (s-g.len)
def atP (p:Pth) (s:Int):Pt:=atL p.start p.aE (max s 0)
def Bu:List Sgm->Int->Nat×Int
 |[],s=>(0,s)
 |[g],s=>if s<g.len then(0,s)else(0,g.len)
 |g::h::l,s=>if s<g.len then(0,s)else((Bu (h::l) (s-g.len)).1+1,(Bu (h::l) (s-g.len)).2)
def Fj (a:Pt) (l:List Sgm) (i:Nat):Pt:=FR a (l.take i)
def sg0:Sgm:=⟨⟨0,0,0⟩,0,0,0,0⟩
def sgA (l:List Sgm) (i:Nat):Sgm:=l.getD i sg0
theorem ON {l:List Sgm} {i:Nat} (h:i<l.length):sgA l i=l[i]:=by unfold sgA;simp[h]
theorem Ls {l:List Sgm} {i:Nat} (h:i<l.length):nth [] (l.map Av) i=Av (sgA l i):=by rw[ON h];exact IH _ _ _ _ h
theorem Il {l:List Sgm} {i:Nat} (h:i<l.length):sgA l i∈l:=by rw[ON h];exact bm h
theorem K1 (a:Pt) (l:List Sgm):Fj a l 0=a:=by unfold Fj;simp[FR]
theorem V5 (a:Pt) (g:Sgm) (l:List Sgm) (i:Nat):Fj a (g::l) (i+1)=Fj g.to l i:=by unfold Fj;rw[List.take_succ_cons];rfl
theorem Qhx (g:Sgm) (l:List Sgm) (i:Nat):sgA (g::l) (i+1)=sgA l i:=by unfold sgA;simp
theorem T6:∀{l:List Sgm} {i:Nat} {a:Pt},i<l.length->Fj a l (i+1)=(sgA l i).to
 |g::l,0,a,_=>by rw[V5,K1];rfl
 |g::l,i+1,a,h=>by rw[V5,Qhx];exact T6 (by simpa using h)
theorem Qkj {x n:Int} (D:0<n):Bw (x*n) n=x:=Uy D
theorem Zfq {a:Pt} {g:Sgm} (h:0<g.len):Ph a g g.len=g.to:=by
 unfold Ph;rw[Qkj h,Qkj h,Qkj h];rw[DT];exact⟨by simp only;omega,by simp only;omega,by simp only;omega⟩
theorem Qie:∀{l:List Sgm} {a:Pt} {s:Int},l≠[]->(∀g∈l,1<=g.len)->0<=s->
  (Bu l s).1<l.length/\0<=(Bu l s).2/\(Bu l s).2<=(sgA l (Bu l s).1).len/\atL a l s=Ph (Fj a l (Bu l s).1) (sgA l (Bu l s).1) (Bu l s).2
 |[],_,_,h,_,_=>absurd rfl h
 |[g],a,s,_,D,E=>by
  have I:=D g (by simp);unfold Bu;by_cases c:s<g.len
  ·rw[aa c];refine⟨by simp,E,by show s<=g.len;omega,?_⟩;unfold atL;rw[aa c,K1];rfl
  ·rw[ab c];refine⟨by simp,by simp only;omega,cd _,?_⟩;unfold atL;rw[ab c,K1];show atL g.to [] _=Ph a g g.len;rw[Zfq (by omega)];rfl
 |g::h::l,a,s,_,D,E=>by
  have I:=D g (by simp);unfold Bu;by_cases c:s<g.len
  ·rw[aa c];refine⟨by simp,E,by show s<=g.len;omega,?_⟩;unfold atL;rw[aa c,K1];rfl
  ·rw[ab c];obtain⟨J,L,M,N⟩:=Qie (l:=h::l) (a:=g.to) (s:=s-g.len) (by simp) (λk G=>D k (by simp at G⊢;exact .inr G)) (by omega);refine⟨by simp at J⊢;omega,L,?_,?_⟩
   ·simp only[Qhx];exact M
   ·rw[show atL a (g::h::l) s=atL g.to (h::l) (s-g.len)from by rw[atL,ab c]];simp only[V5,Qhx];exact N
theorem Qe7 {x n:Int} {A:Nat} (D:0<n) (h: -(A*n)<=x/\x<=A*n):(Bw x n).natAbs<=A:=by
 have m1:=Se D h.2;have m2:=Se D h.1;rw[show-((A:Int)*n)= -(A:Int)*n by rw[Int.neg_mul]]at m2;rw[Uy D]at m1 m2;omega
theorem Qw2 {D L d:Int} (G:0<L) (I:D.natAbs<=134217728) (E:0<=d/\d<=L):(Bw (D*d) L).natAbs<=134217728:=by
 refine Qe7 G ?_;have J:D*d<=134217728*d:=Int.mul_le_mul_of_nonneg_right (by omega) E.1;have M: -134217728*d<=D*d:=Int.mul_le_mul_of_nonneg_right (by omega) E.1;have e:((134217728:Nat):Int)=134217728:=rfl;rw[e];omega
structure SegOK (l : List Sgm) : Prop where
 seg:∀g∈l,1<=g.len/\g.len<=268435456/\bd B26 g.to
 count:l.length<=983055
theorem GoodPath.ok {p:Pth} (h:GoodPath p):SegOK p.aE:=⟨UC h.start h.aE,h.count⟩
theorem Zcg {a:Pt} {l:List Sgm} (D:bd B26 a) (h:SegOK l) {i:Nat} (E:i<l.length):bd B26 (Fj a l i):=by
 cases i with
 |zero=>rw[K1];exact D
 |succ i=>rw[T6 (by omega)];exact(h.seg _ (Il (by omega))).2.2
theorem Qwm {l:List Sgm} (h:SegOK l):∀(k i:Nat) (v:Int),i+k=l.length->0<=v->v+k*268435456<=4000000000000000000->
  Al R2 [I v, .view Ah (l.map Av),I l.length,I i]=some (1,[I (v+Ay (l.drop i))])
 |0,i,v,G,_,_=>by
  refine A7 ?_ (by simp);rw[Q2p,A_ (by omega),List.drop_of_length_le (by omega)];simp[Ay]
 |k+1,i,v,G,L,M=>by
  have D:i<l.length:=by omega
  have J:=h.count;have N:=h.seg _ (Il D);have E:R2 [I v, .view Ah (l.map Av),I l.length,I i]=some (0,[I (v+(sgA l i).len), .view Ah (l.map Av),I l.length,I (i+1:Nat)]):=by
   rw[Q2p];simp only[go_sem,af,aj,Ls D];rw[aa (by omega),aa (by omega),Ae (x:=v+_) (by omega),Ae (by omega)];rfl
  rw[Bv E,Qwm h k (i+1) _ (by omega) (by omega) (by omega)];have e:l.drop i=sgA l i::l.drop (i+1):=by rw[ON D];exact O1 _ _ D
  rw[e];simp only[Ay,Int.add_assoc]
theorem Q78 {p:Pth} (h:SegOK p.aE):JV (Br p)=some [I (Ay p.aE)]:=by
 have E:=Qwm h p.aE.length 0 0 (by omega) (by omega) (by have:=h.count;omega);have D:Sf [I 0, .view Ah (p.aE.map Av),I p.aE.length,I 0]=some (1,[I (0+Ay (p.aE.drop 0))]):=E;rw[List.drop_zero,Int.zero_add]at D;unfold JV;generalize Sf=N at*;rw[Zn7];simp only[go_sem,af,D]
theorem Zaf {g h:Sgm} {l:List Sgm} {s:Int} (c: ¬s<g.len):Bu (g::h::l) s=((Bu (h::l) (s-g.len)).1+1,(Bu (h::l) (s-g.len)).2):=by rw[Bu,ab c]
theorem Qxn {p:Pth} (h:SegOK p.aE):∀(k i:Nat) (s:Int),i+k=p.aE.length->1<=k->0<=s/\s<=9223372036854775807->
  Al SB (I s:: .view Ah (p.aE.map Av)::I p.aE.length::I i::Br p)=some (1,[I (i+(Bu (p.aE.drop i) s).1:Nat),I (Bu (p.aE.drop i) s).2])
 |k+1,i,s,L,_,M=>by
  have E:i<p.aE.length:=by omega
  have J:=h.count;have N:=h.seg _ (Il E);have e:p.aE.drop i=sgA p.aE i::p.aE.drop (i+1):=by rw[ON E];exact O1 _ _ E
  have D:SB (I s:: .view Ah (p.aE.map Av)::I p.aE.length::I i::Br p)=if s<(sgA p.aE i).len then some (1,[I i,I s])else if k=0 then some (1,[I i,I (sgA p.aE i).len])else some (0,I (s-(sgA p.aE i).len):: .view Ah (p.aE.map Av)::I p.aE.length::I (i+1:Nat)::Br p):=by
   rw[Q8h];simp only[go_sem,af,aj,Ls E];rw[aa (by omega),aa (by omega),Ae (x:=(p.aE.length:Int)-1) (by omega),Ae (x:=(i:Int)+1) (by omega)];by_cases c:s<(sgA p.aE i).len
   ·rw[aa c,aa c]
   ·rw[ab c,ab c];by_cases G:k=0
    ·rw[aa (by omega),aa G]
    ·rw[ab (by omega),ab G,Ae (by omega)];rfl
  by_cases c:s<(sgA p.aE i).len
  ·rw[aa c]at D;rw[A7 D (by simp),e];cases p.aE.drop (i+1)with
   |nil=>rw[Bu,aa c];rfl
   |cons b l=>rw[Bu,aa c];rfl
  ·rw[ab c]at D;by_cases G:k=0
   ·rw[aa G]at D;rw[A7 D (by simp),e,List.drop_of_length_le (by omega),Bu,ab c];rfl
   ·rw[ab G]at D;rw[Bv D,Qxn h k (i+1) _ (by omega) (by omega) (by omega),e];have e2:p.aE.drop (i+1)=sgA p.aE (i+1)::p.aE.drop (i+1+1):=by rw[ON (show i+1<p.aE.length by omega)];exact O1 _ _ (by omega)
    rw[e2,Zaf c,<-e2];simp only;rw[show i+1+(Bu (p.aE.drop (i+1)) (s-(sgA p.aE i).len)).1=i+((Bu (p.aE.drop (i+1)) (s-(sgA p.aE i).len)).1+1) by omega]
theorem Vq {p:Pth} (h:SegOK p.aE) {s:Int} (hs:i64 s):Fc (Br p++[I s])=if p.aE=[]then some [I (-1),I 0]else some [I (Bu p.aE (max s 0)).1,I (Bu p.aE (max s 0)).2]:=by
 unfold i64 at hs;have hmx:mx s 0=max s 0:=mx_max' s 0;by_cases c:p.aE=[]
 ·rw[aa c];have hend:NG (I (max s 0):: .view Ah []::I 0::I 0::Br p)=some (2,[]):=by
   refine A7 ?_ (by simp);rw[Q8h,A_ (by omega)]
  unfold Fc;generalize NG=N at*;have he:=Qv8 N p.start.x p.start.y p.start.z (p.aE.map Av) (p.aC.map At) s;refine Eq.trans he ?_;rw[hmx,c];have hend':N [I (max s 0), .view Ah [],I 0,I 0,I p.start.x,I p.start.y,I p.start.z, .view Ah [], .view AJ (p.aC.map At)]=some (2,[]):=by
   have:=hend;unfold Br at this;rw[c]at this;exact this
  simp only[go_sem,dh,cx];simp only[Int.natCast_zero];rw[hend'];simp
 ·rw[ab c];have hpos:0<p.aE.length:=by
   cases hh:p.aE with
   |nil=>exact absurd hh c
   |cons _ _=>simp
  have hL:=Qxn h p.aE.length 0 (max s 0) (by omega) (by omega) (by omega);have hL':NG [I (max s 0), .view Ah (p.aE.map Av),I p.aE.length,I 0,I p.start.x,I p.start.y,I p.start.z, .view Ah (p.aE.map Av), .view AJ (p.aC.map At)]=some (1,[I (0+(Bu (p.aE.drop 0) (max s 0)).1:Nat),I (Bu (p.aE.drop 0) (max s 0)).2]):=hL;rw[List.drop_zero,Nat.zero_add]at hL';unfold Fc;generalize NG=N at*;have he:=Qv8 N p.start.x p.start.y p.start.z (p.aE.map Av) (p.aC.map At) s;refine Eq.trans he ?_;rw[hmx];simp only[go_sem,af,hL']
 where mx_max' (a b:Int):mx a b=max a b:=by unfold mx;rw[Int.max_def];split<;>split<;>omega
theorem Zzu {E L:Fn} {p:Pth} (h:GoodPath p) {s:Int} (G:L (Br p++[I s])=if p.aE=[]then some [I (-1),I 0]else some [I (Bu p.aE (max s 0)).1,I (Bu p.aE (max s 0)).2])
  (hM:∀{a b c:Int},a.natAbs<=134217728->b.natAbs<=268435456->(0<c/\c<=268435456)->E [I a,I b,I c,I 2]=some [I (Bw (a*b) c),B true]):
  Qce E L (Br p++[I s])=some (ptR (atP p s)):=by
 have he:=Zpf (AL:=E) (DP:=L) p.start.x p.start.y p.start.z (p.aE.map Av) (p.aC.map At) s;refine Eq.trans he ?_;simp only[aq,ay,Br]at G;unfold atP;by_cases c:p.aE=[]
 ·rw[aa c]at G;simp only[G,go_sem];rw[aa (by omega),c];rfl
 ·rw[ab c]at G;have D:=h.ok;obtain⟨M,f2,f3,f4⟩:=Qie (l:=p.aE) (a:=p.start) (s:=max s 0) c (λg J=>(D.seg g J).1) (by omega);rw[f4];have J:=D.seg _ (Il M);have N:=Zcg h.start D M;have hr:=Ls M;have a1:=D.count;generalize(Bu p.aE (max s 0)).1=i at*;generalize(Bu p.aE (max s 0)).2=d at*;have O:d.natAbs<=268435456:=by omega
  have fin:∀{a:Pt},bd B26 a->(E [I (wrap .i64 ((sgA p.aE i).to.x-a.x)),I d,I (sgA p.aE i).len,I 2]=some [I (Bw (((sgA p.aE i).to.x-a.x)*d) (sgA p.aE i).len),B true]/\wrap .i64 (a.x+Bw (((sgA p.aE i).to.x-a.x)*d) (sgA p.aE i).len)=a.x+Bw (((sgA p.aE i).to.x-a.x)*d) (sgA p.aE i).len)/\
    (E [I (wrap .i64 ((sgA p.aE i).to.y-a.y)),I d,I (sgA p.aE i).len,I 2]=some [I (Bw (((sgA p.aE i).to.y-a.y)*d) (sgA p.aE i).len),B true]/\wrap .i64 (a.y+Bw (((sgA p.aE i).to.y-a.y)*d) (sgA p.aE i).len)=a.y+Bw (((sgA p.aE i).to.y-a.y)*d) (sgA p.aE i).len)/\
    (E [I (wrap .i64 ((sgA p.aE i).to.z-a.z)),I d,I (sgA p.aE i).len,I 2]=some [I (Bw (((sgA p.aE i).to.z-a.z)*d) (sgA p.aE i).len),B true]/\wrap .i64 (a.z+Bw (((sgA p.aE i).to.z-a.z)*d) (sgA p.aE i).len)=a.z+Bw (((sgA p.aE i).to.z-a.z)*d) (sgA p.aE i).len):=by
   intro a S;have key:∀u v:Int,u.natAbs<=B26->v.natAbs<=B26->E [I (wrap .i64 (u-v)),I d,I (sgA p.aE i).len,I 2]=some [I (Bw ((u-v)*d) (sgA p.aE i).len),B true]/\wrap .i64 (v+Bw ((u-v)*d) (sgA p.aE i).len)=v+Bw ((u-v)*d) (sgA p.aE i).len:=by
    intro u v hu N;have T:=IN hu N;rw[I9 T (by decide)];refine⟨hM (cg T (by decide)) O (by omega),?_⟩;exact I9 (TZ N (Qw2 (by omega) (cg T (by decide)) ⟨f2,f3⟩)) (by decide)
   exact⟨key _ _ J.2.2.1 S.1,key _ _ J.2.2.2.1 S.2.1,key _ _ J.2.2.2.2 S.2.2⟩
  have U:(0:Int)<=(i:Int)/\(i:Int)<(p.aE.length:Int):=by omega
  simp only[G,go_sem,af,aj,hr,aa U];rw[ab (by omega)];by_cases c0:i=0
  ·subst c0;obtain⟨⟨m1,V⟩,⟨m2,X⟩,m3,Y⟩:=fin h.start;rw[ab (by omega),K1];simp only[m1,m2,m3,go_sem,V,X,Y];rfl
  ·obtain⟨j,rfl⟩:∃j,i=j+1:=⟨i-1,by omega⟩;have hj:=Ls (l:=p.aE) (i:=j) (by omega);have a0:=D.seg _ (Il (l:=p.aE) (i:=j) (by omega));obtain⟨⟨m1,V⟩,⟨m2,X⟩,m3,Y⟩:=fin a0.2.2;rw[aa (by omega),T6 (by omega)];have e1:wrap .i64 (((j+1:Nat):Int)-1)=(j:Int):=by rw[Ae (by omega)];omega
   rw[e1];simp only[aj,hj,go_sem];rw[aa (by omega)];simp only[m1,m2,m3,go_sem,V,X,Y];rfl
theorem Q8m {a b c:Int} (D:a.natAbs<=134217728) (hb:b.natAbs<=268435456) (E:0<c/\c<=268435456):BE [I a,I b,I c,I 2]=some [I (Bw (a*b) c),B true]:=by
 have:=dl D hb;exact Tw (by unfold i64;omega) (by unfold i64;omega) (by omega) (by omega)
theorem Z39 {p:Pth} (h:GoodPath p) {s:Int} (D:i64 s):Rx (Br p++[I s])=some (ptR (atP p s)):=
 Zzu h (Vq h.ok D) Q8m
theorem Rl {p:Pth} (h:GoodPath p):0<=Ay p.aE/\Ay p.aE<=263886834032640:=by
 have D:=Qpn h.ok.seg;have E:=h.count;omega
theorem Zrt {α:Type} (d x:α) (l:List α):nth d (x::l) 40=nth d l 39:=by simp[nth]
theorem Zww {α:Type} (d x:α) (l:List α):nth d (x::l) 41=nth d l 40:=by simp[nth]
theorem Z3x {α:Type} (d x:α) (l:List α):nth d (x::l) 42=nth d l 41:=by simp[nth]
theorem Zp2 {α:Type} (d x:α) (l:List α):nth d (x::l) 43=nth d l 42:=by simp[nth]
theorem Z06 {α:Type} (d x:α) (l:List α):nth d (x::l) 44=nth d l 43:=by simp[nth]
theorem Zk5 {α:Type} (d x:α) (l:List α):nth d (x::l) 45=nth d l 44:=by simp[nth]
theorem Zs4 {α:Type} (d x:α) (l:List α):nth d (x::l) 46=nth d l 45:=by simp[nth]
theorem Zqv {α:Type} (d x:α) (l:List α):nth d (x::l) 47=nth d l 46:=by simp[nth]
theorem Zoj {α:Type} (d x:α) (l:List α):nth d (x::l) 48=nth d l 47:=by simp[nth]
theorem Zym {α:Type} (d x:α) (l:List α):nth d (x::l) 49=nth d l 48:=by simp[nth]
theorem Z2v {α:Type} (d x:α) (l:List α):nth d (x::l) 50=nth d l 49:=by simp[nth]
theorem Zut {α:Type} (d x:α) (l:List α):nth d (x::l) 51=nth d l 50:=by simp[nth]
theorem Z4m {α:Type} (d x:α) (l:List α):nth d (x::l) 52=nth d l 51:=by simp[nth]
theorem Z4l {α:Type} (d x:α) (l:List α):nth d (x::l) 53=nth d l 52:=by simp[nth]
theorem Z2b {α:Type} (d x:α) (l:List α):nth d (x::l) 54=nth d l 53:=by simp[nth]
theorem Z4u {α:Type} (d x:α) (l:List α):nth d (x::l) 55=nth d l 54:=by simp[nth]
attribute [go_sem] Zrt Zww Z3x Zp2 Z06 Zk5 Zs4 Zqv Zoj Zym Z2v Zut Z4m Z4l Z2b Z4u
theorem KD (a b:Int):mn a b=min a b:=by unfold mn;rw[Int.min_def];split<;>split<;>omega
theorem Ow (a b:Int):mx a b=max a b:=by unfold mx;rw[Int.max_def];split<;>split<;>omega
def Q0 (now a b mv:Int):Int:=if b>a then mv else if b<a then-mv else now
def DV (now a b:Pt) (mv:Int):Pt:=⟨Q0 now.x a.x b.x mv,Q0 now.y a.y b.y mv,Q0 now.z a.z b.z mv⟩
def slk (was dirs n v:Int):Int:=if was=dirs then v else max v n
def Cz (x:Ax3) (was dirs:Pt):Int:=slk was.z dirs.z x.c.back (slk was.y dirs.y x.b.back (slk was.x dirs.x x.a.back 0))
def pc0:Pce:=⟨0,0,0,0,⟨0,0,0⟩,⟨0,0,0⟩⟩
def Be (l:List Pce):Pce:=l.getD (l.length-1) pc0
def FC (t:Trk) (c:Pce):Trk:=
 if t.aD≠[]/\c.move≠0/\(Be t.aD).move=c.move/\(Be t.aD).dirs=c.dirs then
  {t with aD:=t.aD.set (t.aD.length-1) {Be t.aD with units:=(Be t.aD).units+c.units},length:=t.length+c.units}
 else{t with aD:=t.aD++[{c with at_:=t.length}],length:=t.length+c.units}
def AD (l:List Sgm) (i:Nat):Int:=Ay (l.take i)
def CM (x:Ax3) (mv:Int) (a b:Pt) (s units:Int) (D:Trk×Pt):Trk×Pt:=
 (FC (if Cz x D.2 (DV D.2 a b mv) > 0 then FC D.1 ⟨0, Cz x D.2 (DV D.2 a b mv), s, 0, D.2, DV D.2 a b mv⟩ else D.1)
  ⟨0,units,s,mv,DV D.2 a b mv,DV D.2 a b mv⟩,DV D.2 a b mv)
def Io (p:Pth) (x:Ax3) (mv D E:Int) (i:Nat) (s:Trk×Pt):Trk×Pt:=
 if max (AD p.aE i) D<min (AD p.aE (i+1)) E then
  CM x mv (Fj p.start p.aE i) (sgA p.aE i).to (if mv<0 then min (AD p.aE (i+1)) E else max (AD p.aE i) D) (min (AD p.aE (i+1)) E-max (AD p.aE i) D) s
 else s
def Eu (n:Nat) (mv:Int) (j:Nat):Nat:=if mv<0 then n-1-j else j
def Cj (p:Pth) (x:Ax3) (mv D E:Int) (G:Trk×Pt):Nat->Trk×Pt
 |0=>G
 |j+1=>Io p x mv D E (Eu p.aE.length mv j) (Cj p x mv D E G j)
def Bj (n D:Int):Int:=max 0 (min n D)
def AR (p:Pth) (x:Ax3) (d:Pt) (from_ to:Int):Trk:=
 let n:=Ay p.aE
 let f:=Bj from_ n
 let t:=Bj to n
 (Cj p x (if f>t then-1 else 1) (min f t) (max f t) (⟨[],0,f,d⟩,d) p.aE.length).1
structure Ax3OK (x : Ax3) : Prop where
 a:0<=x.a.back/\x.a.back<=1000
 b:0<=x.b.back/\x.b.back<=1000
 c:0<=x.c.back/\x.c.back<=1000
theorem Tf {x:Ax3} (h:Ax3OK x) (a b:Pt):0<=Cz x a b/\Cz x a b<=1000:=by
 obtain⟨D,E,G⟩:=h;unfold Cz slk
 (repeat' split)<;>omega
structure TB (t : Trk) (n m : Int) : Prop where
 count:(t.aD.length:Int)<=n
 len:0<=t.length/\t.length<=m
 each:∀c∈t.aD,0<=c.units/\c.units<=t.length
theorem Qen {l:List Pce} (h:l≠[]):Be l∈l:=by
 have E:0<l.length:=by cases l with
  |nil=>exact absurd rfl h
  |cons _ _=>simp
 have D:l.length-1<l.length:=by omega
 unfold Be;rw[List.getD_eq_getElem?_getD,ah D,Option.getD_some];exact bm _
theorem Qrh {t:Trk} {n m:Int} (h:TB t n m) {c:Pce} {k:Int} (G:0<=c.units/\c.units<=k):TB (FC t c) (n+1) (m+k):=by
 obtain⟨I,J,E⟩:=h;unfold FC;by_cases g:t.aD≠[]/\c.move≠0/\(Be t.aD).move=c.move/\(Be t.aD).dirs=c.dirs
 ·rw[aa g];refine⟨by simp only[List.length_set];omega,by simp only;omega,?_⟩;intro q D;rcases List.mem_or_eq_of_mem_set D with D|rfl
  ·have:=E q D;simp only;omega
  ·have:=E _ (Qen g.1);simp only;omega
 ·rw[ab g];refine⟨by simp only[ao,bh,cx];omega,by simp only;omega,?_⟩;intro q D;rcases bn.1 D with D|D
  ·have:=E q D;simp only;omega
  ·rw[dg]at D;subst D;simp only;omega
theorem Q4r (t:Trk) (c:Pce):(FC t c).start=t.start/\(FC t c).dirs=t.dirs:=by
 unfold FC;split<;>exact⟨rfl,rfl⟩
theorem Ts (l:List Sgm):AD l 0=0:=by unfold AD;rw[List.take_zero];rfl
theorem Qu {l:List Sgm} {i:Nat} (h:i<l.length):AD l (i+1)=AD l i+(sgA l i).len:=by
 unfold AD;rw[List.take_add_one,ah h,Option.toList_some,Qfi,ON h]
theorem Q8l (l:List Sgm):AD l l.length=Ay l:=by unfold AD;rw[List.take_length]
theorem Qk2 {l:List Sgm} (h:SegOK l):∀i,i<=l.length->0<=AD l i/\AD l i<=i*268435456
 |0,_=>by rw[Ts];simp
 |i+1,D=>by
  have:=Qk2 h i (by omega);have:=h.seg _ (Il (show i<l.length by omega));rw[Qu (by omega)];omega
theorem Zhr {p:Pth} {x:Ax3} {mv lo hi:Int} {i:Nat} {s:Trk×Pt} {n m:Int} (G:Ax3OK x) (I:SegOK p.aE) (D:i<p.aE.length) (h:TB s.1 n m):TB (Io p x mv lo hi i s).1 (n+2) (m+268436456):=by
 have J:=I.seg _ (Il D);have e:=Qu D;unfold Io;by_cases c:max (AD p.aE i) lo<min (AD p.aE (i+1)) hi
 ·rw[aa c];unfold CM;have L:=Tf G s.2 (DV s.2 (Fj p.start p.aE i) (sgA p.aE i).to mv);have e1:n+2=n+1+1:=by omega
  have e2:m+268436456=m+1000+268435456:=by omega
  rw[e1,e2];refine Qrh ?_ (by simp only;omega);by_cases E:Cz x s.2 (DV s.2 (Fj p.start p.aE i) (sgA p.aE i).to mv)>0
  ·rw[aa E];exact Qrh h (by simp only;omega)
  ·rw[ab E];exact⟨by have:=h.count;omega,by have:=h.len;omega,h.each⟩
 ·rw[ab c];exact⟨by have:=h.count;omega,by have:=h.len;omega,h.each⟩
theorem Xt {n j:Nat} (mv:Int) (h:j<n):Eu n mv j<n:=by unfold Eu;split<;>omega
theorem YM {p:Pth} {x:Ax3} {mv lo hi f:Int} {d:Pt} (D:Ax3OK x) (E:SegOK p.aE):∀j,j<=p.aE.length->TB (Cj p x mv lo hi (⟨[],0,f,d⟩,d) j).1 (j*2) (j*268436456)
 |0,_=>⟨by simp[Cj],by simp[Cj],by simp[Cj]⟩
 |j+1,G=>by
  have h:=Zhr (mv:=mv) (lo:=lo) (hi:=hi) D E (Xt mv (show j<p.aE.length by omega)) (YM (mv:=mv) (lo:=lo) (hi:=hi) (f:=f) (d:=d) D E j (by omega));rw[Cj];have e1:((j+1:Nat):Int)*2=j*2+2:=by omega
  have e2:((j+1:Nat):Int)*268436456=j*268436456+268436456:=by omega
  rw[e1,e2];exact h
theorem Q84 {p:Pth} {x:Ax3} {mv D E:Int} {i:Nat} (s:Trk×Pt):(Io p x mv D E i s).1.start=s.1.start/\(Io p x mv D E i s).1.dirs=s.1.dirs:=by
 unfold Io;by_cases c:max (AD p.aE i) D<min (AD p.aE (i+1)) E
 ·rw[aa c];unfold CM;simp only[Q4r];by_cases G:Cz x s.2 (DV s.2 (Fj p.start p.aE i) (sgA p.aE i).to mv)>0
  ·rw[aa G];simp only[Q4r];exact⟨trivial,trivial⟩
  ·rw[ab G];exact⟨rfl,rfl⟩
 ·rw[ab c];exact⟨rfl,rfl⟩
end Go.Bm
