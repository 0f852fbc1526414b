/- laid together -/
import Derived.Test.YtommijghjlikkaaGreatMx3
import Derived.Test.YtommijghjlikkaaGreatBmTy
set_option linter.unusedVariables false
set_option linter.unusedSimpArgs false
set_option maxRecDepth 100000
open Go.IntKind (wrap)
namespace Go.Bm
theorem Iu {x:Int} (h:i64 x):Gc [I x]=some [U (x.natAbs:Int)]:=by
  unfold i64 at h;unfold Gc;rw[Zzs];by_cases hx:x<0
  · rw[DV hx,Ae (x:=x+1) (by omega),Ae (x:=0-(x+1)) (by omega),HW (x:=0-(x+1)) (by omega),HW (x:=0-(x+1)+1) (by omega)]
    rw[show 0-(x+1)+1=(x.natAbs:Int) by omega]
  · rw[A7 hx,HW (x:=x) (by omega)]
    rw[show x=(x.natAbs:Int) by omega];simp
def sgn (a b:Int):Int:=if a=0 then 0 else if b=0 then 0 else if(a<0↔b<0)then 1 else-1
theorem Qe9 (a b:Int):FB [I a,I b]=some [I (sgn a b)]:=by
  unfold FB;rw[Q8y];simp only[go_sem];unfold sgn
  repeat' split
  all_goals rfl
def GT (a b:Nat):Int:=if a<b then-1 else if a=b then 0 else 1
def Lz (a b:Int):Int:=if a<b then-1 else if a=b then 0 else 1
noncomputable def w64:Nat:=Classical.choose (⟨18446744073709551616,rfl⟩:∃n:Nat,n=18446744073709551616)
theorem BN:w64=18446744073709551616:=Classical.choose_spec (⟨18446744073709551616,rfl⟩:∃n:Nat,n=18446744073709551616)
theorem NE {x:Int} (h:i64 x):x.natAbs<w64:=by unfold i64 at h;have:=BN;omega
theorem Q3w {x y:Nat} (hx:x<w64) (hy:y<w64):Ia [U x,U y]=some [U ((x*y/w64:Nat):Int),U ((x*y%w64:Nat):Int)]:=by
  rw[BN]at hx hy;have hu:∀z:Nat,z<18446744073709551616->inU (z:Int)=true:=by
    intro z hz;have e64:Fqs=18446744073709551616:=rfl;simp only[inU,e64,aj,bz];omega
  show RC (x:Int) (y:Int)=_;unfold RC;rw[hu x hx,hu y hy,BN];rfl
theorem Q6c {x y:Nat} (hx:x<w64) (hy:y<w64):Et [U x,U y]=some [U ((x*y/w64:Nat):Int),U ((x*y%w64:Nat):Int)]:=by
  unfold Et;rw[Zwy,Q3w hx hy];simp only[go_sem]
theorem Q92 (a b c d:Nat) (hb:b<w64) (hd:d<w64):Ii [U a,U b,U c,U d]=some [I (GT (a*w64+b) (c*w64+d))]:=by
  unfold Ii;rw[Zc0];simp only[go_sem,and_true];unfold GT;simp only[BN]at*;by_cases h1:a<c
  · rw[aa (by omega),aa (by omega)]
  · rw[ab (by omega)]
    by_cases h2:a=c
    · rw[aa (by omega)]
      by_cases h3:b<d
      · rw[aa (by omega),aa (by omega)]
      · rw[ab (by omega)]
        by_cases h4:b=d
        · rw[aa (by omega),ab (by omega),aa (by omega)]
        · rw[ab (by omega),ab (by omega),ab (by omega)]
    · rw[ab (by omega),ab (by omega),ab (by omega),ab (by omega)]
theorem Uu (a b:Int):sgn a b*((a.natAbs*b.natAbs:Nat):Int)=a*b:=by
  unfold sgn;by_cases h1:a=0
  · subst h1;simp
  · by_cases h2:b=0
    · subst h2;simp
    · rw[ab h1,ab h2]
      have e:((a.natAbs*b.natAbs:Nat):Int)=(a.natAbs:Int)*(b.natAbs:Int):=by simp
      rw[e];by_cases h3:a<0<;>by_cases h4:b<0
      · rw[aa (by simp[h3,h4]),show(a.natAbs:Int)= -a by omega,show(b.natAbs:Int)= -b by omega,Int.neg_mul_neg,Int.one_mul]
      · rw[ab (by simp[h3,h4]),show(a.natAbs:Int)= -a by omega,show(b.natAbs:Int)=b by omega,Int.neg_mul,Int.one_mul,Int.neg_mul,Int.neg_neg]
      · rw[ab (by simp[h3,h4]),show(a.natAbs:Int)=a by omega,show(b.natAbs:Int)= -b by omega,Int.mul_neg,Int.neg_mul_neg,Int.one_mul]
      · rw[aa (by simp[h3,h4]),show(a.natAbs:Int)=a by omega,show(b.natAbs:Int)=b by omega,Int.one_mul]
theorem RJ (a b:Int):(sgn a b=0/\a*b=0)\/(sgn a b=1/\0<a*b)\/(sgn a b= -1/\a*b<0):=by
  have h:=Uu a b;by_cases h1:a=0
  · subst h1;left;simp[sgn]
  · by_cases h2:b=0
    · subst h2;left;simp[sgn]
    · have hp:0<a.natAbs*b.natAbs:=Nat.mul_pos (by omega) (by omega)
      generalize a.natAbs*b.natAbs=p at*;generalize a*b=x at*;unfold sgn at h⊢;rw[ab h1,ab h2]at h⊢;by_cases h3:(a<0↔b<0)
      · rw[aa h3]at h⊢;right;left;exact⟨rfl,by omega⟩
      · rw[ab h3]at h⊢;right;right;exact⟨rfl,by omega⟩
theorem Zrf {a b c d:Int}:(if sgn a b≠sgn c d then(if sgn a b<sgn c d then-1 else 1)else sgn a b*GT (a.natAbs*b.natAbs) (c.natAbs*d.natAbs))=Lz (a*b) (c*d):=by
  have h1:=Uu a b;have h2:=Uu c d;have k1:=RJ a b;have k2:=RJ c d;unfold Lz GT;generalize a.natAbs*b.natAbs=p at*;generalize c.natAbs*d.natAbs=q at*;generalize a*b=x at*;generalize c*d=y at*;generalize sgn a b=u at*;generalize sgn c d=v at*;rcases k1 with⟨rfl,g1⟩|⟨rfl,g1⟩|⟨rfl,g1⟩<;>rcases k2 with⟨rfl,g2⟩|⟨rfl,g2⟩|⟨rfl,g2⟩
  · rw[ab (by simp),ab (show¬x<y by omega),aa (show x=y by omega)];exact Int.zero_mul _
  · rw[aa (by simp),aa (by omega),aa (by omega)]
  · rw[aa (by simp),ab (by omega),ab (by omega),ab (by omega)]
  · rw[aa (by simp),ab (by omega),ab (by omega),ab (by omega)]
  · rw[ab (by simp)]
    have e1:(p:Int)=x:=by omega
    have e2:(q:Int)=y:=by omega
    by_cases h:x<y
    · rw[aa (by omega),aa h];rfl
    · rw[ab (by omega),ab h]
      by_cases h':x=y
      · rw[aa (by omega),aa h'];rfl
      · rw[ab (by omega),ab h'];rfl
  · rw[aa (by simp),ab (by omega),ab (by omega),ab (by omega)]
  · rw[aa (by simp),aa (by omega),aa (by omega)]
  · rw[aa (by simp),aa (by omega),aa (by omega)]
  · rw[ab (by simp)]
    have e1:(p:Int)= -x:=by omega
    have e2:(q:Int)= -y:=by omega
    by_cases h:x<y
    · rw[ab (by omega),ab (by omega),aa h];rfl
    · rw[ab h]
      by_cases h':x=y
      · rw[ab (by omega),aa (by omega),aa h'];rfl
      · rw[aa (by omega),ab h'];rfl
theorem Qsq (p:Nat):p/w64*w64+p%w64=p:=by have:=Nat.div_add_mod p w64;rw[Nat.mul_comm]at this;exact this
theorem Qn:0<w64:=by rw[BN];omega
theorem Zem (p q:Nat): -1<=GT p q/\GT p q<=1:=by unfold GT;(repeat' split)<;>omega
theorem Zgf (a b:Int): -1<=sgn a b/\sgn a b<=1:=by unfold sgn;(repeat' split)<;>omega
theorem Zit {u v:Int} (hu: -1<=u/\u<=1) (hv: -1<=v/\v<=1): -1<=u*v/\u*v<=1:=by
  have:u= -1\/u=0\/u=1:=by omega
  rcases this with rfl|rfl|rfl<;>omega
theorem Pd {x y:Nat} (hx:x<w64) (hy:y<w64):∃hi lo:Nat,Et [U x,U y]=some [U hi,U lo]/\hi*w64+lo=x*y/\lo<w64:=
  ⟨_,_,Q6c hx hy,Qsq _,Nat.mod_lt _ Qn⟩
theorem Zby {a b c d:Int} (M1 M2 M3 M4:Fn) (h1 l1 h2 l2:Nat)
   (ka:M3 [I a]=some [U a.natAbs]) (kb:M3 [I b]=some [U b.natAbs]) (kc:M3 [I c]=some [U c.natAbs]) (kd:M3 [I d]=some [U d.natAbs])
   (ks:∀a b,M4 [I a,I b]=some [I (sgn a b)])
   (e1:M2 [U a.natAbs,U b.natAbs]=some [U h1,U l1]) (f1:M2 [U c.natAbs,U d.natAbs]=some [U h2,U l2])
   (hcmp:M1 [U h1,U l1,U h2,U l2]=some [I (GT (a.natAbs*b.natAbs) (c.natAbs*d.natAbs))]):US M1 M2 M3 M4 [I a,I b,I c,I d]=some [I (Lz (a*b) (c*d))]:=by
  have hm:=Zit (Zgf a b) (Zem (a.natAbs*b.natAbs) (c.natAbs*d.natAbs));rw[Zw0];simp only[go_sem,ks,ka,kb,kc,kd,e1,f1,hcmp];rw[<-Zrf];rw[Ae (by omega)];by_cases h1:sgn a b≠sgn c d
  · rw[aa h1,aa h1]
    by_cases h2:sgn a b<sgn c d
    · rw[aa h2,aa h2]
    · rw[ab h2,ab h2]
  · rw[ab h1,ab h1]
theorem Zoq {a b c d:Int} (ha:i64 a) (hb:i64 b) (hc:i64 c) (hd:i64 d):NB [I a,I b,I c,I d]=some [I (Lz (a*b) (c*d))]:=by
  obtain⟨h1,l1,e1,e2,e3⟩:=Pd (NE ha) (NE hb);obtain⟨h2,l2,f1,f2,f3⟩:=Pd (NE hc) (NE hd);have hcmp:=Q92 h1 l1 h2 l2 e3 f3;rw[e2,f2]at hcmp;unfold NB;exact Zby _ _ _ _ _ _ _ _ (Iu ha) (Iu hb) (Iu hc) (Iu hd) Qe9 e1 f1 hcmp
theorem eB {α β:Type} {a:Option α} {f:α->Option β} {x:α} {r:Option β} (h:a=some x) (g:f x=r):a.bind f=r:=by rw[h];exact g
theorem eT {α:Type} {c:Bool} {a b r:α} (h:c=true) (g:a=r):cond c a b=r:=by rw[h];exact g
theorem eF {α:Type} {c:Bool} {a b r:α} (h:c=false) (g:b=r):cond c a b=r:=by rw[h];exact g
theorem eC {α:Type} {c:Bool} {a b r:α} (h:c=true->a=r) (g:c=false->b=r):cond c a b=r:=by cases c;exact g rfl;exact h rfl
theorem beF {a b:Int} (h:a≠b):(a==b)=false:=by simpa using h
theorem beT {a b:Int} (h:a=b):(a==b)=true:=by simpa using h
theorem bnF {a b:Int} (h:a=b):(a !=b)=false:=by simpa using h
theorem bnT {a b:Int} (h:a≠b):(a !=b)=true:=by simpa using h
theorem Fm {α β:Type} {a:Option α} {f:α->Option β} (h:a.isSome=true) (g:∀o,a=some o->(f o).isSome=true):(a.bind f).isSome=true:=by
 cases a with
 |none=>simp at h
 |some o=>exact g o rfl
theorem B2 {α:Type} {c:Bool} {a b:Option α} (h:c=true->a.isSome=true) (g:c=false->b.isSome=true):(cond c a b).isSome=true:=by
 cases c
 ·exact g rfl
 ·exact h rfl
def Out {α:Type} (p:α->Prop) (a:Option α):Prop:=∃o,a=some o/\p o
theorem Out.is {α:Type} {p:α->Prop} {a:Option α} (h:Out p a):a.isSome=true:=by obtain⟨o,h,_⟩:=h;rw[h];rfl
theorem Out.of {α:Type} {a:Option α} (h:a.isSome=true):Out (λ_=>True) a:=by
 cases a with
 |none=>simp at h
 |some o=>exact⟨o,rfl,trivial⟩
theorem Out.bind {α β:Type} {p:α->Prop} {q:β->Prop} {a:Option α} {f:α->Option β} (h:Out p a) (g:∀o,p o->Out q (f o)):Out q (a.bind f):=by
 obtain⟨o,rfl,h⟩:=h;exact g o h
theorem Out.ibind {α β:Type} {q:β->Prop} {a:Option α} {f:α->Option β} (h:a.isSome=true) (g:∀o,a=some o->Out q (f o)):Out q (a.bind f):=by
 cases a with
 |none=>simp at h
 |some o=>exact g o rfl
theorem Out.cond {α:Type} {p:α->Prop} {c:Bool} {a b:Option α} (h:c=true->Out p a) (g:c=false->Out p b):Out p (cond c a b):=by
 cases c
 ·exact g rfl
 ·exact h rfl
theorem Out.some {α:Type} {p:α->Prop} {o:α} (h:p o):Out p (some o):=⟨o,rfl,h⟩
theorem Out.mono {α:Type} {p q:α->Prop} {a:Option α} (h:Out p a) (g:∀o,p o->q o):Out q a:=by obtain⟨o,h,h2⟩:=h;exact⟨o,h,g o h2⟩
theorem Cb {S:Type} {step:Lp} (enc:S->List AC) (Inv:S->Prop) (m:S->Nat) (Q:Nat×List AC->Prop)
  (h:∀s,Inv s->Out (λo=>(o.1=0/\∃s',o.2=enc s'/\Inv s'/\m s'<m s)\/(o.1≠0/\Q o)) (step (enc s))) (s:S) (hs:Inv s):Out Q (An step (enc s)):=by
 obtain ⟨o, h1, _, h2⟩ := Qvb (step := step) enc Inv m Q (λs hs => by
  obtain⟨o,h1,h2⟩:=h s hs;rcases h2 with⟨h2,s',h3,h4,h5⟩|⟨h2,h3⟩
  ·refine .inl ⟨s',?_,h4,h5⟩;rw[h1,<-h3,<-h2]
  ·exact .inr ⟨o,h1,h2,h3⟩) s hs
 exact⟨o,h1,h2⟩
theorem A6 {p:Prop} [Decidable p] (h:decide p=true):p:=of_decide_eq_true h
theorem A2 {p:Prop} [Decidable p] (h:decide p=false): ¬p:=of_decide_eq_false h
theorem inB {i:Int} {n:Nat} (h0:0<=i) (h1:i<(n:Int)):(decide (0<=i)&&decide (i<(n:Int)))=false->False:=by
 intro h;rcases Bool.and_eq_false_iff.1 h with c|c
 ·exact A2 c h0
 ·exact A2 c h1
theorem CK {a b:Nat} (h:a<=b):Nat.ble a b=true:=Nat.ble_eq_true_of_le h
theorem Q1c (a b c d:Int):(G9 [I a,I b,I c,I d]).isSome=true:=by
 unfold G9;rw[YR]
 repeat' first|exact rfl|refine B2 (λ_=> ?_) (λ_=> ?_)
 rename_i h1 h2;simp at h1 h2;omega
theorem PO (a b c:Int):EY [I a,I b,I c]=some [B (decide (1<=a/\a<=65536/\2<=b/\b<=65536/\1<=c/\c<=16777216))]:=by
 unfold EY;rw[Zgn];by_cases h1:1<=a<;>by_cases h2:a<=65536<;>by_cases h3:2<=b<;>by_cases h4:b<=65536<;>by_cases h5:1<=c<;>by_cases h6:c<=16777216<;>simp[h1,h2,h3,h4,h5,h6]
theorem Zyj {M:Fn} (h:∀a b c d,(M [I a,I b,I c,I d]).isSome=true) (a b c v x:Int):(QR M [I a,I b,I c,I v,I x]).isSome=true:=by
 rw[Qbx]
 repeat' first|exact rfl|exact h _ _ _ _|refine B2 (λ_=> ?_) (λ_=> ?_)|refine Fm ?_ λ_ _=> ?_
theorem Qs7 (a b c v x:Int):(Hd [I a,I b,I c,I v,I x]).isSome=true:=Zyj Q1c a b c v x
theorem Zgu (x:Int): -9223372036854775808<=wrap .i64 x/\wrap .i64 x<=9223372036854775807:=by
 simp[IntKind.wrap,IntKind.signed,IntKind.bits];omega
theorem Z3a {ML MV:Fn} (hL:∀a b c d,(ML [I a,I b,I c,I d]).isSome=true) {v a b c low high:Int} (h1: -9000000000000<=low/\low<=9000000000000) (h2: -9000000000000<=high/\high<=9000000000000):
  Out (λo=>o.1=1) (An (Lw ML MV) [I v,I low,I high,I a,I b,I c]):=by
 refine Cb (λs:Int×Int=>[I v,I s.1,I s.2,I a,I b,I c]) (λs=>(-9000000000000<=s.1/\s.1<=9000000000000)/\(-9000000000000<=s.2/\s.2<=9000000000000)) (λs=>(s.2-s.1).toNat) _ ?_ (low,high) ⟨h1,h2⟩;rintro⟨l,h⟩ ⟨q1,q2⟩;dsimp only at*;rw[Qqf];refine .cond (λc=> ?_) (λc=> ?_)
 ·have c:=A6 c;have e:wrap .i64 (h-wrap .i64 ((wrap .i64 (h-l)).tdiv 2))=h-(h-l)/2:=by
   rw[Ae (x:=h-l) (by omega),bc (by omega),Ae (x:=(h-l)/2) (by omega),Ae (by omega)]
  rw[e];refine .ibind (hL _ _ _ _) λo _=> ?_;refine .cond (λ_=> ?_) (λ_=> ?_)
  ·exact .some (.inl ⟨rfl,(h-(h-l)/2,h),rfl,by dsimp only;omega,by dsimp only;omega⟩)
  ·refine .some (.inl ⟨rfl,(l,h-(h-l)/2-1),?_,by dsimp only;omega,by dsimp only;omega⟩);rw[Ae (x:=h-(h-l)/2-1) (by omega)]
 ·exact .some (.inr ⟨by simp,rfl⟩)
theorem Zqs {ML MV:Fn} (hL:∀a b c d,(ML [I a,I b,I c,I d]).isSome=true) (hV:∀a b c,MV [I a,I b,I c]=some [B (decide (1<=a/\a<=65536/\2<=b/\b<=65536/\1<=c/\c<=16777216))]) (a b c v x:Int):
  (Un ML MV (An (Lw ML MV)) [I a,I b,I c,I v,I x]).isSome=true:=by
 rw[Zas,hV];simp only[af];refine B2 (λ_=>rfl) λh1=>B2 (λ_=>rfl) λh2=>B2 (λ_=>rfl) λh3=> ?_;simp only[go_sem,Bool.not_eq_false',bz]at h1;have h2:=A2 h2;have h3:=A2 h3;have hx: -1099511627776<=x/\x<=1099511627776:=by
  unfold mx at h2;unfold mn at h3;split at h2<;>split at h3<;>omega
 obtain⟨o,h4,h5⟩:=Z3a (MV:=MV) hL (v:=v) (a:=a) (b:=b) (c:=c) (low:=wrap .i64 (wrap .i64 (0-x)-b)) (high:=mn (wrap .i64 (b-x)) a)
  (by rw[Ae (x:=0-x) (by omega),Ae (by omega)];omega) (by rw[Ae (x:=b-x) (by omega)];unfold mn;split<;>omega)
 rw[h4];simp only[af,h5];rfl
theorem Zuk (a b c v x:Int):(Fw [I a,I b,I c,I v,I x]).isSome=true:=Zqs Q1c PO a b c v x
theorem Z1z {MB MR MV:Fn} (hB:∀a b c v x,(MB [I a,I b,I c,I v,I x]).isSome=true) {a b c v x:Int}:
  Out (λo=>o.1=1\/o.1=2/\(wA o.2 0).length<=4096) (An (IA MB MR MV) [.view Aa [],I v,I x,I a,I b,I c]):=by
 refine Cb (λs:Rw×Int×Int=>[.view Aa s.1,I s.2.1,I s.2.2,I a,I b,I c]) (λs=>s.1.length<=4096) (λs=>4096-s.1.length) _ ?_ ([],v,x) (by simp);rintro⟨l,v,x⟩ h;dsimp only at*;rw[Qg];refine .cond (λ_=> ?_) (λ_=> ?_)
 ·refine .cond (λ_=> ?_) (λh2=> ?_)
  ·exact .some (.inr ⟨by simp, .inl rfl⟩)
  ·have h2: ¬((l.length:Int)=4096):=by simpa using h2
   refine .ibind (hB _ _ _ _ _) λo _=> ?_;refine .cond (λ_=> ?_) (λh3=> ?_)
   ·exact .some (.inl ⟨rfl,(_,_,_),rfl,by simp;omega,by simp;omega⟩)
   ·rw[CK (by simp;omega)]at h3;cases h3
 ·exact .some (.inr ⟨by simp, .inr ⟨rfl,h⟩⟩)
theorem Zqw {MB MR MV:Fn} (hB:∀a b c v x,(MB [I a,I b,I c,I v,I x]).isSome=true) (hR:∀a b c v x,(MR [I a,I b,I c,I v,I x]).isSome=true) (hV:∀a b c,MV [I a,I b,I c]=some [B (decide (1<=a/\a<=65536/\2<=b/\b<=65536/\1<=c/\c<=16777216))]) (a b c v x:Int):
  Out (λo=>(wA o 0).length<=4096) (Q0 MB MR MV (An (IA MB MR MV)) [I a,I b,I c,I v,I x]):=by
 rw[Vc,hV];simp only[af];refine .cond (λ_=> .some (by simp[gA,wA,bA,jA,nth,BS])) λ_=> .ibind (hR _ _ _ _ _) λo _=> .cond (λ_=> .some (by simp[gA,wA,bA,jA,nth,BS])) λ_=> ?_;refine .bind (Z1z hB) λo h=> ?_;rcases h with h|⟨h,h2⟩
 ·rw[h];exact .some (by simp[gA,wA,bA,jA,nth,BS])
 ·rw[h];exact .some h2
theorem Z6x (a b c v x:Int):Out (λo=>(wA o 0).length<=4096) (KJ [I a,I b,I c,I v,I x]):=Zqw Zuk Qs7 PO a b c v x
theorem Qx0 {M:Fn} {u:Int} {sp out:Rw} (h0:out.length=sp.length) (h1:sp.length<=4096):
  Out (λo=>o.1=1/\(wA o.2 0).length=sp.length) (An (Lq M) [.view Aa out,I u, .view Aa sp,I (sp.length:Int),I 0]):=by
 refine Cb (λs:Rw×Int×Nat=>[.view Aa s.1,I s.2.1, .view Aa sp,I (sp.length:Int),I (s.2.2:Int)]) (λs=>s.1.length=sp.length/\s.2.2<=sp.length) (λs=>sp.length-s.2.2) _ ?_ (out,u,0) ⟨h0,by simp⟩;rintro⟨l,u,i⟩ ⟨g1,g2⟩;dsimp only at*;rw[Qwl];refine .cond (λc=> ?_) (λ_=> ?_)
 ·have c:=A6 c;refine .cond (λ_=> ?_) (λh=> ?_)
  ·refine .cond (λ_=> ?_) (λh=> ?_)
   ·have e:=Ae (x:=(i:Int)+1) (by omega);rw[e];generalize wrap .i64 (u+gA (nth [] sp (i:Int).toNat) 0)=z;exact .some (.inl ⟨rfl,(l.set (i:Int).toNat [I z],z,i+1),rfl,by simp;omega,by simp;omega⟩)
   ·simp at h;omega
  ·simp at h;omega
 ·exact .some (.inr ⟨by simp,rfl,g1⟩)
theorem Z2z {M:Fn} (hS:∀a b c v x,Out (λo=>(wA o 0).length<=4096) (M [I a,I b,I c,I v,I x])) (a b c x3 x4 x5 x6 x7 x8:Int):
  Out (λo=>(wA o 0).length<=4096) (Ry M (An (Lq M)) [I a,I b,I c,I x3,I x4,I x5,I x6,I x7,I x8]):=by
 rw[Qhx];refine .bind (hS _ _ _ _ _) λo h=> ?_;generalize wA o 0=sp at*;refine .cond (λ_=> .some (by simp[gA,wA,bA,jA,nth,BS])) λ_=> ?_;refine .cond (λ_=> ?_) λc=>by simp at c
 refine .cond (λ_=> ?_) λc=>by simp at c;omega
 refine .bind (Qx0 (by simp) h) λo g=> ?_;rw[g.1];exact .some (by show(wA o.2 0).length<=4096;omega)
theorem Z1 (a b c x3 x4 x5 x6 x7 x8:Int):Out (λo=>(wA o 0).length<=4096) (Fz [I a,I b,I c,I x3,I x4,I x5,I x6,I x7,I x8]):=Z2z Z6x a b c x3 x4 x5 x6 x7 x8
theorem Zqg {M:Fn} (hF:∀a b c x3 x4 x5 x6 x7 x8,Out (λo=>(wA o 0).length<=4096) (M [I a,I b,I c,I x3,I x4,I x5,I x6,I x7,I x8])) (a b c x3 x4 x5 x6 x7 x8:Int):
  (OT M [I a,I b,I c,I x3,I x4,I x5,I x6,I x7,I x8]).isSome=true:=by
 rw[VF];obtain⟨o,h1,h2⟩:=hF a b c x3 x4 x5 x6 x7 x8;rw[h1];simp only[af];generalize wA o 0=sp at*;refine B2 (λ_=>rfl) λ_=>B2 (λ_=>rfl) λc=>B2 (λ_=>rfl) λd=> ?_;have c: ¬((sp.length:Int)=0):=by simpa using c
 rw[Ae (by omega)]at d;simp at d;omega
theorem Zq8 (a b c x3 x4 x5 x6 x7 x8:Int):(F2 [I a,I b,I c,I x3,I x4,I x5,I x6,I x7,I x8]).isSome=true:=Zqg Z1 a b c x3 x4 x5 x6 x7 x8
theorem Zlc {m k:Nat} (h:2^(k+1)*m+2^k<w64):wrap .u64 (((BitVec.ofInt IntKind.u64.bits ((2^(k+1)*m:Nat):Int)|||BitVec.ofInt IntKind.u64.bits ((2^k:Nat):Int)).toNat:Nat):Int)=((2^(k+1)*m+2^k:Nat):Int):=by
 rw[BN]at h;have e:(BitVec.ofInt IntKind.u64.bits ((2^(k+1)*m:Nat):Int)|||BitVec.ofInt IntKind.u64.bits ((2^k:Nat):Int)).toNat=2^(k+1)*m+2^k:=by
  rw[BitVec.toNat_or];have e1:∀v:Nat,v<18446744073709551616->(BitVec.ofInt IntKind.u64.bits (v:Int)).toNat=v:=by
   intro v hv;simp only[IntKind.bits,BitVec.toNat_ofInt];omega
  have hpos:0<2^k:=Nat.two_pow_pos _;generalize hA:2^(k+1)*m=A at*;rw[e1 _ (by omega),e1 _ (by omega),<-hA];exact(Nat.two_pow_add_eq_or_of_lt (Nat.pow_lt_pow_right (by omega) (by omega)) m).symm
 rw[e,HW (by omega)]
theorem Zfl (k:Nat):((2^(k+1):Nat):Int).fdiv (2^min (Int.toNat 1) IntKind.u64.bits)=((2^k:Nat):Int):=by
 have e:(2^min (Int.toNat 1) IntKind.u64.bits:Int)=2:=rfl;rw[e,Int.fdiv_eq_ediv_of_nonneg _ (by omega),Nat.pow_succ];omega
theorem Zck:(1:Int).fdiv (2^min (Int.toNat 1) IntKind.u64.bits)=0:=rfl
theorem Qrr {M1 M2:Fn} (hp:∀x y:Nat,x<w64->y<w64->∃hi lo:Nat,M2 [U x,U y]=some [U hi,U lo]/\hi*w64+lo=x*y/\lo<w64)
  (hc:∀a b c d:Nat,b<w64->d<w64->M1 [U a,U b,U c,U d]=some [I (GT (a*w64+b) (c*w64+d))]) {k m hi lo:Nat} {bit:Int} (hlo:lo<w64) (hb:((2^k:Nat):Int).fdiv (2^min (Int.toNat 1) IntKind.u64.bits)=bit) (h:2^(k+1)*m+2^k<w64):
  Mu M1 M2 [U ((2^(k+1)*m:Nat):Int),U ((2^k:Nat):Int),U hi,U lo]=
   some (0,[U (((if(2^(k+1)*m+2^k)*(2^(k+1)*m+2^k)<=hi*w64+lo then 2^(k+1)*m+2^k else 2^(k+1)*m):Nat):Int),U bit,U hi,U lo]):=by
 obtain⟨h1,l1,e1,e2,e3⟩:=hp _ _ h h;have hcmp:=hc h1 l1 hi lo e3 hlo;rw[e2]at hcmp;have hpos:0<2^k:=Nat.two_pow_pos _;rw[Q1p,Zlc h,hb];simp only[go_sem,e1,hcmp];rw[aa (by omega)];generalize(2^(k+1)*m+2^k)*(2^(k+1)*m+2^k)=q at*;unfold GT;by_cases h1:q<hi*w64+lo
 ·rw[aa h1,aa (by omega),aa (by omega)]
 ·rw[ab h1];by_cases h2:q=hi*w64+lo
  ·rw[aa h2,aa (by omega),aa (by omega)]
  ·rw[ab h2,ab (by omega),ab (by omega)]
theorem Qku {M1 M2:Fn} (hp:∀x y:Nat,x<w64->y<w64->∃hi lo:Nat,M2 [U x,U y]=some [U hi,U lo]/\hi*w64+lo=x*y/\lo<w64)
  (hc:∀a b c d:Nat,b<w64->d<w64->M1 [U a,U b,U c,U d]=some [I (GT (a*w64+b) (c*w64+d))]) {hi lo:Nat} (hlo:lo<w64):∀(k m:Nat),2^(k+1)*m+2^(k+1)<=w64->
  (2^(k+1)*m)*(2^(k+1)*m)<=hi*w64+lo->hi*w64+lo<(2^(k+1)*m+2^(k+1))*(2^(k+1)*m+2^(k+1))->
  ∃r:Nat,An (Mu M1 M2) [U ((2^(k+1)*m:Nat):Int),U ((2^k:Nat):Int),U hi,U lo]=some (1,[U r])/\r*r<=hi*w64+lo/\hi*w64+lo<(r+1)*(r+1)/\r<w64
 |0,m,hw,h1,h2=>by
  have hs:=Qrr hp hc (k:=0) (m:=m) (hi:=hi) (bit:=0) hlo Zck (by simp at hw⊢;omega);rw[Bn hs];have hend:∀r:Nat,An (Mu M1 M2) [U (r:Int),U 0,U hi,U lo]=some (1,[U r]):=by
   intro r;refine A5 ?_ (by simp);rw[Q1p];simp only[go_sem];rw[ab (by omega)]
  simp only[Nat.zero_add,Nat.pow_one,Nat.pow_zero]at*;by_cases h:(2*m+1)*(2*m+1)<=hi*w64+lo
  ·rw[aa h,hend];exact⟨_,rfl,h,h2,by omega⟩
  ·rw[ab h,hend];exact⟨_,rfl,h1,by omega,by omega⟩
 |k+1,m,hw,h1,h2=>by
  have e1:2^(k+1+1)*m=2^(k+1)*(2*m):=by rw[Nat.pow_succ 2 (k+1),Nat.mul_assoc]
  have e2:2^(k+1+1)*m+2^(k+1)=2^(k+1)*(2*m+1):=by rw[e1,Nat.mul_add,Nat.mul_one]
  have e3:2^(k+1+1)=2^(k+1)+2^(k+1):=by rw[Nat.pow_succ 2 (k+1)];omega
  have hpos:0<2^(k+1):=Nat.two_pow_pos _;have hs:=Qrr hp hc (k:=k+1) (m:=m) (hi:=hi) (bit:=((2^k:Nat):Int)) hlo (Zfl k) (by omega);rw[Bn hs];by_cases h:(2^(k+1+1)*m+2^(k+1))*(2^(k+1+1)*m+2^(k+1))<=hi*w64+lo
  ·rw[aa h,e2];rw[e2]at h;refine Qku hp hc hlo k (2*m+1) ?_ h ?_
   ·rw[<-e2];omega
   ·rw[<-e2];rw[show 2^(k+1+1)*m+2^(k+1)+2^(k+1)=2^(k+1+1)*m+2^(k+1+1) by omega];exact h2
  ·rw[ab h];have h3:hi*w64+lo<(2^(k+1+1)*m+2^(k+1))*(2^(k+1+1)*m+2^(k+1)):=by omega
   have hw':2^(k+1+1)*m+2^(k+1)<=w64:=by omega
   rw[e1]at h1 h3 hw'⊢;exact Qku hp hc hlo k (2*m) hw' h1 h3
theorem Zyi {M1 M2:Fn} (hp:∀x y:Nat,x<w64->y<w64->∃hi lo:Nat,M2 [U x,U y]=some [U hi,U lo]/\hi*w64+lo=x*y/\lo<w64)
  (hc:∀a b c d:Nat,b<w64->d<w64->M1 [U a,U b,U c,U d]=some [I (GT (a*w64+b) (c*w64+d))]) {hi lo:Nat} (hhi:hi<w64) (hlo:lo<w64):
  ∃r:Nat,Qdh M1 M2 (An (Mu M1 M2)) [U hi,U lo]=some [U r]/\r*r<=hi*w64+lo/\hi*w64+lo<(r+1)*(r+1)/\r<w64:=by
 have hb:hi*w64+lo<w64*w64:=by
  have:hi*w64+w64<=w64*w64:=by rw[<-Nat.succ_mul];exact be _ hhi
  omega
 obtain⟨r,h1,h2,h3,h4⟩:=Qku hp hc (hi:=hi) (lo:=lo) hlo 63 0 (by rw[BN];omega) (by simp) (by rw[Nat.mul_zero,Nat.zero_add,show 2^(63+1)=w64 by rw[BN]];exact hb);refine⟨r,?_,h2,h3,h4⟩;rw[Nat.mul_zero]at h1;generalize An (Mu M1 M2)=N at*;have h1':N [AC.int IntKind.u64 0,AC.int IntKind.u64 9223372036854775808,AC.int IntKind.u64 hi,AC.int IntKind.u64 lo]=some (1,[U r]):=h1;rw[Ztf,h1'];simp only[go_sem]
theorem Qwf {hi lo:Nat} (hhi:hi<w64) (hlo:lo<w64):∃r:Nat,Kb [U hi,U lo]=some [U r]/\r*r<=hi*w64+lo/\hi*w64+lo<(r+1)*(r+1)/\r<w64:=
 Zyi (λ_ _ hx hy=>Pd hx hy) Q92 hhi hlo
theorem Qe0 {n:Nat} (h:n<9223372036854775808):Fc [U n,B false]=some [I n,B true]:=by
 unfold Fc;rw[Qfu];simp only[go_sem];rw[ab (by simp),aa (by simp),aa (by omega),Ae (by omega)]
theorem Z5o {x y b:Nat} (hx:x<w64) (hy:y<w64) (hb:b=0\/b=1):KS [U x,U y,U b]=some [U (((x:Int)-y-b)%Fqs),U (if x<y+b then 1 else 0)]:=by
 rw[BN]at hx hy;have e64:Fqs=18446744073709551616:=rfl;have hu:∀z:Nat,z<18446744073709551616->inU (z:Int)=true:=by
  intro z hz;simp only[inU,e64,aj,bz];omega
 have hb':(decide ((b:Int)=0)||decide ((b:Int)=1))=true:=by
  rcases hb with rfl|rfl<;>simp
 unfold KS;simp only[H3,K1,L_,HA,gA,jA,wA,bA];rw[hu x hx,hu y hy,hb'];by_cases h:x<y+b
 ·rw[aa h,DV (p:=(x:Int)<y+b) (by omega)];simp
 ·rw[ab h,A7 (p:=(x:Int)<y+b) (by omega)];simp
theorem Q8x {x y:Nat} (hx:x<w64) (hyx:y<=x):KS [U x,U y,U 0]=some [U ((x-y:Nat):Int),U 0]:=by
 have:=Z5o (x:=x) (y:=y) (b:=0) hx (by omega) (.inl rfl);have e64:Fqs=18446744073709551616:=rfl;rw[BN]at hx;rw[ab (by omega),e64,show((x:Int)-y-((0:Nat):Int))%18446744073709551616=((x-y:Nat):Int) by omega]at this;exact this
theorem Zjr {M1 M2 M3 M4:Fn} {n r:Nat} {mode:Int} (hn:n<9223372036854775807) (hrn:r*r<=n) (hr:M4 [U 0,U n]=some [U r]) (hm:M3 [U r,U r]=some [U 0,U ((r*r:Nat):Int)]) (hs1:M2 [U n,U ((r*r:Nat):Int),U 0]=some [U ((n-r*r:Nat):Int),U 0])
  (hs2:M2 [U 0,U 0,U 0]=some [U 0,U 0]) (sg:∀k:Nat,k<9223372036854775808->M1 [U k,B false]=some [I k,B true]) (hmode:mode=1\/mode=2):
  Qgg M1 M2 M3 M4 [U 0,U n,I mode]=some [I ((if(mode=1/\r*r<n)\/(mode=2/\r*r+r<n)then r+1 else r:Nat):Int),B true]:=by
 have hrr:r<=r*r:=by
  rcases Nat.eq_zero_or_pos r with h|h
  ·subst h;simp
  ·exact Nat.le_mul_of_pos_left r h
 have hw:wrap .u64 ((r:Int)+1)=((r+1:Nat):Int):=by rw[HW (by omega)];omega
 have s1:=sg r (by omega);have s2:=sg (r+1) (by omega);rw[Z09];simp only[go_sem,hr,hm,hs1,hs2,hw,s1,s2];rcases hmode with rfl|rfl
 ·rw[aa rfl,ab (by omega)];by_cases h:r*r<n
  ·rw[aa (by omega),aa (by omega)]
  ·rw[ab (by omega),ab (by omega),ab (by omega)]
 ·rw[ab (by omega),aa rfl,ab (by omega)];by_cases h:r*r+r<n
  ·rw[aa (by omega),aa (by omega)]
  ·rw[ab (by omega),ab (by omega)]
theorem Zb3 {M1 M2:Fn} {n:Nat} {mode:Int} {k:Int} (hn:n<9223372036854775807) (hk:M2 [I mode]=some [B true]) (hr:M1 [U 0,U n,I mode]=some [I k,B true]):Qcp M1 M2 [I n,I mode]=some [I k,B true]:=by
 have hw:wrap .u64 (n:Int)=(n:Int):=HW (by omega);rw[Zpx];simp only[go_sem,hk,hw,hr];rw[ab (by omega),ab (by simp)]
theorem Qob {mode:Int} (h:mode=0\/mode=1\/mode=2):FT [I mode]=some [B true]:=by
 unfold FT;rw[Qv1];rcases h with rfl|rfl|rfl<;>rfl
theorem Qs1 {n:Nat} {mode:Int} (hn:n<9223372036854775807) (hmode:mode=1\/mode=2):
  ∃r:Nat,IY [I n,I mode]=some [I ((if(mode=1/\r*r<n)\/(mode=2/\r*r+r<n)then r+1 else r:Nat):Int),B true]/\r*r<=n/\n<(r+1)*(r+1):=by
 have hnw:n<w64:=by rw[BN];omega
 obtain⟨r,h1,h2,h3,h4⟩:=Qwf (hi:=0) (lo:=n) Qn hnw;rw[Nat.zero_mul,Nat.zero_add]at h2 h3;obtain⟨hi,lo,e1,e2,e3⟩:∃hi lo:Nat,Ia [U r,U r]=some [U hi,U lo]/\hi*w64+lo=r*r/\lo<w64:=⟨_,_,Q3w h4 h4,Qsq _,Nat.mod_lt _ Qn⟩;have hhi:hi=0:=by
  rcases Nat.eq_zero_or_pos hi with h|h
  ·exact h
  ·have:=be w64 h;omega
 subst hhi;have hlo:lo=r*r:=by omega
 subst hlo;have z:=Q8x (x:=0) (y:=0) Qn (co _);refine⟨r,?_,h2,h3⟩;exact Zb3 hn (Qob (.inr hmode)) (Zjr hn h2 h1 e1 (Q8x hnw h2) z (λk hk=>Qe0 hk) hmode)
def Br (a b:Int):Int:=(2*a+b)/(2*b)
theorem Ly {a b k:Int} (hb:0<b) (h1:k*(2*b)<=2*a+b) (h2:2*a+b<(k+1)*(2*b)):Br a b=k:=by
 unfold Br;have g1:k<=(2*a+b)/(2*b):=(Int.le_ediv_iff_mul_le (by omega)).2 h1;have g2:(2*a+b)/(2*b)<k+1:=(Int.ediv_lt_iff_lt_mul (by omega)).2 h2;omega
theorem Q2t {p c:Nat} (hp:p<w64) (hc:0<c):GE [U 0,U p,U c]=some [U ((p/c:Nat):Int),U ((p%c:Nat):Int)]:=by
 rw[BN]at hp;have h1:(p:Int).tdiv (c:Int)=((p/c:Nat):Int):=by rw[bc (by omega)];simp
 have h2:(p:Int).tmod (c:Int)=((p%c:Nat):Int):=by rw[Int.tmod_eq_emod_of_nonneg (by omega)];simp
 have h3:p/c<=p:=Nat.div_le_self _ _;unfold GE;generalize Io=M;generalize Tn=N1;generalize XE=N2;rw[Q3s];rw[Bw (by simp;omega),A7 (by omega),BH (by simp),A7 (by omega),A7 (by omega),h1,h2];generalize p/c=q at*;rw[HW (by omega)]
theorem Q6d (more:Int) (some_ neg:Bool):HJ [I 2,I more,B some_,B neg]=some [B (if more>0 then true else if more=0 then !neg else false)]:=by
 unfold HJ;rw[Q1m];simp only[go_sem];rw[ab (by omega),ab (by omega)]
 repeat' split
 all_goals rfl
theorem Q0w {n:Nat} (h:n<=9223372036854775808):Fc [U n,B true]=some [I (-(n:Int)),B true]:=by
 unfold Fc;rw[Qfu];simp only[go_sem];rw[aa (by omega),Mx,Qj];have:((0-(n:Int))%18446744073709551616+9223372036854775808)%18446744073709551616-9223372036854775808= -(n:Int):=by omega
 rw[this]
def Hb (q r c:Nat) (neg:Bool):Nat:=if r>c-r then q+1 else if r<c-r then q else if neg then q else q+1
theorem Zpj {M1 M2 M3 M4 M5 M6 M7:Fn} {a b s:Int} {A C p q r c:Nat} (hc0:0<c) (hc1:c<9223372036854775808) (hr:r<c) (hq:q<9223372036854775807)
  (k1:M7 [I 2]=some [B true]) (k2:M6 [I a]=some [U A]) (k3:M6 [I b]=some [U C]) (k4:M6 [I c]=some [U c]) (k5:M5 [U A,U C]=some [U 0,U p]) (k6:M4 [U 0,U p,U c]=some [U q,U r]) (k7:M3 [I a,I b]=some [I s])
  (k8:∀(more:Int) (some_ neg:Bool),M2 [I 2,I more,B some_,B neg]=some [B (if more>0 then true else if more=0 then !neg else false)])
  (k9:∀k:Nat,k<9223372036854775808->M1 [U k,B false]=some [I k,B true]) (k10:∀k:Nat,k<9223372036854775808->M1 [U k,B true]=some [I (-(k:Int)),B true]):
  Tc M1 M2 M3 M4 M5 M6 M7 [I a,I b,I c,I 2]=some [I (if s<0 then-(Hb q r c true:Int)else(Hb q r c false:Int)),B true]:=by
 have w1:wrap .u64 ((c:Int)-(r:Int))=((c-r:Nat):Int):=by rw[HW (by omega)];omega
 have w2:wrap .u64 ((q:Int)+1)=((q+1:Nat):Int):=by rw[HW (by omega)];omega
 have n1:=k9 q (by omega);have n2:=k9 (q+1) (by omega);rw[Q97];simp only[go_sem,k1,k2,k3,k4,k5,k6,k7,k8,w1,w2,n1,n2];rw[ab (by omega),ab (by simp),ab (by omega)];by_cases hs:s<0
 ·rw[aa hs];rw[aa (show¬(s<0↔(c:Int)<0) by omega)];have hne:(s !=0)=true:=by simp;omega
  rw[hne];unfold Hb;by_cases g1:r>c-r
  ·rw[aa g1];rw[aa (show(r:Int)>((c-r:Nat):Int) by omega),aa (by decide),ab (show¬((q+1:Nat):Int)=0 by omega),k10 (q+1) (by omega)];simp only[go_sem]
  ·rw[ab g1];rw[ab (show¬(r:Int)>((c-r:Nat):Int) by omega)];by_cases g2:r<c-r
   ·rw[aa g2];rw[aa (show(r:Int)<((c-r:Nat):Int) by omega),ab (by decide),k10 q (by omega)];simp only[go_sem]
   ·rw[ab g2,aa rfl];rw[ab (show¬(r:Int)<((c-r:Nat):Int) by omega),ab (by decide),k10 q (by omega)];simp only[go_sem]
 ·rw[ab hs];rw[ab (show¬¬(s<0↔(c:Int)<0) by omega)];unfold Hb;by_cases g1:r>c-r
  ·rw[aa g1,aa (show(r:Int)>((c-r:Nat):Int) by omega),aa (by decide),ab (show¬((q+1:Nat):Int)=0 by omega)]
  ·rw[ab g1,ab (show¬(r:Int)>((c-r:Nat):Int) by omega)];by_cases g2:r<c-r
   ·rw[aa g2,aa (show(r:Int)<((c-r:Nat):Int) by omega),ab (by decide)]
   ·rw[ab g2,ab (show¬(r:Int)<((c-r:Nat):Int) by omega),aa (by decide),ab (show¬((q+1:Nat):Int)=0 by omega),ab (by decide)]
theorem Zd5 (q r c:Nat):Hb q r c false=if r<c-r then q else q+1:=by
 unfold Hb;by_cases h1:r>c-r
 ·rw[aa h1,ab (by omega)]
 ·rw[ab h1];by_cases h2:r<c-r
  ·rw[aa h2,aa h2]
  ·rw[ab h2,ab h2,ab (by simp)]
theorem Zhl (q r c:Nat):Hb q r c true=if r>c-r then q+1 else q:=by
 unfold Hb;by_cases h1:r>c-r
 ·rw[aa h1,aa h1]
 ·rw[ab h1,ab h1];by_cases h2:r<c-r
  ·rw[aa h2]
  ·rw[ab h2,aa rfl]
theorem Qzp {p q r c:Nat} (hc:0<c) (h:p=c*q+r) (hr:r<c):Br p c=Hb q r c false:=by
 have e:(p:Int)=(c:Int)*q+r:=by rw[h];simp
 have e3:(q:Int)*(2*c)=2*((c:Int)*q):=by grind
 have e4:((q+1:Nat):Int)*(2*c)=2*((c:Int)*q)+2*c:=by grind
 have e5:((q:Int)+1)*(2*c)=2*((c:Int)*q)+2*c:=by grind
 have e6:(((q+1:Nat):Int)+1)*(2*c)=2*((c:Int)*q)+4*c:=by grind
 rw[Zd5];by_cases g:r<c-r
 ·rw[aa g];exact Ly (by omega) (by rw[e3];omega) (by rw[e5];omega)
 ·rw[ab g];exact Ly (by omega) (by rw[e4];omega) (by rw[e6];omega)
theorem Zpq {p q r c:Nat} (hc:0<c) (h:p=c*q+r) (hr:r<c):Br (-(p:Int)) c= -(Hb q r c true:Int):=by
 have e:(p:Int)=(c:Int)*q+r:=by rw[h];simp
 have e3: -(q:Int)*(2*c)= -(2*((c:Int)*q)):=by grind
 have e4: -((q+1:Nat):Int)*(2*c)= -(2*((c:Int)*q))-2*c:=by grind
 have e5:(-(q:Int)+1)*(2*c)= -(2*((c:Int)*q))+2*c:=by grind
 have e6:(-((q+1:Nat):Int)+1)*(2*c)= -(2*((c:Int)*q)):=by grind
 rw[Zhl];by_cases g:r>c-r
 ·rw[aa g];exact Ly (by omega) (by rw[e4];omega) (by rw[e6];omega)
 ·rw[ab g];exact Ly (by omega) (by rw[e3];omega) (by rw[e5];omega)
theorem Sr {a b c:Int} (ha:i64 a) (hb:i64 b) (hc:0<c/\c<9223372036854775808) (hp:a.natAbs*b.natAbs<9223372036854775807):Bz [I a,I b,I c,I 2]=some [I (Br (a*b) c),B true]:=by
 obtain⟨hi,lo,e1,e2,e3⟩:=Pd (NE ha) (NE hb);have hm:=Uu a b;have hs:=RJ a b;have hz:a*b=0->a.natAbs*b.natAbs=0:=λh=>by rw[<-Int.natAbs_mul,h];rfl
 generalize a.natAbs*b.natAbs=p at*;have hhi:hi=0:=by
  rcases Nat.eq_zero_or_pos hi with h|h
  ·exact h
  ·have:=be w64 h;have:=BN;omega
 subst hhi;have hlo:lo=p:=by omega
 subst hlo;obtain⟨n,rfl⟩:=bp (show 0<=c by omega);have hn:0<n:=by omega
 have h1:=Nat.div_add_mod lo n;have h2:=Nat.mod_lt lo hn;have h3:lo/n<=lo:=Nat.div_le_self _ _;have hd:=Q2t e3 hn;have hcs:=Iu (x:=(n:Int)) (by unfold i64;omega);rw[Int.natAbs_natCast]at hcs;generalize lo/n=q at*;generalize lo%n=r at*;have hmain:=Zpj (M1:=Fc) (M2:=HJ) (M3:=FB) (M4:=GE) (M5:=Et) (M6:=Gc) (M7:=FT) hn (by omega) h2 (by omega)
  (Qob (.inr (.inr rfl))) (Iu ha) (Iu hb) hcs e1 hd (Qe9 a b) Q6d (λk hk=>Qe0 hk) (λk hk=>Q0w (by omega))
 have hv:(if sgn a b<0 then-(Hb q r n true:Int)else(Hb q r n false:Int))=Br (a*b) n:=by
  rcases hs with⟨g1,g2⟩|⟨g1,g2⟩|⟨g1,g2⟩
  ·rw[ab (by omega),g2];rw[g1]at hm;have:lo=0:=hz g2;rw[<-Qzp hn h1.symm h2,this];rfl
  ·rw[ab (by omega),<-Qzp hn h1.symm h2,<-hm,g1,Int.one_mul]
  ·rw[aa (by omega),<-Zpq hn h1.symm h2,<-hm,g1,Int.neg_mul,Int.one_mul]
 rw[hv]at hmain;exact hmain
def val:List Nat->Nat
 |[]=>0
 |d::l=>d+65536*val l
def Dig (l:List Nat):Prop:=∀d∈l,d<65536
theorem Dig.sub {l m:List Nat} (h:Dig l) (hs:∀d∈m,d∈l):Dig m:=λd hd=>h d (hs d hd)
theorem Dig.set {l:List Nat} (h:Dig l) (j d:Nat) (hd:d<65536):Dig (l.set j d):=by
 intro x hx;rcases List.mem_or_eq_of_mem_set hx with h'|rfl
 ·exact h x h'
 ·exact hd
def bd (A:Nat) (p:Pt):Prop:=p.x.natAbs<=A/\p.y.natAbs<=A/\p.z.natAbs<=A
def Jr (a b:Pt):Int:=a.x*b.x+a.y*b.y+a.z*b.z
def GQ (a b:Pt):Pt:=⟨a.x-b.x,a.y-b.y,a.z-b.z⟩
theorem Hv {x y:Int} {A B:Nat} (hx:x.natAbs<=A) (hy:y.natAbs<=B):(x*y).natAbs<=A*B:=by rw[Int.natAbs_mul];exact dl hx hy
theorem A0 {A B:Nat} {a:Pt} (h:bd A a) (hab:A<=B):bd B a:=⟨bv h.1 hab,bv h.2.1 hab,bv h.2.2 hab⟩
theorem Z1g (a b:Pt):Jr (GQ a b) (GQ a b)=Jr (GQ b a) (GQ b a):=by
 simp only[Jr,GQ];have h:∀x y:Int,(x-y)*(x-y)=(y-x)*(y-x):=by intro x y;rw[<-Int.neg_mul_neg,Int.neg_sub]
 rw[h a.x,h a.y,h a.z]
theorem Zio {x y:Int}:Lz x y<=0↔x<=y:=by
 unfold Lz;by_cases h:x<y
 ·rw[aa h];omega
 ·rw[ab h];by_cases h':x=y
  ·rw[aa h'];omega
  ·rw[ab h'];omega
theorem Qq1 (v:Nat) (h:v<w64):wrap .u64 (((BitVec.ofInt IntKind.u64.bits (v:Int)&&&BitVec.ofInt IntKind.u64.bits 4294967295).toNat:Nat):Int)=((v%4294967296:Nat):Int):=by
 rw[BN]at h;have e:(BitVec.ofInt IntKind.u64.bits (v:Int)&&&BitVec.ofInt IntKind.u64.bits 4294967295).toNat=v%4294967296:=by
  rw[BitVec.toNat_and];have e1:(BitVec.ofInt IntKind.u64.bits (v:Int)).toNat=v:=by
   simp only[IntKind.bits,BitVec.toNat_ofInt];omega
  have e2:(BitVec.ofInt IntKind.u64.bits 4294967295).toNat=2^32-1:=by
   simp only[IntKind.bits,BitVec.toNat_ofInt];rfl
  rw[e1,e2,Nat.and_two_pow_sub_one_eq_mod]
 rw[e,HW (by omega)]
theorem Q9e (v:Nat):(v:Int).fdiv (2^min (Int.toNat 32) IntKind.u64.bits)=((v/4294967296:Nat):Int):=by
 have e:(2^min (Int.toNat 32) IntKind.u64.bits:Int)=4294967296:=rfl;rw[e,Int.fdiv_eq_ediv_of_nonneg _ (by omega)];omega
def EI (a n:Nat) (down:Bool) (j:Nat):Prop:=
 (j=0\/if down=true then(2*j-1)*(2*j-1)*n<4*(a*a)else(2*j-1)*(2*j-1)*n<=4*(a*a))/\
 (if down=true then 4*(a*a)<=(2*j+1)*(2*j+1)*n else 4*(a*a)<(2*j+1)*(2*j+1)*n)
theorem Qi {p q n:Nat} (h:p<=q):p*p*n<=q*q*n:=be _ (dl h h)
theorem Zy7 {a n:Nat} {down:Bool} {i j:Nat} (hi:EI a n down i) (hj:EI a n down j):i=j:=by
 have key:∀{i j:Nat},EI a n down i->EI a n down j-> ¬i<j:=by
  rintro i j ⟨-,h2⟩ ⟨h3,-⟩ hlt;have h4:=Qi (n:=n) (show 2*i+1<=2*j-1 by omega);rcases h3 with h3|h3
  ·omega
  ·by_cases hd:down=true
   ·rw[aa hd]at h2 h3;omega
   ·rw[ab hd]at h2 h3;omega
 have h1:=key hi hj;have h2:=key hj hi;omega
open Classical in
noncomputable def rnd (a n:Nat) (down:Bool):Nat:=if h:∃j,EI a n down j then Classical.choose h else 0
theorem S9 {a n:Nat} {down:Bool} {j:Nat} (h:EI a n down j):rnd a n down=j:=by
 have hx:∃j,EI a n down j:=⟨j,h⟩;unfold rnd;rw[dif_pos hx];exact Zy7 (Classical.choose_spec hx) h
noncomputable def B7 (x r n:Int):Int:=if x<0 then-(rnd (x.natAbs*r.natAbs) n.natAbs true:Int)else(rnd (x.natAbs*r.natAbs) n.natAbs false:Int)
theorem Ql3 {X R n j:Nat} {down:Bool} (hn:0<n) (hx:X*X<=n) (h:EI (X*R) n down j):j<=R:=by
 by_cases c:j<=R
 ·exact c
 exfalso;have e:4*(X*R*(X*R))=(2*R)*(2*R)*(X*X):=by grind
 have h2:(2*R)*(2*R)*(X*X)<=(2*R)*(2*R)*n:=Nat.mul_le_mul_left _ hx;have h3:(2*R)*(2*R)*n<(2*R+1)*(2*R+1)*n:=Nat.mul_lt_mul_of_pos_right (Nat.mul_self_lt_mul_self (by omega)) hn;have h4:(2*R+1)*(2*R+1)*n<=(2*j-1)*(2*j-1)*n:=Qi (by omega);obtain⟨h5,-⟩:=h;rcases h5 with h5|h5
 ·omega
 ·split at h5<;>omega
theorem Zyr {X R n j:Nat} {down:Bool} (hn:0<n) (hx:R*R<=n) (h:EI (X*R) n down j):j<=X:=by
 rw[Nat.mul_comm]at h;exact Ql3 hn hx h
theorem Zpi {a n q:Nat} (down:Bool) (h1:q*q*n<=a*a) (h2:a*a<(q+1)*(q+1)*n):
  EI a n down (if(if down=true then(2*q+1)*(2*q+1)*n<2*a*(2*a)else(2*q+1)*(2*q+1)*n<=2*a*(2*a))then q+1 else q):=by
 have e4:2*a*(2*a)=4*(a*a):=by grind
 rw[e4];have e1:4*(q*q*n)<=4*(a*a):=Nat.mul_le_mul_left _ h1;have e2:4*(a*a)<4*((q+1)*(q+1)*n):=by omega
 have e5:(2*q-1)*(2*q-1)*n<=(2*q)*(2*q)*n:=Qi (by omega);have e6:(2*q)*(2*q)*n=4*(q*q*n):=by grind
 have e7:(2*(q+1))*(2*(q+1))*n=4*((q+1)*(q+1)*n):=by grind
 have e8:(2*(q+1))*(2*(q+1))*n<=(2*(q+1)+1)*(2*(q+1)+1)*n:=Qi (by omega);have e9:n=0\/q=0\/(2*q-1)*(2*q-1)*n<(2*q)*(2*q)*n:=by
  by_cases hn:n=0
  ·exact .inl hn
  ·by_cases hq:q=0
   ·exact .inr (.inl hq)
   ·right;right;refine Nat.mul_lt_mul_of_pos_right ?_ (by omega);exact Nat.mul_self_lt_mul_self (by omega)
 have hn:n≠0:=by rintro rfl;simp at h2
 unfold EI;cases down
 ·simp only[Bool.false_eq_true,if_false];by_cases c:(2*q+1)*(2*q+1)*n<=4*(a*a)
  ·rw[aa c];refine⟨.inr ?_,by omega⟩;rw[show 2*(q+1)-1=2*q+1 by omega];exact c
  ·rw[ab c];exact⟨by omega,by omega⟩
 ·simp only[if_true];by_cases c:(2*q+1)*(2*q+1)*n<4*(a*a)
  ·rw[aa c];refine⟨.inr ?_,by omega⟩;rw[show 2*(q+1)-1=2*q+1 by omega];exact c
  ·rw[ab c];exact⟨by omega,by omega⟩
theorem Z3r {A N:Nat} (hN:0<N):∃q:Nat,q*q*N<=A*A/\A*A<(q+1)*(q+1)*N:=by
 have key:∀n:Nat,∃r:Nat,r*r<=n/\n<(r+1)*(r+1):=by
  intro n;induction n with
  |zero=>exact⟨0,by simp,by simp⟩
  |succ n ih=>
   obtain⟨r,h1,h2⟩:=ih;by_cases h:n+1<(r+1)*(r+1)
   ·exact⟨r,by omega,h⟩
   ·refine⟨r+1,by omega,?_⟩;have:(r+1+1)*(r+1+1)=(r+1)*(r+1)+2*(r+1)+1:=by grind
    omega
 obtain⟨q,h1,h2⟩:=key (A*A/N);exact⟨q,(Nat.le_div_iff_mul_le hN).1 h1,(Nat.div_lt_iff_lt_mul hN).1 h2⟩
theorem Sj {x r n:Int} (hx:x.natAbs<=33554432*4) (hr:0<=r/\r<=33554432*4) (hn:0<n/\n<=4611686018427387904) (hxn:x*x<=n):
  True/\(B7 x r n).natAbs<=268435456/\EI (x.natAbs*r.natAbs) n.natAbs (decide (x<0)) (B7 x r n).natAbs:=by
 obtain⟨R,rfl⟩:=bp hr.1;obtain⟨N,rfl⟩:=bp (show 0<=n by omega);have hxx:x.natAbs*x.natAbs<=N:=by
  have:((x.natAbs*x.natAbs:Nat):Int)=x*x:=by rw[Int.natAbs_mul_self]
  omega
 simp only[B7,Int.natAbs_natCast];obtain⟨q,l2,l3⟩:=Z3r (A:=x.natAbs*R) (N:=N) (by omega);obtain⟨j,hi⟩:∃j,EI (x.natAbs*R) N (decide (x<0)) j:=⟨_,Zpi (decide (x<0)) l2 l3⟩;have hle:=Ql3 (X:=x.natAbs) (R:=R) (by omega) hxx hi;have hrr:=S9 hi;by_cases hx0:x<0
 ·have e:=al hx0;rw[e]at hi hrr⊢;rw[aa hx0,hrr,Int.natAbs_neg,Int.natAbs_natCast];exact⟨trivial,by omega,hi⟩
 ·have e:=am hx0;rw[e]at hi hrr⊢;rw[ab hx0,hrr,Int.natAbs_natCast];exact⟨trivial,by omega,hi⟩
def Iq (n k:Int):Prop:=0<=k/\n<=k*k/\(k=0\/(k-1)*(k-1)<n)
theorem Zzk {n i j:Int} (hi:Iq n i) (hj:Iq n j):i=j:=by
 have key:∀{i j:Int},Iq n i->Iq n j-> ¬i<j:=by
  rintro i j ⟨h1,h2,-⟩ ⟨h4,h5,h6⟩ hlt;rcases h6 with h6|h6
  ·omega
  ·have:=Int.mul_self_le_mul_self h1 (show i<=j-1 by omega);omega
 have h1:=key hi hj;have h2:=key hj hi;omega
open Classical in
noncomputable def upR (n:Int):Int:=if h:∃j,Iq n j then Classical.choose h else 0
theorem Qzi {n k:Int} (h:Iq n k):upR n=k:=by
 have hx:∃j,Iq n j:=⟨k,h⟩;unfold upR;rw[dif_pos hx];exact Zzk (Classical.choose_spec hx) h
theorem Q0t {n r:Nat} (h1:r*r<=n) (h2:n<(r+1)*(r+1)):Iq n (if r*r<n then r+1 else r:Nat):=by
 unfold Iq;by_cases c:r*r<n
 ·rw[aa c];have e1:((r+1:Nat):Int)*((r+1:Nat):Int)=(((r+1)*(r+1):Nat):Int):=(Int.natCast_mul _ _).symm;have e2:(((r+1:Nat):Int)-1)*(((r+1:Nat):Int)-1)=((r*r:Nat):Int):=by
   rw[show((r+1:Nat):Int)-1=(r:Int) by omega];exact(Int.natCast_mul _ _).symm
  rw[e1,e2];generalize(r+1)*(r+1)=A at*;generalize r*r=B at*;exact⟨by omega,by omega, .inr (by omega)⟩
 ·rw[ab c];have e1:(r:Int)*(r:Int)=((r*r:Nat):Int):=(Int.natCast_mul _ _).symm;rw[e1];refine⟨by omega,by omega,?_⟩;rcases Nat.eq_zero_or_pos r with h|h
  ·left;omega
  ·right;have e2:((r:Int)-1)*((r:Int)-1)=(((r-1)*(r-1):Nat):Int):=by
    rw[show(r:Int)-1=((r-1:Nat):Int) by omega];exact(Int.natCast_mul _ _).symm
   have:=Nat.mul_self_lt_mul_self (show r-1<r by omega);rw[e2];omega
theorem Zsg (k:Nat):((2^(k+1):Nat):Int).fdiv (2^min (Int.toNat 1) IntKind.i64.bits)=((2^k:Nat):Int):=by
 have e:(2^min (Int.toNat 1) IntKind.i64.bits:Int)=2:=rfl;rw[e,Int.fdiv_eq_ediv_of_nonneg _ (by omega),Nat.pow_succ];omega
theorem Zyb:(1:Int).fdiv (2^min (Int.toNat 1) IntKind.i64.bits)=0:=rfl
theorem Zx7:∀n:Nat,∃r:Nat,r*r<=n/\n<(r+1)*(r+1):=by
 intro n;induction n with
 |zero=>exact⟨0,by simp,by simp⟩
 |succ n ih=>
  obtain⟨r,h1,h2⟩:=ih;by_cases h:n+1<(r+1)*(r+1)
  ·exact⟨r,by omega,h⟩
  ·refine⟨r+1,by omega,?_⟩;have:(r+1+1)*(r+1+1)=(r+1)*(r+1)+2*(r+1)+1:=by grind
   omega
theorem Ta {n:Nat} (hn:n<4611686018427387904):∃r:Nat,True/\r*r<=n/\n<(r+1)*(r+1)/\r<2147483648:=by
 obtain⟨r,h1,h2⟩:=Zx7 n;refine⟨r,trivial,h1,h2,?_⟩;by_cases c:r<2147483648
 ·exact c
 ·have:=dl (show 2147483648<=r by omega) (show 2147483648<=r by omega);omega
def sqD (a b:Pt):Int:=Jr (GQ a b) (GQ a b)
theorem Q7 (a b:Pt):0<=sqD a b:=by
 unfold sqD Jr;have h:∀u:Int,0<=u*u:=λu=>by rw[<-Int.natAbs_mul_self];omega
 have:=h (GQ a b).x;have:=h (GQ a b).y;have:=h (GQ a b).z;omega
theorem DY {x:Int} {A:Nat} (h:x.natAbs<=A):0<=x*x/\x*x<=((A*A:Nat):Int):=by
 have:=dl h h;rw[<-Int.natAbs_mul_self];omega
theorem PY {A:Nat} {a b:Pt} (ha:bd A a) (hb:bd A b) (hA:A<=67108864):sqD a b<=54043195528445952:=by
 have h:∀x y:Int,x.natAbs<=A->y.natAbs<=A->(x-y)*(x-y)<=18014398509481984:=by
  intro x y hx hy;exact(DY (x:=x-y) (A:=134217728) (by omega)).2
 have h1:=h _ _ ha.1 hb.1;have h2:=h _ _ ha.2.1 hb.2.1;have h3:=h _ _ ha.2.2 hb.2.2;unfold sqD Jr GQ;simp only;omega
noncomputable def AD (a b:Pt):Int:=upR (sqD a b)
theorem Qix {a b:Pt} (ha:bd 67108864 a) (hb:bd 67108864 b):True/\Iq (sqD a b) (AD a b):=by
 have h0:=Q7 a b;have h1:=PY ha hb (co _);obtain⟨d,hd⟩:=bp h0;unfold AD;rw[hd]at h1⊢;obtain⟨r,-,h2,h3,h4⟩:=Ta (n:=d) (by omega);have hu:=Q0t h2 h3;rw[Qzi hu];exact⟨trivial,hu⟩
theorem IH {a b:Pt} (ha:bd 67108864 a) (hb:bd 67108864 b):0<=AD a b/\AD a b<=268435456:=by
 obtain⟨-,h1,h2,h3⟩:=Qix ha hb;have h4:=PY ha hb (co _);refine⟨h1,?_⟩;rcases h3 with h3|h3
 ·omega
 ·by_cases c:AD a b<=268435456
  ·exact c
  ·have:=Int.mul_self_le_mul_self (a:=268435456) (b:=AD a b-1) (by omega) (by omega);omega
def I6 (n k:Int):Prop:=0<=k/\n<=k*(k+1)/\(k=0\/(k-1)*k<n)
theorem In {x:Int} {A:Nat} (h:x.natAbs<=A) (hA:A<=9223372036854775807):wrap .i64 x=x:=Ae (by omega)
theorem IB {x y:Int} {A B:Nat} (hx:x.natAbs<=A) (hy:y.natAbs<=B):(x-y).natAbs<=A+B:=by omega
theorem RX {x y:Int} {A B:Nat} (hx:x.natAbs<=A) (hy:y.natAbs<=B):(x+y).natAbs<=A+B:=by omega
theorem Qp7 {c u x:Int} {A:Nat} (hc:c.natAbs<=A) (ha:(c+x).natAbs<=A) (h:(0<=x->0<=u/\u<=x)/\(x<=0->x<=u/\u<=0)):(c+u).natAbs<=A:=by
 rcases Int.le_total 0 x with g|g
 ·have:=h.1 g;omega
 ·have:=h.2 g;omega
theorem U1 (a b:Pt):sqD a b=(a.x-b.x)*(a.x-b.x)+(a.y-b.y)*(a.y-b.y)+(a.z-b.z)*(a.z-b.z):=rfl
theorem FJ (u:Int):0<=u*u:=by rw[<-Int.natAbs_mul_self];omega
theorem V1 {a b:Pt}:sqD a b=0↔a=b:=by
 rw[U1];obtain⟨a1,a2,a3⟩:=a;obtain⟨b1,b2,b3⟩:=b;have h1:=FJ (a1-b1);have h2:=FJ (a2-b2);have h3:=FJ (a3-b3);constructor
 ·intro h;simp only at h;have e1:(a1-b1)*(a1-b1)=0:=by omega
  have e2:(a2-b2)*(a2-b2)=0:=by omega
  have e3:(a3-b3)*(a3-b3)=0:=by omega
  have z:∀u:Int,u*u=0->u=0:=λu hu=>by
   rcases Int.mul_eq_zero.1 hu with h|h<;>exact h
  have:=z _ e1;have:=z _ e2;have:=z _ e3;rw[Pt.mk.injEq];omega
 ·intro h;injection h with h4 h5 h6;subst h4 h5 h6;simp
theorem Qtr (a b:Pt):(a.x-b.x)*(a.x-b.x)<=sqD a b/\(a.y-b.y)*(a.y-b.y)<=sqD a b/\(a.z-b.z)*(a.z-b.z)<=sqD a b:=by
 rw[U1];have h1:=FJ (a.x-b.x);have h2:=FJ (a.y-b.y);have h3:=FJ (a.z-b.z);omega
noncomputable def BR (c a:Pt) (d:Int):Pt:=⟨c.x+B7 (a.x-c.x) d (sqD a c),c.y+B7 (a.y-c.y) d (sqD a c),c.z+B7 (a.z-c.z) d (sqD a c)⟩
abbrev B24:Nat:=16777216
theorem Qa8 {x r n:Int} (hx:x.natAbs<=33554432*4) (hr:0<=r/\r<=33554432*4) (hn:0<n/\n<=4611686018427387904) (hxn:x*x<=n) (hrn:r*r<=n):
  (0<=x->0<=B7 x r n/\B7 x r n<=x)/\(x<=0->x<=B7 x r n/\B7 x r n<=0):=by
 obtain⟨-,h2,h3⟩:=Sj hx hr hn hxn;have h4 := Zyr (by omega) (by
  have:((r.natAbs*r.natAbs:Nat):Int)=r*r:=Int.natAbs_mul_self;omega) h3
 unfold B7 at*;constructor
 ·intro h;rw[ab (by omega)]at h4⊢;omega
 ·intro h;by_cases c:x<0
  ·rw[aa c]at h4⊢;omega
  ·rw[ab c]at h4⊢;omega
theorem Zkh {a b:Pt} (ha:bd B24 a) (hb:bd B24 b):sqD a b<=3377699720527872:=by
 have h:∀x y:Int,x.natAbs<=B24->y.natAbs<=B24->(x-y)*(x-y)<=1125899906842624:=by
  intro x y hx hy;unfold B24 at*;exact(DY (x:=x-y) (A:=33554432) (by omega)).2
 have h1:=h _ _ ha.1 hb.1;have h2:=h _ _ ha.2.1 hb.2.1;have h3:=h _ _ ha.2.2 hb.2.2;rw[U1];omega
theorem KA {c a:Pt} {d:Int} (hc:bd B24 c) (ha:bd B24 a) (hne:a≠c) (hd:0<=d/\d<AD a c):bd B24 (BR c a d):=by
 have h0:sqD a c≠0:=λh=>hne (V1.1 h);have h1:=Q7 a c;have h2:=PY (A0 ha (by decide)) (A0 hc (by decide)) (show 67108864<=67108864 by omega);obtain⟨-,g1,g2,g3⟩:=Qix (A0 ha (show B24<=67108864 by decide)) (A0 hc (show B24<=67108864 by decide));have hl:=IH (A0 ha (show B24<=67108864 by decide)) (A0 hc (show B24<=67108864 by decide));have hdd:d*d<=sqD a c:=by
  have:=Int.mul_self_le_mul_self hd.1 (show d<=AD a c-1 by omega);omega
 have hd2:d<=33554432*4:=by
  by_cases c2:d<=33554432*4
  ·exact c2
  ·exfalso;have h3:=Int.mul_self_le_mul_self (a:=33554432*4+1) (b:=d) (by omega) (by omega);have h4:=Zkh ha hc;omega
 obtain⟨q1,q2,q3⟩:=Qtr a c;have hn:0<sqD a c/\sqD a c<=4611686018427387904:=⟨Int.lt_iff_le_and_ne.2 ⟨h1,λh=>h0 h.symm⟩,Int.le_trans h2 (by decide)⟩;have hd3:0<=d/\d<=33554432*4:=⟨hd.1,hd2⟩;have k1:=Qa8 (x:=a.x-c.x) (r:=d) (n:=sqD a c) (bv (IB ha.1 hc.1) (by decide)) hd3 hn q1 hdd;have k2:=Qa8 (x:=a.y-c.y) (r:=d) (n:=sqD a c) (bv (IB ha.2.1 hc.2.1) (by decide)) hd3 hn q2 hdd;have k3:=Qa8 (x:=a.z-c.z) (r:=d) (n:=sqD a c) (bv (IB ha.2.2 hc.2.2) (by decide)) hd3 hn q3 hdd;have e:∀x y:Int,x+(y-x)=y:=λx y=>by omega
 exact⟨Qp7 hc.1 (by rw[e];exact ha.1) k1,Qp7 hc.2.1 (by rw[e];exact ha.2.1) k2,Qp7 hc.2.2 (by rw[e];exact ha.2.2) k3⟩
def Gh (p c q:Pt):Pt:=⟨p.x-c.x+(q.x-c.x),p.y-c.y+(q.y-c.y),p.z-c.z+(q.z-c.z)⟩
def H7 (p c q:Pt):Int:=Jr (Gh p c q) (Gh p c q)
theorem Zla {p c q:Pt} (hp:bd B24 p) (hc:bd B24 c) (hq:bd B24 q):bd 67108864 (Gh p c q):=by
 unfold bd B24 Gh at*;simp only;omega
def Gt (a c b:Pt) (tol d:Int):Prop:=d<=mn (AD a c) (AD c b)-2/\H7 (BR c a d) c (BR c b d)<=16*tol*tol
theorem Ti (x y:Int):mn x y<=x/\mn x y<=y:=by unfold mn;split<;>omega
theorem Z5p (a b:Pt):sqD a b=sqD b a:=by
 unfold sqD;exact Z1g a b
theorem Uv (a b:Pt):AD a b=AD b a:=by unfold AD;rw[Z5p]
open Classical in
noncomputable def FH (P:Int->Prop):Nat->Int->Int
 |0,d=>if P (d+1)then d+1 else d
 |k+1,d=>FH P k (if P (d+((2^(k+1):Nat):Int))then d+((2^(k+1):Nat):Int)else d)
open Classical in
theorem Q1w {P:Int->Prop}:∀(k:Nat) (d:Int),d<=FH P k d/\FH P k d<d+((2^(k+1):Nat):Int)/\(FH P k d=d\/P (FH P k d))
 |0,d=>by
  have e:((2^(0+1):Nat):Int)=2:=rfl;rw[e];unfold FH;split
  ·rename_i h;exact⟨by omega,by omega, .inr h⟩
  ·exact⟨by omega,by omega, .inl rfl⟩
 |k+1,d=>by
  unfold FH;have hp:0<2^(k+1):=Nat.two_pow_pos _;have e3:2^(k+1+1)=2^(k+1)+2^(k+1):=by rw[Nat.pow_succ 2 (k+1)];omega
  rw[e3];have hif:(if P (d+((2^(k+1):Nat):Int))then d+((2^(k+1):Nat):Int)else d)=d\/((if P (d+((2^(k+1):Nat):Int))then d+((2^(k+1):Nat):Int)else d)=d+((2^(k+1):Nat):Int)/\P (if P (d+((2^(k+1):Nat):Int))then d+((2^(k+1):Nat):Int)else d)):=by
   split
   ·rename_i h;exact .inr ⟨rfl,h⟩
   ·exact .inl rfl
  generalize(if P (d+((2^(k+1):Nat):Int))then d+((2^(k+1):Nat):Int)else d)=d' at*;obtain⟨h1,h2,h3⟩:=Q1w (P:=P) k d';generalize FH P k d'=x at*;generalize 2^(k+1)=m at*;rcases hif with hif|⟨hif,hP⟩
  ·subst hif;exact⟨by omega,by omega,h3⟩
  ·refine⟨by omega,by omega, .inr ?_⟩;rcases h3 with h3|h3
   ·rw[h3];exact hP
   ·exact h3
open Classical in
noncomputable def Dn (a c b:Pt) (tol:Int):Int:=if a=c\/b=c then 0 else if FH (Gt a c b tol) 24 0<16 then 0 else FH (Gt a c b tol) 24 0
theorem YB {a c b:Pt} {tol:Int} (h:Dn a c b tol≠0):a≠c/\b≠c/\16<=Dn a c b tol/\Dn a c b tol<33554432/\Gt a c b tol (Dn a c b tol):=by
 unfold Dn at*;split at h
 ·exact absurd rfl h
 ·rename_i h1;rw[ab h1];split at h
  ·exact absurd rfl h
  ·rename_i h2;rw[ab h2];obtain⟨h3,h4,h5⟩:=Q1w (P:=Gt a c b tol) 24 0;have e:((2^(24+1):Nat):Int)=33554432:=rfl;rw[e]at h4;refine⟨λh=>h1 (.inl h),λh=>h1 (.inr h),by omega,by omega,?_⟩;rcases h5 with h5|h5
   ·omega
   ·exact h5
theorem Dt {a b:Pt}:a=b↔a.x=b.x/\a.y=b.y/\a.z=b.z:=by
 obtain⟨a1,a2,a3⟩:=a;obtain⟨b1,b2,b3⟩:=b;simp
def Mq (bend:Int):Nat->Int->Int
 |0,n=>n
 |k+1,n=>if n<64/\bend>16*n*n*n*n*4*4 then Mq bend k (n*2)else n
def KC (n:Int):Prop:=n=2\/n=4\/n=8\/n=16\/n=32\/n=64
def LW (p c q:Pt):Int:=Mq (H7 p c q) 5 2
theorem Q38 (b:Int):∀(k:Nat) (n:Int),KC n->KC (Mq b k n)
 |0,n,h=>by unfold Mq;exact h
 |k+1,n,h=>by
  unfold Mq;split
  ·rename_i c;refine Q38 b k (n*2) ?_;rcases h with rfl|rfl|rfl|rfl|rfl|rfl<;>simp[KC]at c⊢
  ·exact h
theorem Qc2 {p c q:Pt} (hp:bd B24 p) (hc:bd B24 c) (hq:bd B24 q):True/\KC (LW p c q):=⟨trivial,Q38 _ 5 2 (.inl rfl)⟩
def Ou (n i p c q:Int):Int:=c+Br ((n-i)*(n-i)*(p-c)+i*i*(q-c)) (n*n)
def Nh (n i:Int) (p c q:Pt):Pt:=⟨Ou n i p.x c.x q.x,Ou n i p.y c.y q.y,Ou n i p.z c.z q.z⟩
theorem RS {a b n:Int} (hn:0<n) (h:a<=b):Br a n<=Br b n:=by
 unfold Br;exact Int.ediv_le_ediv (by omega) (by omega)
theorem RF {k n:Int} (hn:0<n):Br (k*n) n=k:=Ly hn (by rw[show k*(2*n)=2*(k*n) by grind];omega) (by rw[show(k+1)*(2*n)=2*(k*n)+2*n by grind];omega)
theorem Ne {n i p c q:Int} {A:Nat} (hn:0<n) (hi:0<=i/\i<=n) (hp:p.natAbs<=A) (hc:c.natAbs<=A) (hq:q.natAbs<=A):(Ou n i p c q).natAbs<=A:=by
 have hnn:0<n*n:=Int.mul_pos hn hn;have h1:0<=(n-i)*(n-i):=FJ _;have h2:0<=i*i:=FJ _;have h3:(n-i)*(n-i)+i*i<=n*n:=by
  have:n*n-((n-i)*(n-i)+i*i)=2*(i*(n-i)):=by grind
  have:0<=i*(n-i):=Int.mul_nonneg hi.1 (by omega);omega
 have key:∀s:Int,(s=1\/s= -1)->s*((n-i)*(n-i)*(p-c)+i*i*(q-c))<=(A-s*c)*(n*n):=by
  intro s hs;have hp':s*p<=A:=by rcases hs with rfl|rfl<;>omega
  have hc':s*c<=A:=by rcases hs with rfl|rfl<;>omega
  have hq':s*q<=A:=by rcases hs with rfl|rfl<;>omega
  have g1:(n-i)*(n-i)*(s*p-s*c)<=(n-i)*(n-i)*(A-s*c):=Int.mul_le_mul_of_nonneg_left (by omega) h1;have g2:i*i*(s*q-s*c)<=i*i*(A-s*c):=Int.mul_le_mul_of_nonneg_left (by omega) h2;have g3:((n-i)*(n-i)+i*i)*(A-s*c)<=n*n*(A-s*c):=Int.mul_le_mul_of_nonneg_right h3 (by omega);have e1:s*((n-i)*(n-i)*(p-c)+i*i*(q-c))=(n-i)*(n-i)*(s*p-s*c)+i*i*(s*q-s*c):=by grind
  have e2:((n-i)*(n-i)+i*i)*(A-s*c)=(n-i)*(n-i)*(A-s*c)+i*i*(A-s*c):=Int.add_mul ..;have e3:(A-s*c)*(n*n)=n*n*(A-s*c):=Int.mul_comm ..;omega
 unfold Ou;have k1:=RS hnn (key 1 (.inl rfl)|>λh=>(by rw[Int.one_mul,Int.one_mul]at h;exact h));rw[RF hnn]at k1;have k2:=key (-1) (.inr rfl);have k3:(-(A:Int)-c)*(n*n)<=(n-i)*(n-i)*(p-c)+i*i*(q-c):=by
  have e:(-(A:Int)-c)*(n*n)= -((A- -1*c)*(n*n)):=by grind
  omega
 have k4:=RS hnn k3;rw[RF hnn]at k4;omega
noncomputable def F0 (a c b:Pt) (tol:Int):List Pt:=
 if Dn a c b tol=0 then [c]
 else(List.range ((LW (BR c a (Dn a c b tol)) c (BR c b (Dn a c b tol))).toNat+1)).map fun(i:Nat)=>Nh (LW (BR c a (Dn a c b tol)) c (BR c b (Dn a c b tol))) i (BR c a (Dn a c b tol)) c (BR c b (Dn a c b tol))
theorem Q4u {a c b:Pt} {tol:Int} (ha:bd B24 a) (hc:bd B24 c) (hb:bd B24 b):(∀p∈F0 a c b tol,bd B24 p)/\1<=(F0 a c b tol).length/\(F0 a c b tol).length<=65:=by
 unfold F0;by_cases h:Dn a c b tol=0
 ·rw[aa h];simp;exact hc
 ·rw[ab h];obtain⟨h1,h2,h3,h4,h5,-⟩:=YB h;obtain⟨m1,m2⟩:=Ti (AD a c) (AD c b);generalize Dn a c b tol=d at*;have k1:bd B24 (BR c a d):=KA hc ha h1 (by omega);have k2:bd B24 (BR c b d):=KA hc hb h2 (by rw[Uv b c];omega);have k3:=(Qc2 k1 hc k2).2;generalize LW (BR c a d) c (BR c b d)=n at*;have hn:2<=n/\n<=64:=by rcases k3 with rfl|rfl|rfl|rfl|rfl|rfl<;>omega
  refine⟨?_,by simp,by simp;omega⟩;intro p hp;simp only[ba,List.mem_range]at hp;obtain⟨i,hi,rfl⟩:=hp;exact⟨Ne (by omega) (by omega) k1.1 hc.1 k2.1,Ne (by omega) (by omega) k1.2.1 hc.2.1 k2.2.1,Ne (by omega) (by omega) k1.2.2 hc.2.2 k2.2.2⟩
theorem Q28 {v n:Int} (_:i64 v) (hn:0<n/\n<=4611686018427387904):Ib [I v,I n]=some [I (v%n)]:=by
 unfold Ib;rw[Zsp,A7 (by omega),A7 (by omega)];have h1: -n<v.tmod n/\v.tmod n<n:=by
  have a1:=Int.tmod_lt_of_pos v hn.1;have a2:=Int.lt_tmod_of_pos v hn.1;omega
 rw[Ae (by omega)];have h2:(v.tmod n+n).tmod n=v%n:=by
  rw[Int.tmod_eq_emod_of_nonneg (by omega),Int.add_emod_right];have h3:=Int.tmod_add_mul_tdiv v n;have h4:v%n=(v.tmod n+n*v.tdiv n)%n:=by rw[h3]
  rw[h4,Int.add_mul_emod_self_left]
 rw[h2]
def Src (l:Rw):Prop:=l.length<=9223372036854775807/\∀c∈l,i64 (Af (nth .dead c 0))
theorem Zlv {l:Rw} {i:Nat} (h:i<l.length):nth [] l i∈l:=by rw[GF [] l i h];exact bq h
theorem Zvx {M:Fn} (hM:∀v n:Int,i64 v->0<n/\n<=4611686018427387904->M [I v,I n]=some [I (v%n)]) {l:Rw} (hl:Src l) {k:Nat} {n:Int} (hn:0<n/\n<=4611686018427387904):
  ∃(v:Int) (k':Nat),Qg7 M [I n, .view Aa l,I k]=some [I v, .view Aa l,I k']/\0<=v/\v<n/\k<=k'/\(k<l.length->k'=k+1)/\(l.length<=k->k'=k):=by
 have hl1:=hl.1;rw[Zc5];by_cases h:k<l.length
 ·have h1:=hM _ n (hl.2 _ (Zlv h)) hn;simp only[go_sem,ak,h1];rw[ab (by omega),aa (by omega),Ae (by omega)];exact⟨_,k+1,rfl,Int.emod_nonneg _ (by omega),Int.emod_lt_of_pos _ hn.1,by omega,λ_=>rfl,by omega⟩
 ·simp only[go_sem];rw[aa (by omega)];exact⟨0,k,rfl,by omega,hn.1,by omega,by omega,λ_=>rfl⟩
theorem Zkt {l:Rw} (hl:Src l) (k:Nat) {n:Int} (hn:0<n/\n<=4611686018427387904):
  ∃(v:Int) (k':Nat),BG [I n, .view Aa l,I k]=some [I v, .view Aa l,I k']/\0<=v/\v<n/\k<=k'/\(k<l.length->k'=k+1)/\(l.length<=k->k'=k):=
 Zvx (λ_ _ hv hn=>Q28 hv hn) hl hn
theorem Q9h (l:Rw) (k:Nat):F5 [.view Aa l,I k]=some [B (decide (k<l.length)), .view Aa l,I k]:=by
 unfold F5;rw[Zty];congr 3;simp
theorem Ri (l:Rw):CG [.view Aa l]=some [.view Aa l,I 0]:=by
 unfold CG;rw[Zoh]
def AT (r:Int) (k:Int):Int:=if k%4=0 then r else if k%4=2 then-r else 0
def AU (r:Int) (k:Int):Int:=if k%4=1 then r else if k%4=3 then-r else 0
theorem Zu7 {r k:Int} (hr:0<=r/\r<=1000000) (hk:0<=k/\k<=1000):Ni [I r,I k]=some [I (AT r k),I (AU r k)]:=by
 unfold Ni;rw[Zod,Ae (by omega),Int.tmod_eq_emod_of_nonneg hk.1];have hc:k%4=0\/k%4=1\/k%4=2\/k%4=3:=by omega
 unfold AT AU;rcases hc with h|h|h|h<;>rw[h]<;>simp[nth,Af]
def plU (pl:Int) (p:Pt):Int:=if pl=17 then p.x else if pl=18 then p.z else p.y
def plW (pl:Int) (p:Pt):Int:=if pl=17 then p.y else if pl=18 then p.x else p.z
def plH (pl:Int) (p:Pt):Int:=if pl=17 then p.z else if pl=18 then p.y else p.x
def spP (pl u w h:Int):Pt:=if pl=17 then⟨u,w,h⟩else if pl=18 then⟨w,h,u⟩else⟨h,u,w⟩
def Db (pl:Int):Prop:=pl=17\/pl=18\/pl=19
theorem Z50 {p:Pt} {pl:Int} (h:Db pl):Nw [I p.x,I p.y,I p.z,I pl]=some [I (plU pl p),I (plW pl p),I (plH pl p)]:=by
 unfold Nw;rw[Zxt];rcases h with rfl|rfl|rfl<;>rfl
theorem Zvp {u w h pl:Int} (hp:Db pl):Pb [I u,I w,I h,I pl]=some (ptR (spP pl u w h)):=by
 unfold Pb;rw[Zj6];rcases hp with rfl|rfl|rfl<;>rfl
theorem OC {pl u w h:Int} (hp:Db pl):plU pl (spP pl u w h)=u/\plW pl (spP pl u w h)=w/\plH pl (spP pl u w h)=h:=by
 rcases hp with rfl|rfl|rfl<;>exact⟨rfl,rfl,rfl⟩
structure ArcMade (size : Int) (it : Itm) : Prop where
 kind:it.kind=3
 aG:Db it.aG
 dir:it.dir=1\/it.dir= -1
 ends:∃r k t g h:Int,8<=r/\r<8+size/\0<=k/\k<=3/\0<=t/\t<=3/\0<=g/\g<=4/\(h=0\/h=7\/h= -12)/\(t=0->g=0)/\it.full=decide (t=0)/\
  it.ce=spP it.aG (plU it.aG it.fr-AT r k) (plW it.aG it.fr-AU r k) (plH it.aG it.fr)/\
  it.to=spP it.aG (plU it.aG it.fr-AT r k+AT (r+g) (k+t)) (plW it.aG it.fr-AU r k+AU (r+g) (k+t)) (plH it.aG it.fr+h)
theorem NS {r k:Int} (hr:0<=r):(-r<=AT r k/\AT r k<=r)/\(-r<=AU r k/\AU r k<=r):=by
 unfold AT AU;constructor<;>constructor<;>split<;>(try split)<;>omega
theorem Z2e {r:Int} (hr:1<=r) (k:Int):((AT r k).tdiv r=AT 1 k)/\((AU r k).tdiv r=AU 1 k):=by
 have h1:r.tdiv r=1:=Int.tdiv_self (by omega);have h2:(-r).tdiv r= -1:=by rw[Int.neg_tdiv,h1]
 unfold AT AU;constructor<;>split<;>(try split)<;>simp[h1,h2]
theorem Zjf (r k e f:Int):∃g,(g=e\/g=f)/\AT r k+AT 1 k*e=AT (r+g) k/\AU r k+AU 1 k*f=AU (r+g) k:=by
 unfold AT AU;by_cases h:k%4=0\/k%4=2
 ·refine⟨e, .inl rfl,?_,?_⟩
  ·rcases h with h|h<;>simp[h]<;>omega
  ·rcases h with h|h<;>simp[h]
 ·have hc:k%4=1\/k%4=3:=by omega
  refine⟨f, .inr rfl,?_,?_⟩
  ·rcases hc with h|h<;>simp[h]
  ·rcases hc with h|h<;>simp[h]<;>omega
theorem HK {pl:Int} {p:Pt} {b:Nat} (h:bd b p):(plU pl p).natAbs<=b/\(plW pl p).natAbs<=b/\(plH pl p).natAbs<=b:=by
 obtain⟨h1,h2,h3⟩:=h;unfold plU plW plH;refine⟨?_,?_,?_⟩<;>split<;>(try split)<;>assumption
def GI (l:Rw) (M:Fn):Prop:=∀(k:Nat) {n:Int},0<n/\n<=4611686018427387904->
  ∃(v:Int) (k':Nat),M [I n, .view Aa l,I k]=some [I v, .view Aa l,I k']/\0<=v/\v<n/\k<=k'/\(k<l.length->k'=k+1)/\(l.length<=k->k'=k)
abbrev FF (it:Itm):Prop:=it.block=0/\it.side=0/\it.radius=0/\it.speed=0/\it.on=false
theorem Zli {v:Int} (h:0<=v/\v<3):Af (nth .dead (nth [] [[I 17],[I 18],[I 19]] v.toNat) 0)=17+v:=by
 have hc:v=0\/v=1\/v=2:=by omega
 rcases hc with rfl|rfl|rfl<;>rfl
theorem Qxp {v:Int} (h:0<=v/\v<4):∃x,Af (nth .dead (nth [] [[I 0],[I 0],[I 7],[I (-12)]] v.toNat) 0)=x/\(x=0\/x=7\/x= -12):=by
 have hc:v=0\/v=1\/v=2\/v=3:=by omega
 rcases hc with rfl|rfl|rfl|rfl<;>exact⟨_,rfl,by decide⟩
theorem Zyk {MS MT MP MN:Fn} {l:Rw} (hN:GI l MN)
  (hP:∀{p:Pt} {pl:Int},Db pl->MP [I p.x,I p.y,I p.z,I pl]=some [I (plU pl p),I (plW pl p),I (plH pl p)])
  (hS:∀{u w h pl:Int},Db pl->MS [I u,I w,I h,I pl]=some (ptR (spP pl u w h)))
  (hT:∀{r k:Int},(0<=r/\r<=1000000)->(0<=k/\k<=1000)->MT [I r,I k]=some [I (AT r k),I (AU r k)])
  {p:Pt} (hp:bd 100000000 p) {size:Int} (hs:0<size/\size<=100000) (k:Nat):
  ∃(it:Itm) (k':Nat),Qiq MS MT MP MN [I p.x,I p.y,I p.z,I size, .view Aa l,I k]=some (Ah it++[.view Aa l,I k'])/\k<=k'/\it.fr=p/\ArcMade size it/\
   it.feed=0/\it.perRev=false/\it.blend=0/\it.n=0/\FF it:=by
 obtain⟨v1,k1,e1,a1,b1,c1,-,-⟩:=hN k (n:=3) (by omega);obtain⟨v2,k2,e2,a2,b2,c2,-,-⟩:=hN k1 (n:=2) (by omega);obtain⟨v3,k3,e3,a3,b3,c3,-,-⟩:=hN k2 (n:=size) (by omega);obtain⟨v4,k4,e4,a4,b4,c4,-,-⟩:=hN k3 (n:=4) (by omega);obtain⟨v5,k5,e5,a5,b5,c5,-,-⟩:=hN k4 (n:=4) (by omega);rw[Zh8];simp only[go_sem,e1,e2,e3,e4,e5];rw[aa (by simp;omega)];have hpl:Db (17+v1):=by unfold Db;omega
 have w1:wrap .i64 (8+v3)=8+v3:=Ae (by omega);have w2:wrap .i64 (v4+v5)=v4+v5:=Ae (by omega);simp only[Zli ⟨a1,b1⟩,hP hpl,go_sem,w1,w2,hT (r:=8+v3) (k:=v4) (by omega) (by omega),hT (r:=8+v3) (k:=v4+v5) (by omega) (by omega),hS hpl];obtain⟨q1,q2,q3⟩:=HK (pl:=17+v1) hp;obtain⟨⟨r1,r2⟩,r3,r4⟩:=NS (r:=8+v3) (k:=v4) (by omega);obtain⟨⟨r5,r6⟩,r7,r8⟩:=NS (r:=8+v3) (k:=v4+v5) (by omega);obtain⟨d1,d2⟩:=Z2e (r:=8+v3) (by omega) (v4+v5);obtain⟨⟨r9,r10⟩,r11,r12⟩:=NS (r:=1) (k:=v4+v5) (by omega);have w3:wrap .i64 (plU (17+v1) p-AT (8+v3) v4)=plU (17+v1) p-AT (8+v3) v4:=Ae (by omega);have w4:wrap .i64 (plW (17+v1) p-AU (8+v3) v4)=plW (17+v1) p-AU (8+v3) v4:=Ae (by omega);have w5:wrap .i64 (1-wrap .i64 (v2*2))=1-v2*2:=by rw[Ae (x:=v2*2) (by omega),Ae (by omega)]
 have w6:wrap .i64 (plU (17+v1) p-AT (8+v3) v4+AT (8+v3) (v4+v5))=plU (17+v1) p-AT (8+v3) v4+AT (8+v3) (v4+v5):=Ae (by omega);have w7:wrap .i64 (plW (17+v1) p-AU (8+v3) v4+AU (8+v3) (v4+v5))=plW (17+v1) p-AU (8+v3) v4+AU (8+v3) (v4+v5):=Ae (by omega);rw[w3,w4,w5,w6,w7];have hdir:1-v2*2=1\/1-v2*2= -1:=by omega
 have fin:∀(g:Int) (u w:Int) (k8:Nat),k5<=k8->0<=g->g<=4->(v5=0->g=0)->u=AT (8+v3+g) (v4+v5)->w=AU (8+v3+g) (v4+v5)->∀v9:Int,0<=v9/\v9<4->
   ∃it:Itm,[I 3,I 0,I p.x,I p.y,I p.z,I (spP (17+v1) (plU (17+v1) p-AT (8+v3) v4+u) (plW (17+v1) p-AU (8+v3) v4+w) (plH (17+v1) p+Af (nth .dead (nth [] [[I 0],[I 0],[I 7],[I (-12)]] v9.toNat) 0))).x,
    I (spP (17+v1) (plU (17+v1) p-AT (8+v3) v4+u) (plW (17+v1) p-AU (8+v3) v4+w) (plH (17+v1) p+Af (nth .dead (nth [] [[I 0],[I 0],[I 7],[I (-12)]] v9.toNat) 0))).y,
    I (spP (17+v1) (plU (17+v1) p-AT (8+v3) v4+u) (plW (17+v1) p-AU (8+v3) v4+w) (plH (17+v1) p+Af (nth .dead (nth [] [[I 0],[I 0],[I 7],[I (-12)]] v9.toNat) 0))).z,
    I (17+v1),I (spP (17+v1) (plU (17+v1) p-AT (8+v3) v4) (plW (17+v1) p-AU (8+v3) v4) (plH (17+v1) p)).x,I (spP (17+v1) (plU (17+v1) p-AT (8+v3) v4) (plW (17+v1) p-AU (8+v3) v4) (plH (17+v1) p)).y,I (spP (17+v1) (plU (17+v1) p-AT (8+v3) v4) (plW (17+v1) p-AU (8+v3) v4) (plH (17+v1) p)).z,
    I (1-v2*2),B (decide (v5=0)),I 0,B false,I 0,I 0,I 0,I 0,I 0,B false, .view Aa l,I k8]=Ah it++[.view Aa l,I k8]/\it.fr=p/\ArcMade size it/\it.feed=0/\it.perRev=false/\it.blend=0/\it.n=0/\FF it:=by
  intro g u w k8 hk8 hg0 hg4 hg5 hu hw v9 hv9;obtain⟨x,hx,hx3⟩:=Qxp hv9;rw[hx];refine⟨⟨3,0,p,_,17+v1,_,1-v2*2,decide (v5=0),0,false,0,0,0,0,0,false⟩,rfl,rfl,⟨rfl,hpl,hdir,8+v3,v4,v5,g,x,?_⟩,rfl,rfl,rfl,rfl,rfl,rfl,rfl,rfl,rfl⟩;subst hu hw;exact⟨by omega,by omega,by omega,by omega,by omega,by omega,hg0,hg4,hx3,hg5,rfl,rfl,rfl⟩
 have hgh:∀v9:Int,0<=v9/\v9<4->wrap .i64 (plH (17+v1) p+Af (nth .dead (nth [] [[I 0],[I 0],[I 7],[I (-12)]] v9.toNat) 0))=plH (17+v1) p+Af (nth .dead (nth [] [[I 0],[I 0],[I 7],[I (-12)]] v9.toNat) 0):=by
  intro v9 hv9;obtain⟨x,hx,hx3⟩:=Qxp hv9;rw[hx];exact Ae (by omega)
 have hfull:(v5==0)=decide (v5=0):=rfl;by_cases hv5:v5>0
 ·rw[aa hv5];obtain⟨v6,k6,e6,a6,b6,c6,-,-⟩:=hN k5 (n:=3) (by omega);simp only[go_sem,e6];by_cases hv6:v6=0
  ·rw[aa hv6,ab (by omega)];obtain⟨v7,k7,e7,a7,b7,c7,-,-⟩:=hN k6 (n:=5) (by omega);obtain⟨v8,k8,e8,a8,b8,c8,-,-⟩:=hN k7 (n:=5) (by omega);obtain⟨v9,k9,e9,a9,b9,c9,-,-⟩:=hN k8 (n:=4) (by omega);simp only[go_sem,e7,e8,e9];rw[ab (by omega),aa (by simp;omega),hgh v9 ⟨a9,b9⟩,d1,d2];obtain⟨g,hg,hu,hw⟩:=Zjf (8+v3) (v4+v5) v7 v8;have mu: -4<=AT 1 (v4+v5)*v7/\AT 1 (v4+v5)*v7<=4:=by
    have hc:AT 1 (v4+v5)= -1\/AT 1 (v4+v5)=0\/AT 1 (v4+v5)=1:=by omega
    rcases hc with h|h|h<;>rw[h]<;>omega
   have mw: -4<=AU 1 (v4+v5)*v8/\AU 1 (v4+v5)*v8<=4:=by
    have hc:AU 1 (v4+v5)= -1\/AU 1 (v4+v5)=0\/AU 1 (v4+v5)=1:=by omega
    rcases hc with h|h|h<;>rw[h]<;>omega
   rw[Ae (x:=AT 1 (v4+v5)) (by omega),Ae (x:=AU 1 (v4+v5)) (by omega),Ae (x:=AT 1 (v4+v5)*v7) (by omega),Ae (x:=AU 1 (v4+v5)*v8) (by omega),
    Ae (x:=AT (8+v3) (v4+v5)+_) (by omega),Ae (x:=AU (8+v3) (v4+v5)+_) (by omega),hu,hw]
   obtain⟨⟨s1,s2⟩,s3,s4⟩:=NS (r:=8+v3+g) (k:=v4+v5) (by omega);rw[Ae (x:=_+AT (8+v3+g) (v4+v5)) (by omega),Ae (x:=_+AU (8+v3+g) (v4+v5)) (by omega)];obtain⟨it,h1,h2⟩:=fin g _ _ k9 (by omega) (by omega) (by omega) (by omega) rfl rfl v9 ⟨a9,b9⟩;refine⟨it,k9,?_,by omega,h2⟩;exact congrArg some h1
  ·rw[ab hv6];obtain⟨v9,k9,e9,a9,b9,c9,-,-⟩:=hN k6 (n:=4) (by omega);simp only[go_sem,e9];rw[aa (by simp;omega),hgh v9 ⟨a9,b9⟩];obtain⟨it,h1,h2⟩:=fin 0 _ _ k9 (by omega) (by omega) (by omega) (by omega) (by rw[dc]) (by rw[dc]) v9 ⟨a9,b9⟩;refine⟨it,k9,?_,by omega,h2⟩;exact congrArg some h1
 ·rw[ab hv5];obtain⟨v9,k9,e9,a9,b9,c9,-,-⟩:=hN k5 (n:=4) (by omega);simp only[go_sem,e9];rw[aa (by simp;omega),hgh v9 ⟨a9,b9⟩];obtain⟨it,h1,h2⟩:=fin 0 _ _ k9 (by omega) (by omega) (by omega) (by omega) (by rw[dc]) (by rw[dc]) v9 ⟨a9,b9⟩;refine⟨it,k9,?_,by omega,h2⟩;exact congrArg some h1
theorem HB {l:Rw} (hl:Src l):GI l BG:=λk _ hn=>Zkt hl k hn
theorem Zin {l:Rw} (hl:Src l) {p:Pt} (hp:bd 100000000 p) {size:Int} (hs:0<size/\size<=100000) (k:Nat):
  ∃(it:Itm) (k':Nat),QL [I p.x,I p.y,I p.z,I size, .view Aa l,I k]=some (Ah it++[.view Aa l,I k'])/\k<=k'/\it.fr=p/\ArcMade size it/\
   it.feed=0/\it.perRev=false/\it.blend=0/\it.n=0/\FF it:=
 Zyk (HB hl) Z50 Zvp Zu7 hp hs k
structure Made (it : Itm) : Prop where
 kind:1<=it.kind/\it.kind<=6
 line:it.kind≠3->(it.to.x-it.fr.x).natAbs<=16/\(it.to.y-it.fr.y).natAbs<=16/\(it.to.z-it.fr.z).natAbs<=16
 arc:it.kind=3->ArcMade 8 it
 feed:it.kind≠1->1<=it.feed/\it.feed<=60000000
 blend:0<=it.blend/\it.blend<=9
 sync:it.kind=5\/it.kind=6->it.blend=0/\it.feed<=60
 free:it.kind<=4->it.perRev=false
 full:it.kind≠3->it.full=false
theorem Q57 {v:Int} (h:0<=v/\v<5):∃x,Af (nth .dead (nth [] [[I 300000],[I 1],[I 60000],[I 2000000],[I 60000000]] v.toNat) 0)=x/\1<=x/\x<=60000000:=by
 have hc:v=0\/v=1\/v=2\/v=3\/v=4:=by omega
 rcases hc with rfl|rfl|rfl|rfl|rfl<;>exact⟨_,rfl,by decide⟩
theorem Q3b {v:Int} (h:0<=v/\v<5):∃x,Af (nth .dead (nth [] [[I 0],[I 1],[I 2],[I 4],[I 9]] v.toNat) 0)=x/\0<=x/\x<=9:=by
 have hc:v=0\/v=1\/v=2\/v=3\/v=4:=by omega
 rcases hc with rfl|rfl|rfl|rfl|rfl<;>exact⟨_,rfl,by decide⟩
theorem Z4r {size:Int} {it:Itm} (h:ArcMade size it) (f b:Int) (pr:Bool) (n:Int):ArcMade size {it with feed:=f,blend:=b,perRev:=pr,n:=n}:=⟨h.kind,h.aG,h.dir,h.ends⟩
theorem Zwu {MA MN:Fn} {l:Rw} (hN:GI l MN)
  (hA:∀{p:Pt},bd 100000000 p->∀k:Nat,∃(it:Itm) (k':Nat),MA [I p.x,I p.y,I p.z,I 8, .view Aa l,I k]=some (Ah it++[.view Aa l,I k'])/\k<=k'/\it.fr=p/\ArcMade 8 it/\it.feed=0/\it.perRev=false/\it.blend=0/\it.n=0/\FF it)
  {p:Pt} (hp:bd 100000000 p) {kind:Int} (hk:1<=kind/\kind<=6) (k:Nat):
  ∃(it:Itm) (k':Nat),Qo1 MN MA [I p.x,I p.y,I p.z,I kind, .view Aa l,I k]=some (Ah it++[.view Aa l,I k'])/\k<=k'/\it.fr=p/\it.kind=kind/\Made it/\FF it:=by
 rw[Z5e];obtain⟨hp1,hp2,hp3⟩:=hp;by_cases h3:kind=3
 ·subst h3;obtain⟨it,k1,e1,c1,g1,g2,g3,g4,g5,g6,g7,g8,g9,g10,g11⟩:=hA ⟨hp1,hp2,hp3⟩ k;obtain⟨v2,k2,e2,a2,b2,c2,-,-⟩:=hN k1 (n:=5) (by omega);obtain⟨v3,k3,e3,a3,b3,c3,-,-⟩:=hN k2 (n:=5) (by omega);simp only[go_sem,e1,Ah,ay,av,e2,e3];rw[ab (by omega),aa (by simp;omega),aa (by simp;omega),ab (by omega),ab (by omega),ab (by omega)];obtain⟨f,hf,hf1,hf2⟩:=Q57 ⟨a2,b2⟩;obtain⟨b,hb,hb1,hb2⟩:=Q3b ⟨a3,b3⟩;rw[hf,hb];have hka:=g2.kind;refine⟨{it with feed:=f,blend:=b,perRev:=it.perRev,n:=it.n},k3,rfl,by omega,g1,hka,⟨?_,?_,?_,?_,?_,?_,?_,?_⟩,g7,g8,g9,g10,g11⟩
  ·show 1<=it.kind/\it.kind<=6;omega
  ·exact λh=>absurd hka h
  ·exact λ_=>Z4r g2 f b _ _
  ·exact λ_=>⟨hf1,hf2⟩
  ·exact⟨hb1,hb2⟩
  ·intro h;change it.kind=5\/it.kind=6 at h;omega
  ·exact λ_=>g4
  ·exact λh=>absurd hka h
 ·simp only[go_sem];rw[ab h3];obtain⟨v1,k1,e1,a1,b1,c1,-,-⟩:=hN k (n:=25) (by omega);obtain⟨v2,k2,e2,a2,b2,c2,-,-⟩:=hN k1 (n:=25) (by omega);obtain⟨v3,k3,e3,a3,b3,c3,-,-⟩:=hN k2 (n:=3) (by omega);obtain⟨v4,k4,e4,a4,b4,c4,-,-⟩:=hN k3 (n:=9) (by omega);obtain⟨v5,k5,e5,a5,b5,c5,-,-⟩:=hN k4 (n:=2) (by omega);simp only[go_sem,e1,e2,e3,e4,e5];have hm:0<=v3*v4/\v3*v4<=16:=by
   have hc:v3=0\/v3=1\/v3=2:=by omega
   rcases hc with rfl|rfl|rfl<;>omega
  generalize v3*v4=m at hm;have w1:wrap .i64 (wrap .i64 (p.x+v1)-12)=p.x+v1-12:=by rw[Ae (x:=p.x+v1) (by omega),Ae (by omega)]
  have w2:wrap .i64 (wrap .i64 (p.y+v2)-12)=p.y+v2-12:=by rw[Ae (x:=p.y+v2) (by omega),Ae (by omega)]
  have w3:wrap .i64 (wrap .i64 (p.z+wrap .i64 m)-wrap .i64 (8*v5))=p.z+m-8*v5:=by
   rw[Ae (x:=m) (by omega),Ae (x:=p.z+m) (by omega),Ae (x:=8*v5) (by omega),Ae (by omega)]
  rw[w1,w2,w3]
  have mk:∀(f b n:Int) (pr:Bool),(kind≠1->1<=f/\f<=60000000)->(0<=b/\b<=9)->(kind=5\/kind=6->b=0/\f<=60)->(kind<=4->pr=false)->
    ∃it:Itm,Ah it=[I kind,I 0,I p.x,I p.y,I p.z,I (p.x+v1-12),I (p.y+v2-12),I (p.z+m-8*v5),I 0,I 0,I 0,I 0,I 0,B false,I f,B pr,I 0,I 0,I b,I n,I 0,B false]/\it.fr=p/\it.kind=kind/\Made it/\FF it:=by
   intro f b n pr h1 h2 h4 h5;refine⟨⟨kind,0,p,⟨p.x+v1-12,p.y+v2-12,p.z+m-8*v5⟩,0,⟨0,0,0⟩,0,false,f,pr,0,0,b,n,0,false⟩,rfl,rfl,rfl,⟨hk,λ_=> ?_,λh=>absurd h h3,h1,h2,h4,h5,λ_=>rfl⟩,rfl,rfl,rfl,rfl,rfl⟩;show(p.x+v1-12-p.x).natAbs<=16/\(p.y+v2-12-p.y).natAbs<=16/\(p.z+m-8*v5-p.z).natAbs<=16;omega
  have en:∀(f b n:Int) (pr:Bool) (k':Nat),k<=k'->(kind≠1->1<=f/\f<=60000000)->(0<=b/\b<=9)->(kind=5\/kind=6->b=0/\f<=60)->(kind<=4->pr=false)->
    ∃(it:Itm) (k'':Nat),some [I kind,I 0,I p.x,I p.y,I p.z,I (p.x+v1-12),I (p.y+v2-12),I (p.z+m-8*v5),I 0,I 0,I 0,I 0,I 0,B false,I f,B pr,I 0,I 0,I b,I n,I 0,B false, .view Aa l,I k']=some (Ah it++[.view Aa l,I k''])/\k<=k''/\it.fr=p/\it.kind=kind/\Made it/\FF it:=by
   intro f b n pr k' h0 h1 h2 h4 h5;obtain⟨it,i1,i2⟩:=mk f b n pr h1 h2 h4 h5;refine⟨it,k',?_,h0,i2⟩;rw[i1];rfl
  by_cases h1:kind=1
  ·rw[aa h1];exact en _ _ _ _ _ (by omega) (λh=>absurd h1 h) (by omega) (by omega) (λ_=>rfl)
  ·rw[ab h1];obtain⟨v6,k6,e6,a6,b6,c6,-,-⟩:=hN k5 (n:=5) (by omega);obtain⟨v7,k7,e7,a7,b7,c7,-,-⟩:=hN k6 (n:=5) (by omega);obtain⟨v8,k8,e8,a8,b8,c8,-,-⟩:=hN k7 (n:=60) (by omega);obtain⟨v9,k9,e9,a9,b9,c9,-,-⟩:=hN k8 (n:=2) (by omega);simp only[go_sem,e6,e7,e8,e9];rw[aa (by simp;omega),aa (by simp;omega)];obtain⟨f,hf,hf1,hf2⟩:=Q57 ⟨a6,b6⟩;obtain⟨b,hb,hb1,hb2⟩:=Q3b ⟨a7,b7⟩;rw[hf,hb,Ae (x:=1+v8) (by omega),Ae (x:=3+v9) (by omega)];by_cases h5:kind=5
   ·rw[aa h5,ab (by omega)];exact en _ _ _ _ _ (by omega) (by omega) (by omega) (by omega) (by omega)
   ·rw[ab h5];by_cases h6:kind=6
    ·rw[aa h6,aa h6];exact en _ _ _ _ _ (by omega) (by omega) (by omega) (by omega) (by omega)
    ·rw[ab h6];by_cases h4:kind=4
     ·rw[aa h4];exact en _ _ _ _ _ (by omega) (by omega) (by omega) (by omega) (λ_=>rfl)
     ·rw[ab h4];exact en _ _ _ _ _ (by omega) (by omega) (by omega) (by omega) (λ_=>rfl)
theorem Zvq {l:Rw} (hl:Src l) {p:Pt} (hp:bd 100000000 p) {kind:Int} (hk:1<=kind/\kind<=6) (k:Nat):
  ∃(it:Itm) (k':Nat),K_ [I p.x,I p.y,I p.z,I kind, .view Aa l,I k]=some (Ah it++[.view Aa l,I k'])/\k<=k'/\it.fr=p/\it.kind=kind/\Made it/\FF it:=
 Zwu (HB hl) (λhp k=>Zin hl hp (by omega) k) hp hk k
def Q49:Pt->List Itm->Prop
 |_,[]=>True
 |p,it::l=>it.fr=p/\Q49 it.to l
structure Motions (B : Nat) (p : Pt) (l : List Itm) : Prop where
 DN:Q49 p l
 made:∀it∈l,Made it/\FF it/\it.kind<=3/\bd B it.fr/\bd B it.to
theorem Wg {size:Int} {b:Nat} {it:Itm} (h:ArcMade size it) (hs:size<=1000) (hf:bd b it.fr):bd (b+2*(12+size.toNat)) it.to/\bd (b+8+size.toNat) it.ce:=by
 obtain⟨r,k,t,g,x,h1,h2,h3,h4,h5,h6,h7,h8,h9,h10,h11,h12,h13⟩:=h.ends;obtain⟨q1,q2,q3⟩:=HK (pl:=it.aG) hf;obtain⟨⟨r1,r2⟩,r3,r4⟩:=NS (r:=r) (k:=k) (by omega);obtain⟨⟨r5,r6⟩,r7,r8⟩:=NS (r:=r+g) (k:=k+t) (by omega);rw[h12,h13];unfold bd spP;constructor<;>split<;>(try split)<;>refine⟨?_,?_,?_⟩<;>simp only<;>omega
theorem Q54 {b:Nat} {it:Itm} (h:Made it) (hf:bd b it.fr):bd (b+40) it.to:=by
 by_cases h3:it.kind=3
 ·exact A0 (Wg (h.arc h3) (by omega) hf).1 (by omega)
 ·obtain⟨h1,h2,h4⟩:=h.line h3;obtain⟨g1,g2,g3⟩:=hf;exact⟨by omega,by omega,by omega⟩
instance (pl:Int):Decidable (Db pl):=by unfold Db;infer_instance
instance (A:Nat) (p:Pt):Decidable (bd A p):=by unfold bd;infer_instance
def dU (it:Itm) (p:Pt):Int:=plU it.aG p-plU it.aG it.ce
def dW (it:Itm) (p:Pt):Int:=plW it.aG p-plW it.aG it.ce
def sq2 (u w:Int):Int:=u*u+w*w
def crs (u w x y:Int):Int:=u*y-w*x
def dt2 (u w x y:Int):Int:=u*x+w*y
def qA (it:Itm):Int:=sq2 (dU it it.fr) (dW it it.fr)
def qB (it:Itm):Int:=sq2 (dU it it.to) (dW it it.to)
def cAB (it:Itm):Int:=crs (dU it it.fr) (dW it it.fr) (dU it it.to) (dW it it.to)
def dAB (it:Itm):Int:=dt2 (dU it it.fr) (dW it it.fr) (dU it it.to) (dW it it.to)
def Ij (X Y:Int):Prop:=X+Y-16<=0\/(X+Y-16)*(X+Y-16)<=4*X*Y
def U2 (it:Itm):Prop:=64<=qA it/\64<=qB it/\Ij (qA it) (qB it)/\(it.full=true->dU it it.fr=dU it it.to/\dW it it.fr=dW it it.to)/\(it.full=false->cAB it≠0\/dAB it<0)
def Zyu (it:Itm):Prop:=Db it.aG/\(it.dir=1\/it.dir= -1)/\bd 1048576 it.ce/\U2 it
def DB (it:Itm):Prop:=(1<=it.kind/\it.kind<=6)/\bd 1048576 it.fr/\bd 1048576 it.to/\(it.kind=3->Zyu it)
theorem Qmj {it:Itm} {p:Pt} {b c:Nat} (hc:bd c it.ce) (h:bd b p):(dU it p).natAbs<=b+c/\(dW it p).natAbs<=b+c:=by
 obtain⟨h1,h2,h3⟩:=HK (pl:=it.aG) h;obtain⟨g1,g2,g3⟩:=HK (pl:=it.aG) hc;unfold dU dW;omega
theorem Qsv (x:Int) {b:Nat} (h:x.natAbs<=b):0<=x*x/\x*x<=((b*b:Nat):Int):=by
 have h1:=Hv h h;have h2:0<=x*x:=by rw[<-Int.natAbs_mul_self];omega
 omega
theorem Q2o {u w:Int} {b:Nat} (hu:u.natAbs<=b) (hw:w.natAbs<=b):0<=sq2 u w/\sq2 u w<=((2*(b*b):Nat):Int):=by
 have h1:=Qsv u hu;have h2:=Qsv w hw;unfold sq2;omega
theorem Qs8 {u w x y:Int} {b c:Nat} (hu:u.natAbs<=b) (hw:w.natAbs<=b) (hx:x.natAbs<=c) (hy:y.natAbs<=c):(dt2 u w x y).natAbs<=2*(b*c)/\(crs u w x y).natAbs<=2*(b*c):=by
 have h1:=Hv hu hx;have h2:=Hv hw hy;have h3:=Hv hu hy;have h4:=Hv hw hx;unfold dt2 crs;omega
theorem Zko {X Y:Int} (hX:64<=X) (hY:64<=Y):Ij X Y↔(max X Y-min X Y-16<=0\/(max X Y-min X Y-16)*(max X Y-min X Y-16)<=64*min X Y):=by
 unfold Ij;have key:∀M m:Int,64<=M->64<=m->m<=M->((M+m-16<=0\/(M+m-16)*(M+m-16)<=4*M*m)↔(M-m-16<=0\/(M-m-16)*(M-m-16)<=64*m)):=by
  intro M m h1 h2 h3;have e:(M-m-16)*(M-m-16)-64*m=(M+m-16)*(M+m-16)-4*M*m:=by grind
  by_cases hk:M-m-16<=0
  ·refine iff_of_true (.inr ?_) (.inl hk);have h5:(16-(M-m))*(M-m+16)>=0:=Int.mul_nonneg (by omega) (by omega);have h6:(M+m-16)*(M+m-16)-4*M*m=512-(16-(M-m))*(M-m+16)-32*(M+m):=by grind
   omega
  ·constructor
   ·rintro(h|h)
    ·omega
    ·exact .inr (by omega)
   ·rintro(h|h)
    ·omega
    ·exact .inr (by omega)
 by_cases h:X<=Y
 ·rw[Int.max_eq_right h,Int.min_eq_left h,<-key Y X hY hX h];have e1:X+Y-16=Y+X-16:=by omega
  have e2:4*X*Y=4*Y*X:=by grind
  rw[e1,e2]
 ·rw[Int.max_eq_left (by omega),Int.min_eq_right (by omega),<-key X Y hX hY (by omega)]
theorem Znh (p:Pt):O0 [I p.x,I p.y,I p.z]=some [B (decide (bd 1048576 p))]:=by
 unfold O0;rw[Z0u];simp only[go_sem];by_cases h:bd 1048576 p
 ·obtain⟨h1,h2,h3⟩:=h;rw[ab (by omega),ab (by omega),ab (by omega),ab (by omega),ab (by omega),ab (by omega)];congr 3;symm;exact al ⟨h1,h2,h3⟩
 ·have e:decide (bd 1048576 p)=false:=am h;rw[e];unfold bd at h;by_cases c1:p.x< -1048576
  ·rw[aa c1]
  rw[ab c1];by_cases c2:p.x>1048576
  ·rw[aa c2]
  rw[ab c2];by_cases c3:p.y< -1048576
  ·rw[aa c3]
  rw[ab c3];by_cases c4:p.y>1048576
  ·rw[aa c4]
  rw[ab c4];by_cases c5:p.z< -1048576
  ·rw[aa c5]
  rw[ab c5,aa (by omega)]
def axI (pl:Int):Int×Int×Int:=if pl=17 then(0,1,2)else if pl=18 then(2,0,1)else if pl=19 then(1,2,0)else(0,0,0)
theorem Qla (pl:Int):FL [I pl]=some [I (axI pl).1,I (axI pl).2.1,I (axI pl).2.2,B (decide (Db pl))]:=by
 unfold FL;rw[Zlw];simp only[go_sem];unfold axI Db;by_cases h1:pl=17
 ·rw[aa h1,aa h1];simp[h1]
 rw[ab h1,ab h1];by_cases h2:pl=18
 ·rw[aa h2,aa h2];simp[h2]
 rw[ab h2,ab h2];by_cases h3:pl=19
 ·rw[aa h3,aa h3];simp[h3]
 rw[ab h3,ab h3];simp[h1,h2,h3]
theorem Zb7 {M:Fn} (hM:∀pl:Int,M [I pl]=some [I (axI pl).1,I (axI pl).2.1,I (axI pl).2.2,B (decide (Db pl))]) {p:Pt} {pl:Int} (hp:Db pl):
  Qol M [I p.x,I p.y,I p.z,I pl]=some [I (plU pl p),I (plW pl p),I (plH pl p)]:=by
 rw[Zuq];simp only[go_sem,hM];rw[ab (by simpa using hp)];rcases hp with rfl|rfl|rfl<;>rfl
theorem Qx5 {p:Pt} {pl:Int} (hp:Db pl):Ih [I p.x,I p.y,I p.z,I pl]=some [I (plU pl p),I (plW pl p),I (plH pl p)]:=Zb7 Qla hp
def Az (p:Pt):Pt:=⟨p.x*16,p.y*16,p.z*16⟩
theorem FA {b:Nat} {p:Pt} (h:bd b p):bd (b*16) (Az p):=by
 obtain⟨h1,h2,h3⟩:=h;unfold Az;exact⟨by simp only;omega,by simp only;omega,by simp only;omega⟩
theorem RR (pl:Int) (p:Pt):plU pl (Az p)=plU pl p*16/\plW pl (Az p)=plW pl p*16/\plH pl (Az p)=plH pl p*16:=by
 unfold plU plW plH Az;refine⟨?_,?_,?_⟩<;>split<;>(try split)<;>rfl
theorem Qtc {p:Pt} (h:bd 100000000 p):H2 [I p.x,I p.y,I p.z]=some (ptR (Az p)):=by
 unfold H2;rw[Zhu];obtain⟨h1,h2,h3⟩:=h;rw[Ae (by omega),Ae (by omega),Ae (by omega)];rfl
theorem Qbq {u w r h x y s g:Int} (hu:u.natAbs<=1000000000) (hw:w.natAbs<=1000000000) (hx:x.natAbs<=1000000000) (hy:y.natAbs<=1000000000):Gz [I u,I w,I r,I h,I x,I y,I s,I g]=some [I (dt2 u w x y)]:=by
 unfold Gz;rw[Ziu];have h1:=Hv hu hx;have h2:=Hv hw hy;unfold dt2;rw[Ae (x:=u*x) (by omega),Ae (x:=w*y) (by omega),Ae (by omega)]
theorem Qa0 {u w r h x y s g:Int} (hu:u.natAbs<=1000000000) (hw:w.natAbs<=1000000000) (hx:x.natAbs<=1000000000) (hy:y.natAbs<=1000000000):G3 [I u,I w,I r,I h,I x,I y,I s,I g]=some [I (crs u w x y)]:=by
 unfold G3;rw[Zx4];have h1:=Hv hu hy;have h2:=Hv hw hx;unfold crs;rw[Ae (x:=u*y) (by omega),Ae (x:=w*x) (by omega),Ae (by omega)]
theorem Zee {M:Fn} (hM:∀{a b c d:Int},i64 a->i64 b->i64 c->i64 d->M [I a,I b,I c,I d]=some [I (Lz (a*b) (c*d))]) {X Y:Int} (hX:64<=X/\X<=1000000000000000) (hY:64<=Y/\Y<=1000000000000000):
  ∃v,Qi2 M [I X,I Y]=some [B v]/\(v=true↔Ij X Y):=by
 rw[Zvz,Zko hX.1 hY.1];have hmx:mx X Y=max X Y:=by unfold mx;rw[Int.max_def];split<;>split<;>omega
 have hmn:mn X Y=min X Y:=by unfold mn;rw[Int.min_def];split<;>split<;>omega
 have hx1:max X Y<=1000000000000000/\64<=max X Y:=by omega
 have hx2:min X Y<=1000000000000000/\64<=min X Y:=by omega
 rw[hmx,hmn];generalize max X Y=a at*;generalize min X Y=b at*;simp only[go_sem];rw[Ae (x:=a-b) (by omega),Ae (x:=a-b-16) (by omega)];by_cases c1:a-b-16<=0
 ·rw[aa c1];exact⟨_,rfl,iff_of_true rfl (.inl c1)⟩
 ·rw[ab c1,hM (by unfold i64;omega) (by unfold i64;omega) (by unfold i64;omega) (by unfold i64;omega)];refine⟨_,rfl,?_⟩;simp only[go_sem,bz,Zio];exact⟨λh=> .inr h,λh=>h.resolve_left c1⟩
theorem Z15 {X Y:Int} (hX:64<=X/\X<=1000000000000000) (hY:64<=Y/\Y<=1000000000000000):∃v,Q9 [I X,I Y]=some [B v]/\(v=true↔Ij X Y):=Zee Zoq hX hY
theorem Z1u {MP MS:Fn} {it:Itm} (hP:∀p:Pt,MP [I p.x,I p.y,I p.z,I it.aG]=some [I (plU it.aG p),I (plW it.aG p),I (plH it.aG p)]) (hS:∀{p:Pt},bd 100000000 p->MS [I p.x,I p.y,I p.z]=some (ptR (Az p)))
  (h1:bd 1048576 it.fr) (h2:bd 1048576 it.to) (h3:bd 1048576 it.ce):
  Qpi MP MS (An (V4 MP MS)) (Ah it)=some [I (dU it it.fr*16),I (dW it it.fr*16),I 0,I (plH it.aG it.fr*16),I (dU it it.to*16),I (dW it it.to*16),I 0,I (plH it.aG it.to*16)]:=by
 rw[Zgq];obtain⟨q1,q2,q3⟩:=HK (pl:=it.aG) h1;obtain⟨q4,q5,q6⟩:=HK (pl:=it.aG) h2;obtain⟨q7,q8,q9⟩:=HK (pl:=it.aG) h3;simp only[hS (A0 h3 (by omega)),hP,go_sem];have w0:wrap .i64 (0+1)=1:=Ae (by omega);have w1:wrap .i64 (1+1)=2:=Ae (by omega);have f1:=RR it.aG it.fr;have f2:=RR it.aG it.to;have f3:=RR it.aG it.ce;have u1:wrap .i64 (plU it.aG (Az it.fr)-plU it.aG (Az it.ce))=dU it it.fr*16:=by rw[f1.1,f3.1];unfold dU;rw[Ae (by omega)];omega
 have u2:wrap .i64 (plW it.aG (Az it.fr)-plW it.aG (Az it.ce))=dW it it.fr*16:=by rw[f1.2.1,f3.2.1];unfold dW;rw[Ae (by omega)];omega
 have u3:wrap .i64 (plU it.aG (Az it.to)-plU it.aG (Az it.ce))=dU it it.to*16:=by rw[f2.1,f3.1];unfold dU;rw[Ae (by omega)];omega
 have u4:wrap .i64 (plW it.aG (Az it.to)-plW it.aG (Az it.ce))=dW it it.to*16:=by rw[f2.2.1,f3.2.1];unfold dW;rw[Ae (by omega)];omega
 have b1:bd 100000000 it.fr:=A0 h1 (by omega);have b2:bd 100000000 it.to:=A0 h2 (by omega);have e1:=hS b1;have e2:=hS b2;rw[Bn (by rw[Qd3];simp only[go_sem,e1,e2,hP,u1,u2,w0];rfl),Bn (by rw[Qd3];simp only[go_sem,e1,e2,hP,u3,u4,w1];rfl),
  A5 (o:=(1,_)) (by rw[Qd3];simp only[go_sem];rfl) (by simp)]
 simp only[go_sem,f1.2.2,f2.2.2]
theorem Qxv {it:Itm} (hp:Db it.aG) (h1:bd 1048576 it.fr) (h2:bd 1048576 it.to) (h3:bd 1048576 it.ce):
  J0 (Ah it)=some [I (dU it it.fr*16),I (dW it it.fr*16),I 0,I (plH it.aG it.fr*16),I (dU it it.to*16),I (dW it it.to*16),I 0,I (plH it.aG it.to*16)]:=
 Z1u (λ_=>Qx5 hp) Qtc h1 h2 h3
theorem Zqu {MN:Fn} {X Y C D au aw bu bw:Int} {full:Bool} (hX:0<=X/\X<=1000000000000000) (hY:0<=Y/\Y<=1000000000000000)
  (hN:∀{X Y:Int},(64<=X/\X<=1000000000000000)->(64<=Y/\Y<=1000000000000000)->∃v,MN [I X,I Y]=some [B v]/\(v=true↔Ij X Y)):
  ∃ v, (if X * 256 < wrap .i64 (128 * 128) then some [B false] else if Y * 256 < wrap .i64 (128 * 128) then some [B false] else
   (MN [I (wrap .i64 ((X*256).tdiv 256)),I (wrap .i64 ((Y*256).tdiv 256))]).bind λo=>
   if¬Dl (nth .dead o 0)=true then some [B false]else if full=true then if au*16=bu*16 then some [B (aw*16==bw*16)]else some [B false]else if C*256≠0 then some [B true]else some [B (decide (D*256<0))])=some [B v]/\
   (v=true↔64<=X/\64<=Y/\Ij X Y/\(full=true->au=bu/\aw=bw)/\(full=false->C≠0\/D<0)):=by
 rw[Ae (x:=128*128) (by omega),Int.mul_tdiv_cancel _ (by omega),Int.mul_tdiv_cancel _ (by omega),Ae (x:=X) (by omega),Ae (x:=Y) (by omega)];by_cases c1:X*256<128*128
 ·rw[aa c1];exact⟨_,rfl,iff_of_false (by simp) λh=>by omega⟩
 rw[ab c1];by_cases c2:Y*256<128*128
 ·rw[aa c2];exact⟨_,rfl,iff_of_false (by simp) λh=>by omega⟩
 rw[ab c2];obtain⟨v,h1,h2⟩:=hN (X:=X) (Y:=Y) (by omega) (by omega);simp only[h1,go_sem];by_cases c3:v=true
 case neg=>rw[aa c3];exact⟨_,rfl,iff_of_false (by simp) λh=>c3 (h2.2 h.2.2.1)⟩
 rw[ab (by simpa using c3)];have hn':=h2.1 c3;cases full with
 |true=>
  rw[aa rfl];by_cases c4:au*16=bu*16
  ·rw[aa c4];refine⟨_,rfl,?_⟩;simp only[beq_iff_eq];exact⟨λh=>⟨by omega,by omega,hn',λ_=>⟨by omega,by omega⟩,λh=>by simp at h⟩,λh=>by have:=(h.2.2.2.1 trivial).2;omega⟩
  ·rw[ab c4];exact⟨_,rfl,iff_of_false (by simp) λh=>c4 (by have:=(h.2.2.2.1 rfl).1;omega)⟩
 |false=>
  rw[ab (by simp)];by_cases c4:C*256≠0
  ·rw[aa c4];exact⟨_,rfl,iff_of_true rfl ⟨by omega,by omega,hn',λh=>by simp at h,λ_=> .inl (by omega)⟩⟩
  ·rw[ab c4];refine⟨_,rfl,?_⟩;simp only[bz];exact⟨λh=>⟨by omega,by omega,hn',λh=>by simp at h,λ_=> .inr (by omega)⟩,λh=>by have:=(h.2.2.2.2 trivial);omega⟩
theorem Q8e (a b c d:Int):dt2 (a*16) (b*16) (c*16) (d*16)=dt2 a b c d*256/\crs (a*16) (b*16) (c*16) (d*16)=crs a b c d*256:=by
 unfold dt2 crs;constructor<;>grind
theorem Zsh {MC MN MD ME MA MW:Fn} (hA:∀pl:Int,MA [I pl]=some [I (axI pl).1,I (axI pl).2.1,I (axI pl).2.2,B (decide (Db pl))]) (hW:∀p:Pt,MW [I p.x,I p.y,I p.z]=some [B (decide (bd 1048576 p))])
  {it:Itm} (hE:Db it.aG->bd 1048576 it.fr->bd 1048576 it.to->bd 1048576 it.ce->ME (Ah it)=some [I (dU it it.fr*16),I (dW it it.fr*16),I 0,I (plH it.aG it.fr*16),I (dU it it.to*16),I (dW it it.to*16),I 0,I (plH it.aG it.to*16)])
  (hD:∀{u w r h x y s g:Int},u.natAbs<=1000000000->w.natAbs<=1000000000->x.natAbs<=1000000000->y.natAbs<=1000000000->MD [I u,I w,I r,I h,I x,I y,I s,I g]=some [I (dt2 u w x y)])
  (hX:∀{u w r h x y s g:Int},u.natAbs<=1000000000->w.natAbs<=1000000000->x.natAbs<=1000000000->y.natAbs<=1000000000->MC [I u,I w,I r,I h,I x,I y,I s,I g]=some [I (crs u w x y)])
  (hN:∀{X Y:Int},(64<=X/\X<=1000000000000000)->(64<=Y/\Y<=1000000000000000)->∃v,MN [I X,I Y]=some [B v]/\(v=true↔Ij X Y)):
  ∃v,Qhj MC MN MD ME MA MW (Ah it)=some [B v]/\(v=true↔DB it):=by
 rw[Zkn];simp only[go_sem,hW,hA];by_cases c1:it.kind<1
 ·rw[aa c1];exact⟨_,rfl,iff_of_false (by simp) λh=>by have:=h.1;omega⟩
 rw[ab c1];by_cases c1':it.kind>6
 ·rw[aa c1'];exact⟨_,rfl,iff_of_false (by simp) λh=>by have:=h.1;omega⟩
 rw[ab c1'];by_cases c2:bd 1048576 it.fr
 case neg=>rw[aa (by simpa using c2)];exact⟨_,rfl,iff_of_false (by simp) λh=>c2 h.2.1⟩
 rw[ab (by simpa using c2)];by_cases c3:bd 1048576 it.to
 case neg=>rw[aa (by simpa using c3)];exact⟨_,rfl,iff_of_false (by simp) λh=>c3 h.2.2.1⟩
 rw[ab (by simpa using c3)];by_cases c4:it.kind=3
 case neg=>rw[aa c4];exact⟨_,rfl,iff_of_true rfl ⟨by omega,c2,c3,λh=>absurd h c4⟩⟩
 rw[ab (by simpa using c4)];by_cases c5:Db it.aG
 case neg=>rw[aa (by simpa using c5)];exact⟨_,rfl,iff_of_false (by simp) λh=>c5 (h.2.2.2 c4).1⟩
 rw[ab (by simpa using c5)];by_cases c7:bd 1048576 it.ce
 case neg=>
  refine⟨false,?_,iff_of_false (by simp) λh=>c7 (h.2.2.2 c4).2.2.1⟩;split
  ·split
   ·rfl
   ·first|rfl|(rw[aa c7])
  ·first|rfl|(rw[aa c7])
 by_cases c6:it.dir=1\/it.dir= -1
 case neg=>
  rw[aa (c:=it.dir≠1) (by omega),aa (c:=it.dir≠-1) (by omega)];exact⟨false,rfl,iff_of_false (by simp) λh=>c6 (h.2.2.2 c4).2.1⟩
 have hE':=hE c5 c2 c3 c7;obtain⟨b1,b2⟩:=Qmj (it:=it) c7 c2;obtain⟨b3,b4⟩:=Qmj (it:=it) c7 c3;simp only[Ah]at hE';have x1:=Q2o b1 b2;have x2:=Q2o b3 b4;have core:DB it↔64<=qA it/\64<=qB it/\Ij (qA it) (qB it)/\(it.full=true->dU it it.fr=dU it it.to/\dW it it.fr=dW it it.to)/\(it.full=false->cAB it≠0\/dAB it<0):=
  ⟨λh=>(h.2.2.2 c4).2.2.2,λh=>⟨by omega,c2,c3,λ_=>⟨c5,c6,c7,h⟩⟩⟩
 rw[core];have x1':0<=qA it/\qA it<=1000000000000000:=⟨x1.1,by unfold qA;omega⟩;have x2':0<=qB it/\qB it<=1000000000000000:=⟨x2.1,by unfold qB;omega⟩;have D1:= @hD (dU it it.fr*16) (dW it it.fr*16) 0 (plH it.aG it.fr*16) (dU it it.fr*16) (dW it it.fr*16) 0 (plH it.aG it.fr*16) (by omega) (by omega) (by omega) (by omega);have D2:= @hD (dU it it.to*16) (dW it it.to*16) 0 (plH it.aG it.to*16) (dU it it.to*16) (dW it it.to*16) 0 (plH it.aG it.to*16) (by omega) (by omega) (by omega) (by omega);have D3:= @hD (dU it it.fr*16) (dW it it.fr*16) 0 (plH it.aG it.fr*16) (dU it it.to*16) (dW it it.to*16) 0 (plH it.aG it.to*16) (by omega) (by omega) (by omega) (by omega);have D4:= @hX (dU it it.fr*16) (dW it it.fr*16) 0 (plH it.aG it.fr*16) (dU it it.to*16) (dW it it.to*16) 0 (plH it.aG it.to*16) (by omega) (by omega) (by omega) (by omega);rw[(Q8e _ _ _ _).1]at D1 D2 D3;rw[(Q8e _ _ _ _).2]at D4;have e1:dt2 (dU it it.fr) (dW it it.fr) (dU it it.fr) (dW it it.fr)=qA it:=rfl;have e2:dt2 (dU it it.to) (dW it it.to) (dU it it.to) (dW it it.to)=qB it:=rfl;have e3:dt2 (dU it it.fr) (dW it it.fr) (dU it it.to) (dW it it.to)=dAB it:=rfl;have e4:crs (dU it it.fr) (dW it it.fr) (dU it it.to) (dW it it.to)=cAB it:=rfl;rw[e1]at D1;rw[e2]at D2;rw[e3]at D3;rw[e4]at D4;have T:= @Zqu MN (qA it) (qB it) (cAB it) (dAB it) (dU it it.fr) (dW it it.fr) (dU it it.to) (dW it it.to) it.full x1' x2' hN;have n7: ¬ ¬bd 1048576 it.ce:=λh=>h c7;by_cases d1:it.dir=1
 ·rw[ab (c:=it.dir≠1) (λh=>h d1),ab n7];simp only[hE',go_sem,D1,D2,D3,D4];exact T
 ·rw[aa (c:=it.dir≠1) d1,ab (c:=it.dir≠-1) (by omega),ab n7];simp only[hE',go_sem,D1,D2,D3,D4];exact T
theorem XP (it:Itm):∃v,GV (Ah it)=some [B v]/\(v=true↔DB it):=
 Zsh Qla Znh (λh1 h2 h3 h4=>Qxv h1 h2 h3 h4) Qbq Qa0 Z15
def okS (s:Spk):Prop:=s.u.natAbs<=50000000/\s.w.natAbs<=50000000/\(0<=s.r/\s.r<=50000000)/\s.h.natAbs<=16777216
def hf (a b:Int):Int:=(a+b+1)/2
def Dy (a b:Spk) (dir:Int) (full:Bool):Int×Int:=
 if full=true then(-a.u,-a.w)
 else if 0<dt2 a.u a.w b.u b.w/\0<crs a.u a.w b.u b.w*dir then(a.u+b.u,a.w+b.w)
 else if 0<dt2 a.u a.w b.u b.w then(-(a.u+b.u),-(a.w+b.w))
 else(dir*(b.w-a.w),dir*(a.u-b.u))
noncomputable def H0 (a b:Spk) (u w:Int):Spk:=if u=0/\w=0 then⟨0,0,0,0⟩else⟨B7 u (hf a.r b.r) (sq2 u w),B7 w (hf a.r b.r) (sq2 u w),hf a.r b.r,hf a.h b.h⟩
noncomputable def EN (a b:Spk) (dir:Int) (full:Bool):Spk:=H0 a b (Dy a b dir full).1 (Dy a b dir full).2
theorem Nj {a b:Spk} (ha:okS a) (hb:okS b) {dir:Int} (hd:dir=1\/dir= -1) (full:Bool):(Dy a b dir full).1.natAbs<=100000000/\(Dy a b dir full).2.natAbs<=100000000:=by
 obtain⟨a1,a2,-⟩:=ha;obtain⟨b1,b2,-⟩:=hb;unfold Dy;split
 ·exact⟨by simp only;omega,by simp only;omega⟩
 ·split
  ·exact⟨by simp only;omega,by simp only;omega⟩
  ·split
   ·exact⟨by simp only;omega,by simp only;omega⟩
   ·rcases hd with rfl|rfl
    ·exact⟨by simp only;omega,by simp only;omega⟩
    ·exact⟨by simp only;omega,by simp only;omega⟩
theorem Q8b (u w:Int):u*u<=sq2 u w/\w*w<=sq2 u w:=by
 have h1:=FJ u;have h2:=FJ w;unfold sq2;omega
theorem Se {u w:Int} (h: ¬(u=0/\w=0)):0<sq2 u w:=by
 have h1:=FJ u;have h2:=FJ w;have z:∀u:Int,u*u=0->u=0:=λu hu=>by
  rcases Int.mul_eq_zero.1 hu with h|h<;>exact h
 have h3: ¬(u*u=0/\w*w=0):=λh4=>h ⟨z _ h4.1,z _ h4.2⟩;unfold sq2;omega
theorem Qzh {a b:Int} (ha:0<=a/\a<=50000000) (hb:0<=b/\b<=50000000):0<=hf a b/\hf a b<=50000000:=by unfold hf;omega
theorem Zgs {a b:Int} (ha:a.natAbs<=16777216) (hb:b.natAbs<=16777216):(hf a b).natAbs<=16777216:=by unfold hf;omega
theorem Q2i {u w r:Int} (hu:u.natAbs<=100000000) (hw:w.natAbs<=100000000) (hr:0<=r/\r<=50000000) (h: ¬(u=0/\w=0)):
  (True/\(B7 u r (sq2 u w)).natAbs<=r.natAbs)/\(True/\(B7 w r (sq2 u w)).natAbs<=r.natAbs):=by
 have hp:=Se h;have h1:=DY hu;have h2:=DY hw;have h3:sq2 u w<=20000000000000000:=by unfold sq2;omega
 obtain⟨q1,q2⟩:=Q8b u w;have key:∀x:Int,x.natAbs<=100000000->x*x<=sq2 u w->True/\(B7 x r (sq2 u w)).natAbs<=r.natAbs:=by
  intro x hx hq;obtain⟨g1,-,g3⟩:=Sj (x:=x) (r:=r) (n:=sq2 u w) (bv hx (by decide)) (by omega) (by omega) hq;refine⟨g1,Ql3 (by omega) ?_ g3⟩;have:((x.natAbs*x.natAbs:Nat):Int)=x*x:=Int.natAbs_mul_self;omega
 exact⟨key u hu q1,key w hw q2⟩
theorem Zu8 {a b:Spk} (ha:okS a) (hb:okS b) {u w:Int} (hu:u.natAbs<=100000000) (hw:w.natAbs<=100000000):okS (H0 a b u w):=by
 unfold H0;split
 ·exact⟨by simp,by simp,by simp,by simp⟩
 ·rename_i h;have hr:=Qzh ha.2.2.1 hb.2.2.1;obtain⟨⟨-,n1⟩,-,n2⟩:=Q2i hu hw hr h;exact⟨by simp only;omega,by simp only;omega,hr,Zgs ha.2.2.2 hb.2.2.2⟩
theorem Qtf {a b:Spk} (ha:okS a) (hb:okS b) {dir:Int} (hd:dir=1\/dir= -1) (full:Bool):okS (EN a b dir full):=
 Zu8 ha hb (Nj ha hb hd full).1 (Nj ha hb hd full).2
theorem Gu {x:Int} (h:x.natAbs<=50000000):x.natAbs<=1000000000:=bv h (by decide)
def IJ (a b:Spk) (dir:Int) (full:Bool):Prop:=full=false/\0<crs a.u a.w b.u b.w*dir/\sq2 (a.u-b.u) (a.w-b.w)<=32*mn a.r b.r-64
instance {a b:Spk} {dir:Int} {full:Bool}:Decidable (IJ a b dir full):=by unfold IJ;infer_instance
noncomputable def DM (dir:Int):Nat->Bool->Spk->Spk->List Spk
 |0,_,_,b=>[b]
 |k+1,full,a,b=>if IJ a b dir full then [b]else DM dir k false a (EN a b dir full)++DM dir k false (EN a b dir full) b
theorem RE {dir:Int}:∀(k:Nat) (full:Bool) (a b:Spk),1<=(DM dir k full a b).length/\(DM dir k full a b).length<=2^k
 |0,_,_,b=>by simp[DM]
 |k+1,full,a,b=>by
  have hp:0<2^k:=Nat.two_pow_pos _;have e3:2^(k+1)=2^k+2^k:=by rw[Nat.pow_succ];omega
  unfold DM;split
  ·simp;omega
  ·have h1:=RE k false a (EN a b dir full) (dir:=dir);have h2:=RE k false (EN a b dir full) b (dir:=dir);rw[ao];omega
theorem Qen {dir:Int} (hd:dir=1\/dir= -1):∀(k:Nat) (full:Bool) {a b:Spk},okS a->okS b->∀s∈DM dir k full a b,okS s
 |0,_,a,b,_,hb,s,hs=>by simp[DM]at hs;subst hs;exact hb
 |k+1,full,a,b,ha,hb,s,hs=>by
  unfold DM at hs;have hm:=Qtf ha hb hd full;split at hs
  ·simp at hs;subst hs;exact hb
  ·rcases bj.1 hs with hs|hs
   ·exact Qen hd k false ha hm s hs
   ·exact Qen hd k false hm hb s hs
theorem Ziw {n i j:Int} (hi:I6 n i) (hj:I6 n j):i=j:=by
 have key:∀{i j:Int},I6 n i->I6 n j-> ¬i<j:=by
  rintro i j ⟨h1,h2,-⟩ ⟨h4,h5,h6⟩ hlt;rcases h6 with h6|h6
  ·omega
  ·have h7:=dm (show i<=j-1 by omega) (show i+1<=j by omega) (by omega) (by omega);omega
 have h1:=key hi hj;have h2:=key hj hi;omega
open Classical in
noncomputable def FU (n:Int):Int:=if h:∃j,I6 n j then Classical.choose h else 0
theorem RY {n k:Int} (h:I6 n k):FU n=k:=by
 have hx:∃j,I6 n j:=⟨k,h⟩;unfold FU;rw[dif_pos hx];exact Ziw (Classical.choose_spec hx) h
theorem Sd {n r:Nat} (h1:r*r<=n) (h2:n<(r+1)*(r+1)):I6 n (if r*r+r<n then r+1 else r:Nat):=by
 have e0:(r+1)*(r+1)=r*r+r+r+1:=by grind
 unfold I6;by_cases c:r*r+r<n
 ·rw[aa c];have e1:((r+1:Nat):Int)*(((r+1:Nat):Int)+1)=((r*r+r+r+r+2:Nat):Int):=by
   have:((r+1:Nat):Int)+1=((r+2:Nat):Int):=by omega
   rw[this,<-Int.natCast_mul];congr 1
   grind
  have e2:(((r+1:Nat):Int)-1)*((r+1:Nat):Int)=((r*r+r:Nat):Int):=by
   rw[show((r+1:Nat):Int)-1=(r:Int) by omega,<-Int.natCast_mul];congr 1
  rw[e1,e2];generalize r*r=A at*;exact⟨by omega,by omega, .inr (by omega)⟩
 ·rw[ab c];have e1:(r:Int)*((r:Int)+1)=((r*r+r:Nat):Int):=by
   rw[show(r:Int)+1=((r+1:Nat):Int) by omega,<-Int.natCast_mul];congr 1
  rw[e1];refine⟨by omega,by omega,?_⟩;rcases Nat.eq_zero_or_pos r with h|h
  ·left;omega
  ·right;have e2:((r:Int)-1)*(r:Int)=(((r-1)*r:Nat):Int):=by
    rw[show(r:Int)-1=((r-1:Nat):Int) by omega];exact(Int.natCast_mul _ _).symm
   have:=Nat.mul_lt_mul_of_pos_right (show r-1<r by omega) h;rw[e2];omega
noncomputable def ED (it:Itm) (p:Pt):Spk:=⟨dU it p*16,dW it p*16,FU (sq2 (dU it p*16) (dW it p*16)),plH it.aG p*16⟩
theorem Zix {n:Nat} (hn:n<=2251799813685248):0<=FU n/\FU n<=50000000:=by
 obtain⟨r,-,h2,h3,-⟩:=Ta (n:=n) (by omega);have hm:=Sd h2 h3;rw[RY hm];have:r<50000000:=by
  by_cases c:r<50000000
  ·exact c
  ·have:=dl (show 50000000<=r by omega) (show 50000000<=r by omega);omega
 split<;>omega
theorem Rd {it:Itm} {p:Pt} (hc:bd 1048576 it.ce) (hp:bd 1048576 p):(dU it p*16).natAbs<=33554432/\(dW it p*16).natAbs<=33554432/\0<=sq2 (dU it p*16) (dW it p*16)/\sq2 (dU it p*16) (dW it p*16)<=2251799813685248:=by
 obtain⟨h1,h2⟩:=Qmj hc hp;have h3:(dU it p*16).natAbs<=33554432:=by omega
 have h4:(dW it p*16).natAbs<=33554432:=by omega
 have q1:=DY h3;have q2:=DY h4;refine⟨h3,h4,?_⟩;unfold sq2;omega
theorem SC {it:Itm} {p:Pt} (hc:bd 1048576 it.ce) (hp:bd 1048576 p):okS (ED it p):=by
 obtain⟨h1,h2,h3,h4⟩:=Rd hc hp;have h5:=(HK (pl:=it.aG) hp).2.2;obtain⟨n,hn⟩:=bp h3;refine⟨bv h1 (by decide),bv h2 (by decide),?_,?_⟩
 ·show 0<=FU _/\FU _<=_;rw[hn]at h4⊢;exact Zix (by omega)
 ·show(plH it.aG p*16).natAbs<=_;omega
noncomputable def D8 (it:Itm):List Spk:=ED it it.fr::DM it.dir 16 it.full (ED it it.fr) (ED it it.to)
theorem Qsi {it:Itm} (h:DB it) (h3:it.kind=3):∀s∈D8 it,okS s:=by
 obtain⟨-,h1,h2,ha⟩:=h;obtain⟨hp,hd,hc,-⟩:=ha h3;intro s hs;rcases aq.1 hs with rfl|hs
 ·exact SC hc h1
 ·exact Qen hd 16 _ (SC hc h1) (SC hc h2) s hs
theorem Qug (it:Itm):2<=(D8 it).length/\(D8 it).length<=65537:=by
 have:=RE (dir:=it.dir) 16 it.full (ED it it.fr) (ED it it.to);have e:(2:Nat)^16=65536:=rfl;rw[e]at this;unfold D8;rw[bh];omega
noncomputable def IW (it:Itm) (s:Spk):Pt:=spP it.aG (plU it.aG (Az it.ce)+s.u) (plW it.aG (Az it.ce)+s.w) s.h
noncomputable def Cu (it:Itm):List Pt:=if it.kind=3 then(D8 it).map (IW it)else [Az it.fr,Az it.to]
theorem Qyt {pl u w h:Int} {b:Nat} (hu:u.natAbs<=b) (hw:w.natAbs<=b) (hh:h.natAbs<=b):bd b (spP pl u w h):=by
 unfold spP bd;split
 ·exact⟨hu,hw,hh⟩
 ·split
  ·exact⟨hw,hh,hu⟩
  ·exact⟨hh,hu,hw⟩
theorem Zp3 {it:Itm} {s:Spk} (hc:bd 1048576 it.ce) (hs:okS s):bd 67108864 (IW it s):=by
 obtain⟨h1,h2,-⟩:=HK (pl:=it.aG) (FA hc);obtain⟨s1,s2,-,s4⟩:=hs;exact Qyt (by omega) (by omega) (by omega)
theorem XO {it:Itm} (h:DB it):∀p∈Cu it,bd 67108864 p:=by
 intro p hp;unfold Cu at hp;split at hp
 ·rename_i h3;simp only[ba]at hp;obtain⟨s,hs,rfl⟩:=hp;exact Zp3 (h.2.2.2 h3).2.2.1 (Qsi h h3 s hs)
 ·simp at hp;rcases hp with rfl|rfl
  ·exact A0 (FA h.2.1) (by decide)
  ·exact A0 (FA h.2.2.1) (by decide)
theorem Q5d (it:Itm):2<=(Cu it).length/\(Cu it).length<=65537:=by
 have:=Qug it;unfold Cu;split<;>simp<;>omega
def HV (t:Itm) (speed:Int):Int:=if t.kind=1 then 0 else mx (Br (mn (if t.perRev=true then t.feed*mx speed 1 else t.feed) 60000000*4096) 60000) 1
theorem Z6h {f s:Int} (hf:0<=f/\f<=60000000) (hs:0<=s/\s<=30000):0<=f*mx s 1/\f*mx s 1<=1800000000000:=by
 have h1:1<=mx s 1/\mx s 1<=30000:=by unfold mx;split<;>omega
 generalize mx s 1=m at*;have h2:=dm hf.2 h1.2 (by omega) (by omega);have h3:=Int.mul_nonneg hf.1 (show 0<=m by omega);omega
theorem Q21 {x:Int} (h:0<=x):0<=mn x 60000000/\mn x 60000000<=60000000:=by unfold mn;split<;>omega
theorem Zbe {M:Fn} {t:Itm} {speed:Int} (hf:0<=t.feed/\t.feed<=60000000) (hs:0<=speed/\speed<=30000)
  (hM:∀a:Int,0<=a/\a<=60000000->M [I a,I 4096,I 60000,I 2]=some [I (Br (a*4096) 60000),B true]):Qnz M (Ah t++[I speed])=some [I (HV t speed)]:=by
 have h1:=Z6h hf hs;have h2:=hM _ (Q21 h1.1);have h3:=hM _ (Q21 hf.1);have h4:wrap .i64 (t.feed*mx speed 1)=t.feed*mx speed 1:=Ae (by omega);simp only[Ah,ay,av];rw[Q7g,h4];simp only[go_sem,h2,h3];unfold HV;by_cases g1:t.kind=1
 ·rw[aa g1,aa g1]
 ·rw[ab g1,ab g1];by_cases g2:t.perRev=true
  ·rw[aa g2,aa g2]
  ·rw[ab g2,ab g2]
theorem Zr2 {t:Itm} {speed:Int} (hf:0<=t.feed/\t.feed<=60000000) (hs:0<=speed/\speed<=30000):KP (Ah t++[I speed])=some [I (HV t speed)]:=
 Zbe hf hs λa ha=>Sr (by unfold i64;omega) (by unfold i64;omega) (by omega) (by have:a.natAbs*(4096:Int).natAbs<=60000000*4096:=dl (by omega) (by omega);omega)
def it0:Itm:=⟨0,0,⟨0,0,0⟩,⟨0,0,0⟩,0,⟨0,0,0⟩,0,false,0,false,0,0,0,0,0,false⟩
def itA (aA:List Itm) (i:Nat):Itm:=aA.getD i it0
theorem QD {aA:List Itm} {i:Nat} (h:i<aA.length):itA aA i=aA[i]:=by unfold itA;simp[h]
theorem Qwx {aA:List Itm} {i:Nat} (h:i<aA.length):itA aA i∈aA:=by rw[QD h];exact bq h
theorem Fu {aA:List Itm} {i:Nat} (h:i<aA.length):nth [] (aA.map Ah) i=Ah (itA aA i):=by rw[QD h];exact IU _ _ _ _ h
theorem XG {aA:List Itm} {i:Nat} (h:i<aA.length):aA.drop i=itA aA i::aA.drop (i+1):=by rw[QD h];exact Mw _ _ h
def AF (it:Itm):Prop:=1<=it.kind/\it.kind<=6
def smI (it:Itm):Prop:=it.kind=2/\it.fr≠it.to
def syI (it:Itm):Prop:=it.kind=5\/it.kind=6
instance (it:Itm):Decidable (AF it):=by unfold AF;infer_instance
instance (it:Itm):Decidable (smI it):=by unfold smI;infer_instance
instance (it:Itm):Decidable (syI it):=by unfold syI;infer_instance
def Bh (it:Itm):Pt:=⟨(it.fr.x+it.to.x)*8,(it.fr.y+it.to.y)*8,(it.fr.z+it.to.z)*8⟩
theorem Lm {it:Itm} (h1:bd 1048576 it.fr) (h2:bd 1048576 it.to):bd B24 (Bh it):=by
 unfold bd B24 Bh at*;simp only;omega
def Gx:List Itm->Nat->Int
 |[],_=> -1
 |it::l,k=>if it.kind=10 then Gx l (k+1)else if smI it then k else-1
def Cf (aA:List Itm) (i:Nat):Int:=if smI (itA aA i)/\(itA aA i).blend≠0 then Gx (aA.drop (i+1)) (i+1)else-1
theorem Qu0:∀(l:List Itm) (k:Nat),Gx l k= -1\/∃j:Nat,Gx l k=((k+j:Nat):Int)/\∃h:j<l.length,smI l[j]/\∀i (hi:i<l.length),i<j->l[i].kind=10
 |[],_=> .inl rfl
 |it::l,k=>by
  unfold Gx;split
  ·rename_i h10;rcases Qu0 l (k+1)with h|⟨j,h1,h2,h3,h4⟩
   ·exact .inl h
   ·refine .inr ⟨j+1,by rw[h1];omega,by simp;omega,by simpa using h3,?_⟩;intro i hi hij;cases i with
    |zero=>simpa using h10
    |succ i=>simpa using h4 i (by simpa using hi) (by omega)
  ·split
   ·rename_i hs;exact .inr ⟨0,by simp,by simp,by simpa using hs,λi _ hi=>by omega⟩
   ·exact .inl rfl
theorem Yq (aA:List Itm) (i:Nat):Cf aA i= -1\/(smI (itA aA i)/\(itA aA i).blend≠0/\∃k:Nat,Cf aA i=k/\i<k/\k<aA.length/\smI (itA aA k)/\∀j,i<j->j<k->(itA aA j).kind=10):=by
 unfold Cf;split
 ·rename_i h;rcases Qu0 (aA.drop (i+1)) (i+1)with h1|⟨j,h1,h2,h3,h4⟩
  ·exact .inl h1
  ·have h5:i+1+j<aA.length:=by rw[da]at h2;omega
   refine .inr ⟨h.1,h.2,i+1+j,h1,by omega,h5,?_,?_⟩
   ·rw[QD h5];rw[List.getElem_drop]at h3;exact h3
   ·intro m hm1 hm2;have:=h4 (m-(i+1)) (by omega) (by omega);rw[List.getElem_drop]at this;rw[QD (by omega)];have e:i+1+(m-(i+1))=m:=by omega
    simp only[e]at this;exact this
 ·exact .inl rfl
def Sl (it:Itm):Int:=if it.kind=10 then 5 else if it.kind=13 then 4 else 3
def HE:List Itm->Int
 |[]=>2
 |it::l=>if AF it then(if syI it then 1 else 2)else HE l
def Sf (aA:List Itm) (i:Nat):Int:=if(itA aA i).kind=4 then 6 else if(itA aA i).blend=0 then 1 else if syI (itA aA i)then 1 else HE (aA.drop (i+1))
noncomputable def HF (aA:List Itm) (i k:Nat):List Pt:=F0 (Bh (itA aA i)) (Az (itA aA i).to) (Bh (itA aA k)) ((itA aA i).blend*16)
def drawn (it:Itm):Prop:=DB it/\0<=it.blend/\it.blend<=1000
theorem L2 {aA:List Itm} {i k:Nat} (h1:drawn (itA aA i)) (h2:drawn (itA aA k)):(∀p∈HF aA i k,bd B24 p)/\1<=(HF aA i k).length/\(HF aA i k).length<=65:=
 Q4u (Lm h1.1.2.1 h1.1.2.2.1) (FA h1.1.2.2.1) (Lm h2.1.2.1 h2.1.2.2.1)
noncomputable def Jt (aA:List Itm) (i:Nat) (frm:Int):List Pt:=if 0<=frm then(HF aA frm.toNat i).drop ((HF aA frm.toNat i).length/2)else(Cu (itA aA i)).take 1
noncomputable def Lt (aA:List Itm) (i:Nat):List Pt:=if 0<=Cf aA i then(HF aA i (Cf aA i).toNat).take ((HF aA i (Cf aA i).toNat).length/2+1)else(Cu (itA aA i)).drop 1
noncomputable def CD (aA:List Itm) (i:Nat) (frm:Int):List Pt:=if smI (itA aA i)then Jt aA i frm++[Bh (itA aA i)]++Lt aA i else Cu (itA aA i)
def Md (aA:List Itm) (i:Nat) (frm:Int):Prop:=frm= -1\/∃f:Nat,frm=f/\f<aA.length/\drawn (itA aA f)
theorem Zxx {aA:List Itm} {i:Nat} {frm:Int} (hd:drawn (itA aA i)) (hf:Md aA i frm):(∀p∈Jt aA i frm,bd 67108864 p)/\(Jt aA i frm).length<=65:=by
 unfold Jt;rcases hf with rfl|⟨f,rfl,hf1,hf2⟩
 ·rw[ab (by omega)];exact⟨λp hp=>XO hd.1 p (dk hp),by rw[List.length_take];omega⟩
 ·rw[aa (by omega)];obtain⟨h1,h2,h3⟩:=L2 (aA:=aA) (i:=(f:Int).toNat) (k:=i) (by simpa using hf2) hd;exact⟨λp hp=>A0 (h1 p (de hp)) (by decide),by rw[da];omega⟩
theorem Td {aA:List Itm} {i:Nat} (hall:∀k<aA.length,AF (itA aA k)->drawn (itA aA k)) (hs:0<=Cf aA i):∃k:Nat,Cf aA i=k/\k<aA.length/\drawn (itA aA k):=by
 rcases Yq aA i with h|⟨-,-,k,h1,-,h2,h3,-⟩
 ·omega
 ·exact⟨k,h1,h2,hall k h2 ⟨by have:=h3.1;omega,by have:=h3.1;omega⟩⟩
theorem Zy0 {aA:List Itm} {i:Nat} (hd:drawn (itA aA i)) (h2:(itA aA i).kind≠3) (hall:∀k<aA.length,AF (itA aA k)->drawn (itA aA k)):(∀p∈Lt aA i,bd 67108864 p)/\(Lt aA i).length<=66:=by
 unfold Lt;by_cases h:0<=Cf aA i
 ·rw[aa h];obtain⟨k,hk,hk1,hk2⟩:=Td hall h;obtain⟨h1,h2,h3⟩:=L2 (aA:=aA) (i:=i) (k:=(Cf aA i).toNat) hd (by rw[hk];simpa using hk2);exact⟨λp hp=>A0 (h1 p (dk hp)) (by decide),by rw[List.length_take];omega⟩
 ·rw[ab h];refine⟨λp hp=>XO hd.1 p (de hp),?_⟩;unfold Cu;rw[ab h2];simp
theorem Qbg {aA:List Itm} {i:Nat} {frm:Int} (hd:drawn (itA aA i)) (hf:Md aA i frm) (hall:∀k<aA.length,AF (itA aA k)->drawn (itA aA k)):
  (∀p∈CD aA i frm,bd 67108864 p)/\(CD aA i frm).length<=65537:=by
 unfold CD;by_cases hs:smI (itA aA i)
 ·rw[aa hs];obtain⟨h1,h2⟩:=Zxx hd hf;obtain⟨h3,h4⟩:=Zy0 hd (by have:=hs.1;omega) hall;refine⟨λp hp=> ?_,by rw[ao,ao];simp;omega⟩;rcases bj.1 hp with hp|hp
  ·rcases bj.1 hp with hp|hp
   ·exact h1 p hp
   ·simp at hp;subst hp;exact A0 (Lm hd.1.2.1 hd.1.2.2.1) (by decide)
  ·exact h3 p hp
 ·rw[ab hs];exact⟨XO hd.1,(Q5d _).2⟩
theorem Q7j (l:List Pt):List.drop (Int.toNat 1) (l.map ptR)=(l.drop 1).map ptR:=by rw[show Int.toNat 1=1 from rfl,List.map_drop]
theorem TM (l:List Pt):List.take (Int.toNat 1) (l.map ptR)=(l.take 1).map ptR:=by rw[show Int.toNat 1=1 from rfl,List.map_take]
end Go.Bm
namespace Go.Bm
open Classical
def Ch (it:Itm):Prop:=it.kind<1\/it.kind>14\/(AF it/\(¬DB it\/(it.kind≠1/\(it.feed<1\/it.feed>60000000))\/it.blend<0\/it.blend>1000))\/(¬AF it/\it.kind=8/\(it.n<3\/it.n>5\/it.speed<0\/it.speed>30000))
noncomputable def Hk (aA:List Itm):Nat->Nat->Int->Int
 |0,_,_=>0
 |k+1,i,last=>if Ch (itA aA i)then 1 else if AF (itA aA i)then(if 0<=last/\(itA aA last.toNat).to≠(itA aA i).fr then 13 else Hk aA k (i+1) i)else Hk aA k (i+1) last
noncomputable def C2 (aA:List Itm):Int:=if aA.length>20000 then 10 else Hk aA aA.length 0 (-1)
theorem Qlf {aA:List Itm}:∀(k i:Nat) (last:Int),i+k=aA.length->Hk aA k i last=0->∀j,i<=j->j<aA.length-> ¬Ch (itA aA j)
 |0,i,last,hi,_,j,h1,h2=>by omega
 |k+1,i,last,hi,h,j,h1,h2=>by
  unfold Hk at h;split at h
  ·omega
  ·rename_i c;by_cases hij:j=i
   ·subst hij;exact c
   ·split at h
    ·split at h
     ·omega
     ·exact Qlf k (i+1) _ (by omega) h j (by omega) h2
    ·exact Qlf k (i+1) _ (by omega) h j (by omega) h2
theorem Pp {aA:List Itm} (h:C2 aA=0):aA.length<=20000/\∀j,j<aA.length-> ¬Ch (itA aA j):=by
 unfold C2 at h;split at h
 ·omega
 ·exact⟨by omega,λj hj=>Qlf _ 0 _ (by omega) h j (by omega) hj⟩
theorem L7 {it:Itm} (h: ¬Ch it) (hm:AF it):drawn it/\(it.kind=1\/1<=it.feed/\it.feed<=60000000):=by
 unfold Ch at h;have hv:DB it:=by
  by_cases c:DB it
  ·exact c
  ·exact absurd (.inr (.inr (.inl ⟨hm, .inl c⟩))) h
 have h2: ¬((it.kind≠1/\(it.feed<1\/it.feed>60000000))\/it.blend<0\/it.blend>1000):=λc=>h (.inr (.inr (.inl ⟨hm, .inr c⟩)));exact⟨⟨hv,by omega,by omega⟩,by omega⟩
theorem Z2k {it:Itm} (h: ¬Ch it) (h8:it.kind=8):0<=it.speed/\it.speed<=30000:=by
 unfold Ch at h;have hm: ¬AF it:=λc=>by have:=c.2;omega
 have h2: ¬(it.n<3\/it.n>5\/it.speed<0\/it.speed>30000):=λc=>h (.inr (.inr (.inr ⟨hm,h8,c⟩)));omega
noncomputable def Bi (item feed lead:Int) (s:List Sgm×Int×Pt) (q:Pt):List Sgm×Int×Pt:=if q=s.2.2 then s else(s.1++[⟨q,AD s.2.2 q,item,feed,lead⟩],s.2.1+AD s.2.2 q,q)
theorem Tu {item feed lead:Int}:∀(pts:List Pt) (s:List Sgm×Int×Pt),(∀p∈pts,bd 67108864 p)->bd 67108864 s.2.2->0<=s.2.1->
  (pts.foldl (Bi item feed lead) s).1.length<=s.1.length+pts.length/\s.2.1<=(pts.foldl (Bi item feed lead) s).2.1/\(pts.foldl (Bi item feed lead) s).2.1<=s.2.1+pts.length*268435456/\bd 67108864 (pts.foldl (Bi item feed lead) s).2.2
 |[],s,_,h2,h3=>⟨by simp,by simp,by simp,h2⟩
 |q::pts,s,h1,h2,h3=>by
  rw[List.foldl_cons];have hq:=h1 q (by simp);have hl:=IH h2 hq;have hs:Bi item feed lead s q=s\/Bi item feed lead s q=(s.1++[⟨q,AD s.2.2 q,item,feed,lead⟩],s.2.1+AD s.2.2 q,q):=by unfold Bi;split<;>simp
  rcases hs with hs|hs
  ·rw[hs];obtain⟨a,b,c,d⟩:=Tu pts s (λp hp=>h1 p (by simp[hp])) h2 h3 (item:=item) (feed:=feed) (lead:=lead);exact⟨by simp;omega,b,by simp;omega,d⟩
  ·rw[hs];obtain⟨a,b,c,d⟩:=Tu pts (s.1++[⟨q,AD s.2.2 q,item,feed,lead⟩],s.2.1+AD s.2.2 q,q) (λp hp=>h1 p (by simp[hp])) hq (by simp only;omega) (item:=item) (feed:=feed) (lead:=lead);simp only[ao,bh,cd]at a b c;exact⟨by simp;omega,by omega,by simp;omega,d⟩
structure BSt where
 aF:List Sgm
 aD:List Mrk
 (len speed frm:Int)
 begun:Bool
 (start at_:Pt)
def O7 (it:Itm):Int:=if syI it then mn (it.feed*16) 16777216 else 0
def PJ (it:Itm) (s:Int):Int:=if it.kind=8/\(it.n=3\/it.n=4)then it.speed else s
noncomputable def FW (aA:List Itm) (i:Nat) (s:BSt):List Sgm×Int×Pt:=
 (CD aA i s.frm).foldl (Bi i (HV (itA aA i) s.speed) (O7 (itA aA i))) (s.aF,s.len,if s.begun=true then s.at_ else Az (itA aA i).fr)
noncomputable def FV (aA:List Itm) (i:Nat) (s:BSt):BSt:=
 if AF (itA aA i)then
  ⟨(FW aA i s).1,s.aD++[⟨(FW aA i s).2.1,Sf aA i,i⟩],(FW aA i s).2.1,s.speed,if 0<=Cf aA i then i else-1,true,if s.begun=true then s.start else Az (itA aA i).fr,(FW aA i s).2.2⟩
 else⟨s.aF,s.aD++[⟨s.len,Sl (itA aA i),i⟩],s.len,PJ (itA aA i) s.speed,s.frm,s.begun,s.start,s.at_⟩
noncomputable def Ay (aA:List Itm):Nat->BSt
 |0=>⟨[],[],0,0,-1,false,⟨0,0,0⟩,⟨0,0,0⟩⟩
 |i+1=>FV aA i (Ay aA i)
structure BOK (aA : List Itm) (i : Nat) (s : BSt) : Prop where
 aF:s.aF.length<=i*65537
 aD:s.aD.length=i
 len:0<=s.len/\s.len<=i*65537*268435456
 speed:0<=s.speed/\s.speed<=30000
 frm:Md aA i s.frm
 at_:s.begun=true->bd 67108864 s.at_
theorem Qse {aA:List Itm} {i:Nat} {s:BSt} (hi:i<aA.length) (hright:∀j<aA.length,¬Ch (itA aA j)) (h:BOK aA i s):BOK aA (i+1) (FV aA i s):=by
 have hall:∀k<aA.length,AF (itA aA k)->drawn (itA aA k):=λk hk hm=>(L7 (hright k hk) hm).1;unfold FV;by_cases hm:AF (itA aA i)
 ·rw[aa hm];have hd:=hall i hi hm;obtain⟨p1,p2⟩:=Qbg hd h.frm hall;have ha:bd 67108864 (if s.begun=true then s.at_ else Az (itA aA i).fr):=by
   by_cases hb:s.begun=true
   ·rw[aa hb];exact h.at_ hb
   ·rw[ab hb];exact A0 (FA hd.1.2.1) (by decide)
  obtain⟨a1,a2,a3,a4⟩:=Tu (item:=i) (feed:=HV (itA aA i) s.speed) (lead:=O7 (itA aA i)) (CD aA i s.frm) (s.aF,s.len,if s.begun=true then s.at_ else Az (itA aA i).fr) p1 ha h.len.1;have h1:=h.aF;have h2:=h.len;have e1:(i+1)*65537=i*65537+65537:=by rw[Nat.succ_mul]
  refine⟨?_,?_,?_,h.speed,?_,λ_=>a4⟩
  ·simp only at a1;show(FW aA i s).1.length<=_;unfold FW;omega
  ·show(s.aD++[_]).length=_;rw[ao,h.aD];rfl
  ·show 0<=(FW aA i s).2.1/\(FW aA i s).2.1<=_;unfold FW;simp only at a2 a3;have e2:(((i+1:Nat):Int))*65537*268435456=(i:Int)*65537*268435456+65537*268435456:=by
    rw[Int.natCast_add,Int.natCast_one,Int.add_mul,Int.add_mul];rfl
   constructor
   ·omega
   ·rw[e2];omega
  ·show Md aA (i+1) (if 0<=Cf aA i then(i:Int)else-1);split
   ·exact .inr ⟨i,rfl,hi,hd⟩
   ·exact .inl rfl
 ·rw[ab hm];have h2:=h.len;have h3:=h.aF;have e1:(i+1)*65537=i*65537+65537:=by rw[Nat.succ_mul]
  refine⟨by show s.aF.length<=_;rw[e1];exact bv h3 (Nat.le_add_right _ _),?_,?_,?_,h.frm,h.at_⟩
  ·show(s.aD++[_]).length=_;rw[ao,h.aD];rfl
  ·have e2:(((i+1:Nat):Int))*65537*268435456=(i:Int)*65537*268435456+65537*268435456:=by
    rw[Int.natCast_add,Int.natCast_one,Int.add_mul,Int.add_mul];rfl
   show 0<=s.len/\s.len<=_;rw[e2];omega
  ·show 0<=PJ (itA aA i) s.speed/\PJ (itA aA i) s.speed<=30000;unfold PJ;split
   ·rename_i h8;exact Z2k (hright i hi) h8.1
   ·exact h.speed
theorem Zji (aA:List Itm):BOK aA 0 ⟨[],[],0,0,-1,false,⟨0,0,0⟩,⟨0,0,0⟩⟩:=by
 refine⟨Nat.zero_le _,cd,⟨df _,?_⟩,⟨df _,?_⟩, .inl rfl,λh=>by cases h⟩
 ·show(0:Int)<=((0:Nat):Int)*65537*268435456;rw[show((0:Nat):Int)=0 from rfl,Int.zero_mul,Int.zero_mul];exact df _
 ·show(0:Int)<=30000;omega
theorem M_ {aA:List Itm} (hright:∀j<aA.length,¬Ch (itA aA j)):∀i,i<=aA.length->BOK aA i (Ay aA i)
 |0,_=>by rw[Ay];exact Zji aA
 |i+1,hi=>by rw[Ay];exact Qse (by omega) hright (M_ hright i (by omega))
noncomputable def Bc (aA:List Itm):Pth:=⟨(Ay aA aA.length).start,(Ay aA aA.length).aF,(Ay aA aA.length).aD⟩
def Ft:Pt->List Sgm->Pt
 |a,[]=>a
 |_,g::l=>Ft g.to l
abbrev B26:Nat:=67108864
def OA:Pt->List Sgm->Prop
 |_,[]=>True
 |a,g::l=>g.len=AD a g.to/\g.to≠a/\bd B26 g.to/\OA g.to l
def AJ:List Sgm->Int
 |[]=>0
 |g::l=>g.len+AJ l
theorem Uk (g:Sgm):∀(a:Pt) (l:List Sgm),Ft a (l++[g])=g.to
 |_,[]=>rfl
 |_,h::l=>by simp only[ay,Ft];exact Uk g h.to l
theorem Qx8 {g:Sgm}:∀{a:Pt} {l:List Sgm},OA a l->g.len=AD (Ft a l) g.to->g.to≠Ft a l->bd B26 g.to->OA a (l++[g])
 |a,[],_,h1,h2,h3=>⟨h1,h2,h3,trivial⟩
 |a,k::l,h,h1,h2,h3=>⟨h.1,h.2.1,h.2.2.1,Qx8 h.2.2.2 h1 h2 h3⟩
theorem Qph (g:Sgm):∀(l:List Sgm),AJ (l++[g])=AJ l+g.len
 |[]=>by simp[AJ]
 |k::l=>by simp only[ay,AJ];rw[Qph g l];omega
def Vd (start:Pt) (s:List Sgm×Int×Pt):Prop:=OA start s.1/\Ft start s.1=s.2.2/\AJ s.1=s.2.1
theorem Yo {start:Pt} {item feed lead:Int}:∀(pts:List Pt) (s:List Sgm×Int×Pt),(∀p∈pts,bd B26 p)->Vd start s->Vd start (pts.foldl (Bi item feed lead) s)
 |[],s,_,h=>h
 |q::pts,s,hp,h=>by
  rw[List.foldl_cons];refine Yo pts _ (λp hp'=>hp p (by simp[hp'])) ?_;unfold Bi;by_cases c:q=s.2.2
  ·rw[aa c];exact h
  ·rw[ab c];obtain⟨h1,h2,h3⟩:=h;refine⟨Qx8 h1 (by rw[h2]) (by rw[h2];exact c) (hp q (by simp)),Uk _ _ _,?_⟩;simp only[Qph,h3]
structure BInv (s : BSt) : Prop where
 begun:s.begun=true->bd B26 s.start/\Vd s.start (s.aF,s.len,s.at_)
 empty:s.begun=false->s.aF=[]/\s.len=0/\s.start=⟨0,0,0⟩
theorem Zm4 {aA:List Itm} {i:Nat} {s:BSt} (hi:i<aA.length) (hright:∀j<aA.length,¬Ch (itA aA j)) (hok:BOK aA i s) (h:BInv s):BInv (FV aA i s):=by
 have hall:∀k<aA.length,AF (itA aA k)->drawn (itA aA k):=λk hk hm=>(L7 (hright k hk) hm).1;unfold FV;by_cases hm:AF (itA aA i)
 ·rw[aa hm];have hd:=hall i hi hm;obtain⟨p1,-⟩:=Qbg hd hok.frm hall;refine⟨λ_=> ?_,λhb=>(by cases hb)⟩;unfold FW;by_cases hb:s.begun=true
  ·rw[aa hb,aa hb];obtain⟨g1,g2⟩:=h.begun hb;exact⟨g1,Yo _ _ p1 g2⟩
  ·rw[ab hb,ab hb];obtain⟨g1,g2,g3⟩:=h.empty (by simpa using hb);refine⟨A0 (FA hd.1.2.1) (by decide),Yo _ _ p1 ?_⟩;rw[g1,g2];exact⟨trivial,rfl,rfl⟩
 ·rw[ab hm];exact⟨h.begun,h.empty⟩
theorem Ub {aA:List Itm} (hright:∀j<aA.length,¬Ch (itA aA j)):∀i,i<=aA.length->BInv (Ay aA i)
 |0,_=>by rw[Ay];exact⟨λh=>(by cases h),λ_=>⟨rfl,rfl,rfl⟩⟩
 |i+1,hi=>by rw[Ay];exact Zm4 (by omega) hright (M_ hright i (by omega)) (Ub hright i (by omega))
structure GoodPath (p : Pth) : Prop where
 start:bd B26 p.start
 aF:OA p.start p.aF
 count:p.aF.length<=983055
theorem Qz6 {aA:List Itm} (hlen:aA.length<=15) (hc:C2 aA=0):GoodPath (Bc aA):=by
 have hright:=(Pp hc).2;have h1:=M_ hright aA.length (co _);have h2:=Ub hright aA.length (co _);have hs:=h1.aF;unfold Bc;by_cases hb:(Ay aA aA.length).begun=true
 ·obtain⟨g1,g2,-⟩:=h2.begun hb;exact⟨g1,g2,by simp only;omega⟩
 ·obtain⟨g1,-,g3⟩:=h2.empty (by simpa using hb);refine⟨?_,?_,?_⟩
  ·simp only[g3];unfold bd;simp
  ·simp only[g1];trivial
  ·simp only[g1];simp
theorem Q3y {a b:Pt} (ha:bd B26 a) (hb:bd B26 b) (h:b≠a):1<=AD a b/\AD a b<=268435456:=by
 obtain⟨-,h1,h2,-⟩:=Qix ha hb;have h3:sqD a b≠0:=λe=>h (V1.1 e).symm;have h4:=Q7 a b;have h5:=IH ha hb;refine⟨?_,h5.2⟩;by_cases c:AD a b=0
 ·rw[c]at h2;omega
 ·omega
theorem Qhn {a:Pt} {l:List Sgm} (ha:bd B26 a) (h:OA a l):∀g∈l,1<=g.len/\g.len<=268435456/\bd B26 g.to:=by
 induction l generalizing a with
 |nil=>simp
 |cons k l ih=>
  obtain⟨h1,h2,h3,h4⟩:=h;intro g hg;rcases aq.1 hg with rfl|hg
  ·rw[h1];exact⟨(Q3y ha h3 h2).1,(Q3y ha h3 h2).2,h3⟩
  ·exact ih h3 h4 g hg
theorem ZC {l:List Sgm} (h:∀g∈l,1<=g.len/\g.len<=268435456/\bd B26 g.to):(l.length:Int)<=AJ l/\AJ l<=l.length*268435456:=by
 induction l with
 |nil=>simp[AJ]
 |cons k l ih=>
  have:=ih λg hg=>h g (by simp[hg]);have:=h k (by simp);simp only[AJ,bh];omega
def Nd (a:Pt) (g:Sgm) (d:Int):Pt:=⟨a.x+Br ((g.to.x-a.x)*d) g.len,a.y+Br ((g.to.y-a.y)*d) g.len,a.z+Br ((g.to.z-a.z)*d) g.len⟩
def atL:Pt->List Sgm->Int->Pt
 |a,[],_=>a
 |a,g::l,s=>if s<g.len then Nd a g s else atL g.to l (s-g.len)
def atP (p:Pth) (s:Int):Pt:=atL p.start p.aF (max s 0)
def Bp:List Sgm->Int->Nat×Int
 |[],s=>(0,s)
 |[g],s=>if s<g.len then(0,s)else(0,g.len)
 |g::h::l,s=>if s<g.len then(0,s)else((Bp (h::l) (s-g.len)).1+1,(Bp (h::l) (s-g.len)).2)
def EV (a:Pt) (l:List Sgm) (i:Nat):Pt:=Ft a (l.take i)
def sg0:Sgm:=⟨⟨0,0,0⟩,0,0,0,0⟩
def sgA (l:List Sgm) (i:Nat):Sgm:=l.getD i sg0
theorem OK {l:List Sgm} {i:Nat} (h:i<l.length):sgA l i=l[i]:=by unfold sgA;simp[h]
theorem LP {l:List Sgm} {i:Nat} (h:i<l.length):nth [] (l.map Au) i=Au (sgA l i):=by rw[OK h];exact IU _ _ _ _ h
theorem Hs {l:List Sgm} {i:Nat} (h:i<l.length):sgA l i∈l:=by rw[OK h];exact bq h
theorem KB (a:Pt) (l:List Sgm):EV a l 0=a:=by unfold EV;simp[Ft]
theorem Zf (a:Pt) (g:Sgm) (l:List Sgm) (i:Nat):EV a (g::l) (i+1)=EV g.to l i:=by unfold EV;rw[List.take_succ_cons];rfl
theorem Yg (g:Sgm) (l:List Sgm) (i:Nat):sgA (g::l) (i+1)=sgA l i:=by unfold sgA;simp
theorem ST:∀{l:List Sgm} {i:Nat} {a:Pt},i<l.length->EV a l (i+1)=(sgA l i).to
 |g::l,0,a,_=>by rw[Zf,KB];rfl
 |g::l,i+1,a,h=>by rw[Zf,Yg];exact ST (by simpa using h)
theorem Qe2 {x n:Int} (hn:0<n):Br (x*n) n=x:=RF hn
theorem Ztq {a:Pt} {g:Sgm} (h:0<g.len):Nd a g g.len=g.to:=by
 unfold Nd;rw[Qe2 h,Qe2 h,Qe2 h];rw[Dt];exact⟨by simp only;omega,by simp only;omega,by simp only;omega⟩
theorem Xv:∀{l:List Sgm} {a:Pt} {s:Int},l≠[]->(∀g∈l,1<=g.len)->0<=s->
  (Bp l s).1<l.length/\0<=(Bp l s).2/\(Bp l s).2<=(sgA l (Bp l s).1).len/\atL a l s=Nd (EV a l (Bp l s).1) (sgA l (Bp l s).1) (Bp l s).2
 |[],_,_,h,_,_=>absurd rfl h
 |[g],a,s,_,hg,hs=>by
  have h1:=hg g (by simp);unfold Bp;by_cases c:s<g.len
  ·rw[aa c];refine⟨by simp,hs,by show s<=g.len;omega,?_⟩;unfold atL;rw[aa c,KB];rfl
  ·rw[ab c];refine⟨by simp,by simp only;omega,df _,?_⟩;unfold atL;rw[ab c,KB];show atL g.to [] _=Nd a g g.len;rw[Ztq (by omega)];rfl
 |g::h::l,a,s,_,hg,hs=>by
  have h1:=hg g (by simp);unfold Bp;by_cases c:s<g.len
  ·rw[aa c];refine⟨by simp,hs,by show s<=g.len;omega,?_⟩;unfold atL;rw[aa c,KB];rfl
  ·rw[ab c];obtain⟨k1,k2,k3,k4⟩:=Xv (l:=h::l) (a:=g.to) (s:=s-g.len) (by simp) (λk hk=>hg k (by simp at hk⊢;exact .inr hk)) (by omega);refine⟨by simp at k1⊢;omega,k2,?_,?_⟩
   ·simp only[Yg];exact k3
   ·rw[show atL a (g::h::l) s=atL g.to (h::l) (s-g.len)from by rw[atL,ab c]];simp only[Zf,Yg];exact k4
theorem Qc9 {x n:Int} {A:Nat} (hn:0<n) (h: -(A*n)<=x/\x<=A*n):(Br x n).natAbs<=A:=by
 have m1:=RS hn h.2;have m2:=RS hn h.1;rw[show-((A:Int)*n)= -(A:Int)*n by rw[Int.neg_mul]]at m2;rw[RF hn]at m1 m2;omega
theorem Q3h {D L d:Int} (hL:0<L) (hD:D.natAbs<=134217728) (hd:0<=d/\d<=L):(Br (D*d) L).natAbs<=134217728:=by
 refine Qc9 hL ?_;have h1:D*d<=134217728*d:=Int.mul_le_mul_of_nonneg_right (by omega) hd.1;have h2: -134217728*d<=D*d:=Int.mul_le_mul_of_nonneg_right (by omega) hd.1;have e:((134217728:Nat):Int)=134217728:=rfl;rw[e];omega
structure SegOK (l : List Sgm) : Prop where
 seg:∀g∈l,1<=g.len/\g.len<=268435456/\bd B26 g.to
 count:l.length<=983055
theorem GoodPath.ok {p:Pth} (h:GoodPath p):SegOK p.aF:=⟨Qhn h.start h.aF,h.count⟩
theorem Qr3 {a:Pt} {l:List Sgm} (ha:bd B26 a) (h:SegOK l) {i:Nat} (hi:i<l.length):bd B26 (EV a l i):=by
 cases i with
 |zero=>rw[KB];exact ha
 |succ i=>rw[ST (by omega)];exact(h.seg _ (Hs (by omega))).2.2
theorem Q56 {l:List Sgm} (h:SegOK l):∀(k i:Nat) (v:Int),i+k=l.length->0<=v->v+k*268435456<=4000000000000000000->
  An RV [I v, .view Ag (l.map Au),I l.length,I i]=some (1,[I (v+AJ (l.drop i))])
 |0,i,v,hi,_,_=>by
  refine A5 ?_ (by simp);rw[Q0q,A7 (by omega),List.drop_of_length_le (by omega)];simp[AJ]
 |k+1,i,v,hi,h0,h1=>by
  have hlt:i<l.length:=by omega
  have hcn:=h.count;have hg:=h.seg _ (Hs hlt);have hst:RV [I v, .view Ag (l.map Au),I l.length,I i]=some (0,[I (v+(sgA l i).len), .view Ag (l.map Au),I l.length,I (i+1:Nat)]):=by
   rw[Q0q];simp only[go_sem,ag,ak,LP hlt];rw[aa (by omega),aa (by omega),Ae (x:=v+_) (by omega),Ae (by omega)];rfl
  rw[Bn hst,Q56 h k (i+1) _ (by omega) (by omega) (by omega)];have e:l.drop i=sgA l i::l.drop (i+1):=by rw[OK hlt];exact Mw _ _ hlt
  rw[e];simp only[AJ,Int.add_assoc]
theorem Qvd {p:Pth} (h:SegOK p.aF):I5 (Bj p)=some [I (AJ p.aF)]:=by
 have hl:=Q56 h p.aF.length 0 0 (by omega) (by omega) (by have:=h.count;omega);have hl':Uj [I 0, .view Ag (p.aF.map Au),I p.aF.length,I 0]=some (1,[I (0+AJ (p.aF.drop 0))]):=hl;rw[List.drop_zero,Int.zero_add]at hl';unfold I5;generalize Uj=N at*;rw[Zew];simp only[go_sem,ag,hl']
theorem Qzo {g h:Sgm} {l:List Sgm} {s:Int} (c: ¬s<g.len):Bp (g::h::l) s=((Bp (h::l) (s-g.len)).1+1,(Bp (h::l) (s-g.len)).2):=by rw[Bp,ab c]
theorem Q9u {p:Pth} (h:SegOK p.aF):∀(k i:Nat) (s:Int),i+k=p.aF.length->1<=k->0<=s/\s<=9223372036854775807->
  An T9 (I s:: .view Ag (p.aF.map Au)::I p.aF.length::I i::Bj p)=some (1,[I (i+(Bp (p.aF.drop i) s).1:Nat),I (Bp (p.aF.drop i) s).2])
 |k+1,i,s,hi,_,hs=>by
  have hlt:i<p.aF.length:=by omega
  have hcnt:=h.count;have hg:=h.seg _ (Hs hlt);have e:p.aF.drop i=sgA p.aF i::p.aF.drop (i+1):=by rw[OK hlt];exact Mw _ _ hlt
  have hst:T9 (I s:: .view Ag (p.aF.map Au)::I p.aF.length::I i::Bj p)=if s<(sgA p.aF i).len then some (1,[I i,I s])else if k=0 then some (1,[I i,I (sgA p.aF i).len])else some (0,I (s-(sgA p.aF i).len):: .view Ag (p.aF.map Au)::I p.aF.length::I (i+1:Nat)::Bj p):=by
   rw[Qtv];simp only[go_sem,ag,ak,LP hlt];rw[aa (by omega),aa (by omega),Ae (x:=(p.aF.length:Int)-1) (by omega),Ae (x:=(i:Int)+1) (by omega)];by_cases c:s<(sgA p.aF i).len
   ·rw[aa c,aa c]
   ·rw[ab c,ab c];by_cases c2:k=0
    ·rw[aa (by omega),aa c2]
    ·rw[ab (by omega),ab c2,Ae (by omega)];rfl
  by_cases c:s<(sgA p.aF i).len
  ·rw[aa c]at hst;rw[A5 hst (by simp),e];cases p.aF.drop (i+1)with
   |nil=>rw[Bp,aa c];rfl
   |cons b l=>rw[Bp,aa c];rfl
  ·rw[ab c]at hst;by_cases c2:k=0
   ·rw[aa c2]at hst;rw[A5 hst (by simp),e,List.drop_of_length_le (by omega),Bp,ab c];rfl
   ·rw[ab c2]at hst;rw[Bn hst,Q9u h k (i+1) _ (by omega) (by omega) (by omega),e];have e2:p.aF.drop (i+1)=sgA p.aF (i+1)::p.aF.drop (i+1+1):=by rw[OK (show i+1<p.aF.length by omega)];exact Mw _ _ (by omega)
    rw[e2,Qzo c,<-e2];simp only;rw[show i+1+(Bp (p.aF.drop (i+1)) (s-(sgA p.aF i).len)).1=i+((Bp (p.aF.drop (i+1)) (s-(sgA p.aF i).len)).1+1) by omega]
theorem Qpb {p:Pth} (h:SegOK p.aF) {s:Int} (hs:i64 s):EK (Bj p++[I s])=if p.aF=[]then some [I (-1),I 0]else some [I (Bp p.aF (max s 0)).1,I (Bp p.aF (max s 0)).2]:=by
 unfold i64 at hs;have hmx:mx s 0=max s 0:=mx_max' s 0;by_cases c:p.aF=[]
 ·rw[aa c];have hend:OO (I (max s 0):: .view Ag []::I 0::I 0::Bj p)=some (2,[]):=by
   refine A5 ?_ (by simp);rw[Qtv,A7 (by omega)]
  unfold EK;generalize OO=N at*;have he:=Qv3 N p.start.x p.start.y p.start.z (p.aF.map Au) (p.aD.map At) s;refine Eq.trans he ?_;rw[hmx,c];have hend':N [I (max s 0), .view Ag [],I 0,I 0,I p.start.x,I p.start.y,I p.start.z, .view Ag [], .view AE (p.aD.map At)]=some (2,[]):=by
   have:=hend;unfold Bj at this;rw[c]at this;exact this
  simp only[go_sem,dh,cd];simp only[Int.natCast_zero];rw[hend'];simp
 ·rw[ab c];have hpos:0<p.aF.length:=by
   cases hh:p.aF with
   |nil=>exact absurd hh c
   |cons _ _=>simp
  have hL:=Q9u h p.aF.length 0 (max s 0) (by omega) (by omega) (by omega);have hL':OO [I (max s 0), .view Ag (p.aF.map Au),I p.aF.length,I 0,I p.start.x,I p.start.y,I p.start.z, .view Ag (p.aF.map Au), .view AE (p.aD.map At)]=some (1,[I (0+(Bp (p.aF.drop 0) (max s 0)).1:Nat),I (Bp (p.aF.drop 0) (max s 0)).2]):=hL;rw[List.drop_zero,Nat.zero_add]at hL';unfold EK;generalize OO=N at*;have he:=Qv3 N p.start.x p.start.y p.start.z (p.aF.map Au) (p.aD.map At) s;refine Eq.trans he ?_;rw[hmx];simp only[go_sem,ag,hL']
 where mx_max' (a b:Int):mx a b=max a b:=by unfold mx;rw[Int.max_def];split<;>split<;>omega
theorem Zwh {MM MF:Fn} {p:Pth} (h:GoodPath p) {s:Int} (hF:MF (Bj p++[I s])=if p.aF=[]then some [I (-1),I 0]else some [I (Bp p.aF (max s 0)).1,I (Bp p.aF (max s 0)).2])
  (hM:∀{a b c:Int},a.natAbs<=134217728->b.natAbs<=268435456->(0<c/\c<=268435456)->MM [I a,I b,I c,I 2]=some [I (Br (a*b) c),B true]):
  WY MM MF (Bj p++[I s])=some (ptR (atP p s)):=by
 have he:=Z5y (AH:=MM) (Dx:=MF) p.start.x p.start.y p.start.z (p.aF.map Au) (p.aD.map At) s;refine Eq.trans he ?_;simp only[ay,av,Bj]at hF;unfold atP;by_cases c:p.aF=[]
 ·rw[aa c]at hF;simp only[hF,go_sem];rw[aa (by omega),c];rfl
 ·rw[ab c]at hF;have hok:=h.ok;obtain⟨f1,f2,f3,f4⟩:=Xv (l:=p.aF) (a:=p.start) (s:=max s 0) c (λg hg=>(hok.seg g hg).1) (by omega);rw[f4];have hg:=hok.seg _ (Hs f1);have hv:=Qr3 h.start hok f1;have hr:=LP f1;have hcnt:=hok.count;generalize(Bp p.aF (max s 0)).1=i at*;generalize(Bp p.aF (max s 0)).2=d at*;have hdn:d.natAbs<=268435456:=by omega
  have fin:∀{a:Pt},bd B26 a->(MM [I (wrap .i64 ((sgA p.aF i).to.x-a.x)),I d,I (sgA p.aF i).len,I 2]=some [I (Br (((sgA p.aF i).to.x-a.x)*d) (sgA p.aF i).len),B true]/\wrap .i64 (a.x+Br (((sgA p.aF i).to.x-a.x)*d) (sgA p.aF i).len)=a.x+Br (((sgA p.aF i).to.x-a.x)*d) (sgA p.aF i).len)/\
    (MM [I (wrap .i64 ((sgA p.aF i).to.y-a.y)),I d,I (sgA p.aF i).len,I 2]=some [I (Br (((sgA p.aF i).to.y-a.y)*d) (sgA p.aF i).len),B true]/\wrap .i64 (a.y+Br (((sgA p.aF i).to.y-a.y)*d) (sgA p.aF i).len)=a.y+Br (((sgA p.aF i).to.y-a.y)*d) (sgA p.aF i).len)/\
    (MM [I (wrap .i64 ((sgA p.aF i).to.z-a.z)),I d,I (sgA p.aF i).len,I 2]=some [I (Br (((sgA p.aF i).to.z-a.z)*d) (sgA p.aF i).len),B true]/\wrap .i64 (a.z+Br (((sgA p.aF i).to.z-a.z)*d) (sgA p.aF i).len)=a.z+Br (((sgA p.aF i).to.z-a.z)*d) (sgA p.aF i).len):=by
   intro a ha;have key:∀u v:Int,u.natAbs<=B26->v.natAbs<=B26->MM [I (wrap .i64 (u-v)),I d,I (sgA p.aF i).len,I 2]=some [I (Br ((u-v)*d) (sgA p.aF i).len),B true]/\wrap .i64 (v+Br ((u-v)*d) (sgA p.aF i).len)=v+Br ((u-v)*d) (sgA p.aF i).len:=by
    intro u v hu hv;have h1:=IB hu hv;rw[In h1 (by decide)];refine⟨hM (bv h1 (by decide)) hdn (by omega),?_⟩;exact In (RX hv (Q3h (by omega) (bv h1 (by decide)) ⟨f2,f3⟩)) (by decide)
   exact⟨key _ _ hg.2.2.1 ha.1,key _ _ hg.2.2.2.1 ha.2.1,key _ _ hg.2.2.2.2 ha.2.2⟩
  have hin:(0:Int)<=(i:Int)/\(i:Int)<(p.aF.length:Int):=by omega
  simp only[hF,go_sem,ag,ak,hr,aa hin];rw[ab (by omega)];by_cases c0:i=0
  ·subst c0;obtain⟨⟨m1,w1⟩,⟨m2,w2⟩,m3,w3⟩:=fin h.start;rw[ab (by omega),KB];simp only[m1,m2,m3,go_sem,w1,w2,w3];rfl
  ·obtain⟨j,rfl⟩:∃j,i=j+1:=⟨i-1,by omega⟩;have hj:=LP (l:=p.aF) (i:=j) (by omega);have hgj:=hok.seg _ (Hs (l:=p.aF) (i:=j) (by omega));obtain⟨⟨m1,w1⟩,⟨m2,w2⟩,m3,w3⟩:=fin hgj.2.2;rw[aa (by omega),ST (by omega)];have e1:wrap .i64 (((j+1:Nat):Int)-1)=(j:Int):=by rw[Ae (by omega)];omega
   rw[e1];simp only[ak,hj,go_sem];rw[aa (by omega)];simp only[m1,m2,m3,go_sem,w1,w2,w3];rfl
theorem Q6z {a b c:Int} (ha:a.natAbs<=134217728) (hb:b.natAbs<=268435456) (hc:0<c/\c<=268435456):Bz [I a,I b,I c,I 2]=some [I (Br (a*b) c),B true]:=by
 have:=dl ha hb;exact Sr (by unfold i64;omega) (by unfold i64;omega) (by omega) (by omega)
theorem Ztk {p:Pth} (h:GoodPath p) {s:Int} (hs:i64 s):QH (Bj p++[I s])=some (ptR (atP p s)):=
 Zwh h (Qpb h.ok hs) Q6z
theorem Qfs {p:Pth} (h:GoodPath p):0<=AJ p.aF/\AJ p.aF<=263886834032640:=by
 have h1:=ZC h.ok.seg;have h2:=h.count;omega
theorem Z6n {α:Type} (d x:α) (l:List α):nth d (x::l) 40=nth d l 39:=by simp[nth]
theorem Znt {α:Type} (d x:α) (l:List α):nth d (x::l) 41=nth d l 40:=by simp[nth]
theorem Z12 {α:Type} (d x:α) (l:List α):nth d (x::l) 42=nth d l 41:=by simp[nth]
theorem Zs3 {α:Type} (d x:α) (l:List α):nth d (x::l) 43=nth d l 42:=by simp[nth]
theorem Zlg {α:Type} (d x:α) (l:List α):nth d (x::l) 44=nth d l 43:=by simp[nth]
theorem Z60 {α:Type} (d x:α) (l:List α):nth d (x::l) 45=nth d l 44:=by simp[nth]
theorem Zl1 {α:Type} (d x:α) (l:List α):nth d (x::l) 46=nth d l 45:=by simp[nth]
theorem Zoz {α:Type} (d x:α) (l:List α):nth d (x::l) 47=nth d l 46:=by simp[nth]
theorem Z45 {α:Type} (d x:α) (l:List α):nth d (x::l) 48=nth d l 47:=by simp[nth]
theorem Z16 {α:Type} (d x:α) (l:List α):nth d (x::l) 49=nth d l 48:=by simp[nth]
theorem Zbj {α:Type} (d x:α) (l:List α):nth d (x::l) 50=nth d l 49:=by simp[nth]
theorem Zn0 {α:Type} (d x:α) (l:List α):nth d (x::l) 51=nth d l 50:=by simp[nth]
theorem Zsl {α:Type} (d x:α) (l:List α):nth d (x::l) 52=nth d l 51:=by simp[nth]
theorem Zkv {α:Type} (d x:α) (l:List α):nth d (x::l) 53=nth d l 52:=by simp[nth]
theorem Z7a {α:Type} (d x:α) (l:List α):nth d (x::l) 54=nth d l 53:=by simp[nth]
theorem Zct {α:Type} (d x:α) (l:List α):nth d (x::l) 55=nth d l 54:=by simp[nth]
attribute [go_sem] Z6n Znt Z12 Zs3 Zlg Z60 Zl1 Zoz Z45 Z16 Zbj Zn0 Zsl Zkv Z7a Zct
theorem KG (a b:Int):mn a b=min a b:=by unfold mn;rw[Int.min_def];split<;>split<;>omega
theorem Pf (a b:Int):mx a b=max a b:=by unfold mx;rw[Int.max_def];split<;>split<;>omega
def PP (now a b mv:Int):Int:=if b>a then mv else if b<a then-mv else now
def DF (now a b:Pt) (mv:Int):Pt:=⟨PP now.x a.x b.x mv,PP now.y a.y b.y mv,PP now.z a.z b.z mv⟩
def slk (was dirs n v:Int):Int:=if was=dirs then v else max v n
def Cn (x:Ax3) (was dirs:Pt):Int:=slk was.z dirs.z x.c.back (slk was.y dirs.y x.b.back (slk was.x dirs.x x.a.back 0))
def pc0:Pce:=⟨0,0,0,0,⟨0,0,0⟩,⟨0,0,0⟩⟩
def Bb (l:List Pce):Pce:=l.getD (l.length-1) pc0
def E4 (t:Trk) (c:Pce):Trk:=
 if t.aE≠[]/\c.move≠0/\(Bb t.aE).move=c.move/\(Bb t.aE).dirs=c.dirs then
  {t with aE:=t.aE.set (t.aE.length-1) {Bb t.aE with units:=(Bb t.aE).units+c.units},length:=t.length+c.units}
 else{t with aE:=t.aE++[{c with at_:=t.length}],length:=t.length+c.units}
def AA (l:List Sgm) (i:Nat):Int:=AJ (l.take i)
def Cy (x:Ax3) (mv:Int) (a b:Pt) (s units:Int) (st:Trk×Pt):Trk×Pt:=
 (E4 (if Cn x st.2 (DF st.2 a b mv) > 0 then E4 st.1 ⟨0, Cn x st.2 (DF st.2 a b mv), s, 0, st.2, DF st.2 a b mv⟩ else st.1)
  ⟨0,units,s,mv,DF st.2 a b mv,DF st.2 a b mv⟩,DF st.2 a b mv)
def HC (p:Pth) (x:Ax3) (mv lo hi:Int) (i:Nat) (s:Trk×Pt):Trk×Pt:=
 if max (AA p.aF i) lo<min (AA p.aF (i+1)) hi then
  Cy x mv (EV p.start p.aF i) (sgA p.aF i).to (if mv<0 then min (AA p.aF (i+1)) hi else max (AA p.aF i) lo) (min (AA p.aF (i+1)) hi-max (AA p.aF i) lo) s
 else s
def Ei (n:Nat) (mv:Int) (j:Nat):Nat:=if mv<0 then n-1-j else j
def B9 (p:Pth) (x:Ax3) (mv lo hi:Int) (t0:Trk×Pt):Nat->Trk×Pt
 |0=>t0
 |j+1=>HC p x mv lo hi (Ei p.aF.length mv j) (B9 p x mv lo hi t0 j)
def Bq (n hi:Int):Int:=max 0 (min n hi)
def A1 (p:Pth) (x:Ax3) (d:Pt) (from_ to:Int):Trk:=
 let n:=AJ p.aF
 let f:=Bq from_ n
 let t:=Bq to n
 (B9 p x (if f>t then-1 else 1) (min f t) (max f t) (⟨[],0,f,d⟩,d) p.aF.length).1
structure Ax3OK (x : Ax3) : Prop where
 a:0<=x.a.back/\x.a.back<=1000
 b:0<=x.b.back/\x.b.back<=1000
 c:0<=x.c.back/\x.c.back<=1000
theorem Ut {x:Ax3} (h:Ax3OK x) (a b:Pt):0<=Cn x a b/\Cn x a b<=1000:=by
 obtain⟨h1,h2,h3⟩:=h;unfold Cn slk
 (repeat' split)<;>omega
structure TB (t : Trk) (n m : Int) : Prop where
 count:(t.aE.length:Int)<=n
 len:0<=t.length/\t.length<=m
 each:∀c∈t.aE,0<=c.units/\c.units<=t.length
theorem Qfj {l:List Pce} (h:l≠[]):Bb l∈l:=by
 have hp:0<l.length:=by cases l with
  |nil=>exact absurd rfl h
  |cons _ _=>simp
 have hlt:l.length-1<l.length:=by omega
 unfold Bb;rw[List.getD_eq_getElem?_getD,ai hlt,Option.getD_some];exact bq _
theorem Qk7 {t:Trk} {n m:Int} (h:TB t n m) {c:Pce} {k:Int} (hc:0<=c.units/\c.units<=k):TB (E4 t c) (n+1) (m+k):=by
 obtain⟨h1,h2,h3⟩:=h;unfold E4;by_cases g:t.aE≠[]/\c.move≠0/\(Bb t.aE).move=c.move/\(Bb t.aE).dirs=c.dirs
 ·rw[aa g];refine⟨by simp only[List.length_set];omega,by simp only;omega,?_⟩;intro q hq;rcases List.mem_or_eq_of_mem_set hq with hq|rfl
  ·have:=h3 q hq;simp only;omega
  ·have:=h3 _ (Qfj g.1);simp only;omega
 ·rw[ab g];refine⟨by simp only[ao,bh,cd];omega,by simp only;omega,?_⟩;intro q hq;rcases bj.1 hq with hq|hq
  ·have:=h3 q hq;simp only;omega
  ·rw[dg]at hq;subst hq;simp only;omega
theorem Qzc (t:Trk) (c:Pce):(E4 t c).start=t.start/\(E4 t c).dirs=t.dirs:=by
 unfold E4;split<;>exact⟨rfl,rfl⟩
theorem TU (l:List Sgm):AA l 0=0:=by unfold AA;rw[List.take_zero];rfl
theorem Qa {l:List Sgm} {i:Nat} (h:i<l.length):AA l (i+1)=AA l i+(sgA l i).len:=by
 unfold AA;rw[List.take_add_one,ai h,Option.toList_some,Qph,OK h]
theorem Q2u (l:List Sgm):AA l l.length=AJ l:=by unfold AA;rw[List.take_length]
theorem WW {l:List Sgm} (h:SegOK l):∀i,i<=l.length->0<=AA l i/\AA l i<=i*268435456
 |0,_=>by rw[TU];simp
 |i+1,hi=>by
  have:=WW h i (by omega);have:=h.seg _ (Hs (show i<l.length by omega));rw[Qa (by omega)];omega
theorem Zkw {p:Pth} {x:Ax3} {mv lo hi:Int} {i:Nat} {s:Trk×Pt} {n m:Int} (hx:Ax3OK x) (hp:SegOK p.aF) (hi':i<p.aF.length) (h:TB s.1 n m):TB (HC p x mv lo hi i s).1 (n+2) (m+268436456):=by
 have hl:=hp.seg _ (Hs hi');have e:=Qa hi';unfold HC;by_cases c:max (AA p.aF i) lo<min (AA p.aF (i+1)) hi
 ·rw[aa c];unfold Cy;have hs:=Ut hx s.2 (DF s.2 (EV p.start p.aF i) (sgA p.aF i).to mv);have e1:n+2=n+1+1:=by omega
  have e2:m+268436456=m+1000+268435456:=by omega
  rw[e1,e2];refine Qk7 ?_ (by simp only;omega);by_cases c2:Cn x s.2 (DF s.2 (EV p.start p.aF i) (sgA p.aF i).to mv)>0
  ·rw[aa c2];exact Qk7 h (by simp only;omega)
  ·rw[ab c2];exact⟨by have:=h.count;omega,by have:=h.len;omega,h.each⟩
 ·rw[ab c];exact⟨by have:=h.count;omega,by have:=h.len;omega,h.each⟩
theorem Y3 {n j:Nat} (mv:Int) (h:j<n):Ei n mv j<n:=by unfold Ei;split<;>omega
theorem Qby {p:Pth} {x:Ax3} {mv lo hi f:Int} {d:Pt} (hx:Ax3OK x) (hp:SegOK p.aF):∀j,j<=p.aF.length->TB (B9 p x mv lo hi (⟨[],0,f,d⟩,d) j).1 (j*2) (j*268436456)
 |0,_=>⟨by simp[B9],by simp[B9],by simp[B9]⟩
 |j+1,hj=>by
  have h:=Zkw (mv:=mv) (lo:=lo) (hi:=hi) hx hp (Y3 mv (show j<p.aF.length by omega)) (Qby (mv:=mv) (lo:=lo) (hi:=hi) (f:=f) (d:=d) hx hp j (by omega));rw[B9];have e1:((j+1:Nat):Int)*2=j*2+2:=by omega
  have e2:((j+1:Nat):Int)*268436456=j*268436456+268436456:=by omega
  rw[e1,e2];exact h
theorem Q5n {p:Pth} {x:Ax3} {mv lo hi:Int} {i:Nat} (s:Trk×Pt):(HC p x mv lo hi i s).1.start=s.1.start/\(HC p x mv lo hi i s).1.dirs=s.1.dirs:=by
 unfold HC;by_cases c:max (AA p.aF i) lo<min (AA p.aF (i+1)) hi
 ·rw[aa c];unfold Cy;simp only[Qzc];by_cases c2:Cn x s.2 (DF s.2 (EV p.start p.aF i) (sgA p.aF i).to mv)>0
  ·rw[aa c2];simp only[Qzc];exact⟨trivial,trivial⟩
  ·rw[ab c2];exact⟨rfl,rfl⟩
 ·rw[ab c];exact⟨rfl,rfl⟩
end Go.Bm
