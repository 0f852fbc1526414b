/- laid together -/
import Derived.Test.YtommijghjlikkaaGreatMx3
import Derived.Test.YtommijghjlikkaaGreatBmTy
set_option linter.unusedVariables false
set_option linter.unusedSimpArgs false
set_option maxRecDepth 100000
open Go.IntKind (wrap)
variable {a k b v u X Y:Int} {p:Go.Bm.Pth} {t:Go.Bm.Trk} {i r A:Nat} {M Z W T S P O:Go.Bm.Fn} {l:Go.Bm.Rw} {N:Go.Bm.Lp} {g:Go.Bm.Pt}
namespace Go.Bm
theorem Jb {x:Int} (h:i64 x):GN [I x]=some [U (x.natAbs:Int)]:=by
  unfold i64 at h;unfold GN;rw[Zec];by_cases E:x<0
  · rw[Ep E,Ae (x:=x+1),Ae (x:=0-(x+1)),Ig (x:=0-(x+1)) (by omega),Ig (x:=0-(x+1)+1) (by omega)]
    rw[show 0-(x+1)+1=(x.natAbs:Int) by omega]
  · rw[Bg E,Ig (x:=x) (by omega)]
    rw[show x=(x.natAbs:Int) by omega];simp
def sgn (a b:Int):Int:=if a=0 then 0 else if b=0 then 0 else if(a<0↔b<0)then 1 else-1
theorem Y7 (a b:Int):Gr [I a,I b]=some [I (sgn a b)]:=by
  unfold Gr;rw[Qvn];simp only[go_sem];unfold sgn
  repeat' split
  all_goals rfl
def Hg (a b:Nat):Int:=if a<b then-1 else if a=b then 0 else 1
def LR (a b:Int):Int:=if a<b then-1 else if a=b then 0 else 1
noncomputable def w64:Nat:=Classical.choose (⟨18446744073709551616,rfl⟩:∃n:Nat,n=18446744073709551616)
theorem B6:w64=18446744073709551616:=fm (⟨18446744073709551616,rfl⟩:∃n:Nat,n=18446744073709551616)
theorem NS {x:Int} (h:i64 x):x.natAbs<w64:=by unfold i64 at h;have:=B6;omega
theorem Q9c {x y:Nat} (G:x<w64) (I:y<w64):IJ [U x,U y]=some [U ((x*y/w64:Nat):Int),U ((x*y%w64:Nat):Int)]:=by
  rw[B6]at G I;have J:∀z:Nat,z<18446744073709551616->inU (z:Int)=true:=by
    intro z M;have E:Gf=18446744073709551616:=rfl;simp only[inU,E,al,da];omega
  show SP (x:Int) (y:Int)=_;unfold SP;rw[J x G,J y I,B6];rfl
theorem Q45 {x y:Nat} (E:x<w64) (G:y<w64):E5 [U x,U y]=some [U ((x*y/w64:Nat):Int),U ((x*y%w64:Nat):Int)]:=by
  unfold E5;rw[Zj4,Q9c E G];simp only[go_sem]
theorem Qx5 (a b c d:Nat) (hb:b<w64) (E:d<w64):ID [U a,U b,U c,U d]=some [I (Hg (a*w64+b) (c*w64+d))]:=by
  unfold ID;rw[Zk0];simp only[go_sem,and_true];unfold Hg;simp only[B6]at*;by_cases G:a<c
  · rw[ab,ab]
  · rw[aa]
    by_cases J:a=c
    · rw[ab]
      by_cases M:b<d
      · rw[ab,ab]
      · rw[aa]
        by_cases N:b=d
        · rw[ab,aa,ab]
        · rw[aa,aa,aa]
    · rw[aa,aa,aa,aa]
theorem VP (a b:Int):sgn a b*((a.natAbs*b.natAbs:Nat):Int)=a*b:=by
  unfold sgn;by_cases I:a=0
  · subst I;simp
  · by_cases J:b=0
    · subst J;simp
    · rw[aa I,aa J]
      have e:((a.natAbs*b.natAbs:Nat):Int)=(a.natAbs:Int)*(b.natAbs:Int):=by simp
      rw[e];by_cases E:a<0<;>by_cases G:b<0
      · rw[ab (by simp[E,G]),show(a.natAbs:Int)= -a by omega,show(b.natAbs:Int)= -b by omega,Int.neg_mul_neg,ji]
      · rw[aa (by simp[E,G]),show(a.natAbs:Int)= -a by omega,show(b.natAbs:Int)=b by omega,j6,ji,j6,Int.neg_neg]
      · rw[aa (by simp[E,G]),show(a.natAbs:Int)=a by omega,show(b.natAbs:Int)= -b by omega,Int.mul_neg,Int.neg_mul_neg,ji]
      · rw[ab (by simp[E,G]),show(a.natAbs:Int)=a by omega,show(b.natAbs:Int)=b by omega,ji]
theorem Uz (a b:Int):(sgn a b=0/\a*b=0)\/(sgn a b=1/\0<a*b)\/(sgn a b= -1/\a*b<0):=by
  have h:=VP a b;by_cases E:a=0
  · subst E;left;simp[sgn]
  · by_cases G:b=0
    · subst G;left;simp[sgn]
    · have J:0<a.natAbs*b.natAbs:=Nat.mul_pos (by omega) (by omega)
      generalize a.natAbs*b.natAbs=p at*;generalize a*b=x at*;unfold sgn at h⊢;rw[aa E,aa G]at h⊢;by_cases I:(a<0↔b<0)
      · rw[ab I]at h⊢;right;left;exact⟨rfl,by omega⟩
      · rw[aa I]at h⊢;right;right;exact⟨rfl,by omega⟩
theorem Z4i {a b c d:Int}:(if sgn a b≠sgn c d then(if sgn a b<sgn c d then-1 else 1)else sgn a b*Hg (a.natAbs*b.natAbs) (c.natAbs*d.natAbs))=LR (a*b) (c*d):=by
  have E:=VP a b;have G:=VP c d;have k1:=Uz a b;have k2:=Uz c d;unfold LR Hg;generalize a.natAbs*b.natAbs=p at*;generalize c.natAbs*d.natAbs=q at*;generalize a*b=x at*;generalize c*d=y at*;generalize sgn a b=u at*;generalize sgn c d=v at*;rcases k1 with⟨rfl,g1⟩|⟨rfl,g1⟩|⟨rfl,g1⟩<;>rcases k2 with⟨rfl,g2⟩|⟨rfl,g2⟩|⟨rfl,g2⟩
  · rw[aa (by simp),aa (show¬x<y by omega),ab (show x=y by omega)];exact kg _
  · rw[ab (by simp),ab,ab]
  · rw[ab (by simp),aa,aa,aa]
  · rw[ab (by simp),aa,aa,aa]
  · rw[aa (by simp)]
    have e1:(p:Int)=x:=by omega
    have e2:(q:Int)=y:=by omega
    by_cases h:x<y
    · rw[ab,ab h];rfl
    · rw[aa,aa h]
      by_cases h':x=y
      · rw[ab,ab h'];rfl
      · rw[aa,aa h'];rfl
  · rw[ab (by simp),aa,aa,aa]
  · rw[ab (by simp),ab,ab]
  · rw[ab (by simp),ab,ab]
  · rw[aa (by simp)]
    have e1:(p:Int)= -x:=by omega
    have e2:(q:Int)= -y:=by omega
    by_cases h:x<y
    · rw[aa,aa,ab h];rfl
    · rw[aa h]
      by_cases h':x=y
      · rw[aa,ab,ab h'];rfl
      · rw[ab,aa h'];rfl
theorem Q3v (p:Nat):p/w64*w64+p%w64=p:=by have:=gv p w64;rw[fg]at this;exact this
theorem Sr:0<w64:=by rw[B6];omega
theorem Zps (p q:Nat): -1<=Hg p q/\Hg p q<=1:=by unfold Hg;(repeat' split)<;>omega
theorem Zkq (a b:Int): -1<=sgn a b/\sgn a b<=1:=by unfold sgn;(repeat' split)<;>omega
theorem Z4z (E: -1<=u/\u<=1) (G: -1<=v/\v<=1): -1<=u*v/\u*v<=1:=by
  have:u= -1\/u=0\/u=1:=by omega
  rcases this with rfl|rfl|rfl<;>omega
theorem Px {x y:Nat} (E:x<w64) (G:y<w64):∃hi lo:Nat,E5 [U x,U y]=some [U hi,U lo]/\hi*w64+lo=x*y/\lo<w64:=
  ⟨_,_,Q45 E G,Q3v _,ia _ Sr⟩
theorem Zes {a b c d:Int} (O N J S:Fn) (E T G V:Nat)
   (X:J [I a]=some [U a.natAbs]) (Y:J [I b]=some [U b.natAbs]) (kc:J [I c]=some [U c.natAbs]) (kd:J [I d]=some [U d.natAbs])
   (ks:∀a b,S [I a,I b]=some [I (sgn a b)])
   (e1:N [U a.natAbs,U b.natAbs]=some [U E,U T]) (f1:N [U c.natAbs,U d.natAbs]=some [U G,U V])
   (M:O [U E,U T,U G,U V]=some [I (Hg (a.natAbs*b.natAbs) (c.natAbs*d.natAbs))]):Qp5 O N J S [I a,I b,I c,I d]=some [I (LR (a*b) (c*d))]:=by
  have hm:=Z4z (Zkq a b) (Zps (a.natAbs*b.natAbs) (c.natAbs*d.natAbs));rw[Zek];simp only[go_sem,ks,X,Y,kc,kd,e1,f1,M];rw[<-Z4i];rw[Ae];by_cases E:sgn a b≠sgn c d
  · rw[ab E,ab E]
    by_cases G:sgn a b<sgn c d
    · rw[ab G,ab G]
    · rw[aa G,aa G]
  · rw[aa E,aa E]
theorem Z4l {a b c d:Int} (G:i64 a) (hb:i64 b) (J:i64 c) (M:i64 d):Py [I a,I b,I c,I d]=some [I (LR (a*b) (c*d))]:=by
  obtain⟨N,O,e1,e2,e3⟩:=Px (NS G) (NS hb);obtain⟨S,T,U,V,X⟩:=Px (NS J) (NS M);have E:=Qx5 N O S T e3 X;rw[e2,V]at E;unfold Py;exact Zes _ _ _ _ _ _ _ _ (Jb G) (Jb hb) (Jb J) (Jb M) Y7 e1 U E
theorem eB {α β:Type} {a:Option α} {f:α->Option β} {x:α} {r:Option β} (h:a=some x) (g:f x=r):a.bind f=r:=by rw[h];exact g
theorem eT {α:Type} {c:Bool} {a b r:α} (h:c=true) (g:a=r):cond c a b=r:=by rw[h];exact g
theorem eF {α:Type} {c:Bool} {a b r:α} (h:c=false) (g:b=r):cond c a b=r:=by rw[h];exact g
theorem eC {α:Type} {c:Bool} {a b r:α} (h:c=true->a=r) (g:c=false->b=r):cond c a b=r:=by cases c;exact g rfl;exact h rfl
theorem beF (h:a≠b):(a==b)=false:=by simpa using h
theorem beT (h:a=b):(a==b)=true:=by simpa using h
theorem bnF (h:a=b):(a !=b)=false:=by simpa using h
theorem bnT (h:a≠b):(a !=b)=true:=by simpa using h
theorem F3 {α β:Type} {a:Option α} {f:α->Option β} (h:a.isSome=true) (g:∀o,a=some o->(f o).isSome=true):(a.bind f).isSome=true:=by
 cases a with
 |none=>simp at h
 |some o=>exact g o rfl
theorem Cd {α:Type} {c:Bool} {a b:Option α} (h:c=true->a.isSome=true) (g:c=false->b.isSome=true):(cond c a b).isSome=true:=by
 cases c
 ·exact g rfl
 ·exact h rfl
def Out {α:Type} (p:α->Prop) (a:Option α):Prop:=∃o,a=some o/\p o
theorem Out.is {α:Type} {p:α->Prop} {a:Option α} (h:Out p a):a.isSome=true:=by obtain⟨o,h,_⟩:=h;rw[h];rfl
theorem Out.of {α:Type} {a:Option α} (h:a.isSome=true):Out (λ_=>True) a:=by
 cases a with
 |none=>simp at h
 |some o=>exact⟨o,rfl,trivial⟩
theorem Out.bind {α β:Type} {p:α->Prop} {q:β->Prop} {a:Option α} {f:α->Option β} (h:Out p a) (g:∀o,p o->Out q (f o)):Out q (a.bind f):=by
 obtain⟨o,rfl,h⟩:=h;exact g o h
theorem Out.ibind {α β:Type} {q:β->Prop} {a:Option α} {f:α->Option β} (h:a.isSome=true) (g:∀o,a=some o->Out q (f o)):Out q (a.bind f):=by
 cases a with
 |none=>simp at h
 |some o=>exact g o rfl
theorem Out.cond {α:Type} {p:α->Prop} {c:Bool} {a b:Option α} (h:c=true->Out p a) (g:c=false->Out p b):Out p (cond c a b):=by
 cases c
 ·exact g rfl
 ·exact h rfl
theorem Out.some {α:Type} {p:α->Prop} {o:α} (h:p o):Out p (some o):=⟨o,rfl,h⟩
theorem Out.mono {α:Type} {p q:α->Prop} {a:Option α} (h:Out p a) (g:∀o,p o->q o):Out q a:=by obtain⟨o,h,E⟩:=h;exact⟨o,h,g o E⟩
theorem Co {S:Type} (enc:S->List AC) (Inv:S->Prop) (m:S->Nat) (Q:Nat×List AC->Prop)
  (h:∀s,Inv s->Out (λo=>(o.1=0/\∃G,o.2=enc G/\Inv G/\m G<m s)\/(o.1≠0/\Q o)) (N (enc s))) (s:S) (J:Inv s):Out Q (Ak N (enc s)):=by
 obtain ⟨o, I, _, E⟩ := Qx3 (step := N) enc Inv m Q (λs J => by
  obtain⟨o,I,E⟩:=h s J;rcases E with⟨E,G,M,O,T⟩|⟨E,M⟩
  ·refine .inl ⟨G,?_,O,T⟩;rw[I,<-M,<-E]
  ·exact .inr ⟨o,I,E,M⟩) s J
 exact⟨o,I,E⟩
theorem Bi {p:Prop} [Decidable p] (h:decide p=true):p:=of_decide_eq_true h
theorem Bp {p:Prop} [Decidable p] (h:decide p=false): ¬p:=j9 h
theorem inB {n:Nat} (h0:0<=a) (E:a<(n:Int)):(decide (0<=a)&&decide (a<(n:Int)))=false->False:=by
 intro h;rcases Bool.and_eq_false_iff.1 h with c|c
 ·exact Bp c h0
 ·exact Bp c E
theorem Dl (h:i<=r):Nat.ble i r=true:=gw h
theorem Q0d (a b c d:Int):(G9 [I a,I b,I c,I d]).isSome=true:=by
 unfold G9;rw[Qex]
 repeat' first|exact rfl|refine Cd (λ_=> ?_) (λ_=> ?_)
 rename_i E G;simp at E G;omega
theorem Rf (a b c:Int):FE [I a,I b,I c]=some [B (decide (1<=a/\a<=65536/\2<=b/\b<=65536/\1<=c/\c<=16777216))]:=by
 unfold FE;rw[Z8l];by_cases E:1<=a<;>by_cases G:a<=65536<;>by_cases J:2<=b<;>by_cases M:b<=65536<;>by_cases N:1<=c<;>by_cases O:c<=16777216<;>simp[E,G,J,M,N,O]
theorem Zm1 (h:∀a b c d,(M [I a,I b,I c,I d]).isSome=true) (a b c v x:Int):(Q9 M [I a,I b,I c,I v,I x]).isSome=true:=by
 rw[Zz]
 repeat' first|exact rfl|exact h _ _ _ _|refine Cd (λ_=> ?_) (λ_=> ?_)|refine F3 ?_ λ_ _=> ?_
theorem R_ (a b c v x:Int):(GZ [I a,I b,I c,I v,I x]).isSome=true:=Zm1 Q0d a b c v x
theorem Z63 (x:Int): -9223372036854775808<=V x/\V x<=9223372036854775807:=by
 simp[V,IntKind.wrap,IntKind.signed,IntKind.bits];omega
theorem Zsa {E MV:Fn} (G:∀a b c d,(E [I a,I b,I c,I d]).isSome=true) {v a b c low aY:Int} (J: -9000000000000<=low/\low<=9000000000000) (M: -9000000000000<=aY/\aY<=9000000000000):
  Out (λo=>o.1=1) (Ak (Nr E MV) [I v,I low,I aY,I a,I b,I c]):=by
 refine Co (λs:Int×Int=>[I v,I s.1,I s.2,I a,I b,I c]) (λs=>(-9000000000000<=s.1/\s.1<=9000000000000)/\(-9000000000000<=s.2/\s.2<=9000000000000)) (λs=>(s.2-s.1).toNat) _ ?_ (low,aY) ⟨J,M⟩;rintro⟨l,h⟩ ⟨N,O⟩;dsimp only at*;rw[Yr];refine .cond (λc=> ?_) (λc=> ?_)
 ·have c:=Bi c;have e:V (h-V ((V (h-l)).tdiv 2))=h-(h-l)/2:=by
   rw[Ae (x:=h-l),bh (by omega),Ae (x:=(h-l)/2),Ae]
  rw[e];refine .ibind (G _ _ _ _) λo _=> ?_;refine .cond (λ_=> ?_) (λ_=> ?_)
  ·exact .some (.inl ⟨rfl,(h-(h-l)/2,h),rfl,by dsimp only;omega,by dsimp only;omega⟩)
  ·refine .some (.inl ⟨rfl,(l,h-(h-l)/2-1),?_,by dsimp only;omega,by dsimp only;omega⟩);rw[Ae (x:=h-(h-l)/2-1)]
 ·exact .some (.inr ⟨by simp,rfl⟩)
theorem Zqe (J:∀a b c d,(M [I a,I b,I c,I d]).isSome=true) (N:∀a b c,Z [I a,I b,I c]=some [B (decide (1<=a/\a<=65536/\2<=b/\b<=65536/\1<=c/\c<=16777216))]) (a b c v x:Int):
  (T1 M Z (Ak (Nr M Z)) [I a,I b,I c,I v,I x]).isSome=true:=by
 rw[Zbm,N];simp only[ag];refine Cd (λ_=>rfl) λO=>Cd (λ_=>rfl) λE=>Cd (λ_=>rfl) λG=> ?_;simp only[go_sem,Bool.not_eq_false',da]at O;have E:=Bp E;have G:=Bp G;have U: -1099511627776<=x/\x<=1099511627776:=by
  unfold mx at E;unfold mn at G;split at E<;>split at G<;>omega
 obtain⟨o,S,T⟩:=Zsa (MV:=Z) J (v:=v) (a:=a) (b:=b) (c:=c) (low:=V (V (0-x)-b)) (aY:=mn (V (b-x)) a)
  (by rw[Ae (x:=0-x),Ae];omega) (by rw[Ae (x:=b-x)];unfold mn;split<;>omega)
 rw[S];simp only[ag,T];rfl
theorem Z8v (a b c v x:Int):(FN [I a,I b,I c,I v,I x]).isSome=true:=Zqe Q0d Rf a b c v x
theorem Zu5 (J:∀a b c v x,(M [I a,I b,I c,I v,I x]).isSome=true) {a b c v x:Int}:
  Out (λo=>o.1=1\/o.1=2/\(wA o.2 0).length<=4096) (Ak (IF M Z W) [.vC Aa [],I v,I x,I a,I b,I c]):=by
 refine Co (λs:Rw×Int×Int=>[.vC Aa s.1,I s.2.1,I s.2.2,I a,I b,I c]) (λs=>s.1.length<=4096) (λs=>4096-s.1.length) _ ?_ ([],v,x) (by simp);rintro⟨l,v,x⟩ h;dsimp only at*;rw[Rl];refine .cond (λ_=> ?_) (λ_=> ?_)
 ·refine .cond (λ_=> ?_) (λE=> ?_)
  ·exact .some (.inr ⟨by simp, .inl rfl⟩)
  ·have E: ¬((l.length:Int)=4096):=by simpa using E
   refine .ibind (J _ _ _ _ _) λo _=> ?_;refine .cond (λ_=> ?_) (λG=> ?_)
   ·exact .some (.inl ⟨rfl,(_,_,_),rfl,by simp;omega,by simp;omega⟩)
   ·rw[Dl (by simp;omega)]at G;cases G
 ·exact .some (.inr ⟨by simp, .inr ⟨rfl,h⟩⟩)
theorem Zqg (E:∀a b c v x,(M [I a,I b,I c,I v,I x]).isSome=true) (G:∀a b c v x,(Z [I a,I b,I c,I v,I x]).isSome=true) (J:∀a b c,W [I a,I b,I c]=some [B (decide (1<=a/\a<=65536/\2<=b/\b<=65536/\1<=c/\c<=16777216))]) (a b c v x:Int):
  Out (λo=>(wA o 0).length<=4096) (Rv M Z W (Ak (IF M Z W)) [I a,I b,I c,I v,I x]):=by
 rw[W9,J];simp only[ag];refine .cond (λ_=> .some (by simp[gA,wA,bA,jA,nth,CI])) λ_=> .ibind (G _ _ _ _ _) λo _=> .cond (λ_=> .some (by simp[gA,wA,bA,jA,nth,CI])) λ_=> ?_;refine .bind (Zu5 E) λo h=> ?_;rcases h with h|⟨h,N⟩
 ·rw[h];exact .some (by simp[gA,wA,bA,jA,nth,CI])
 ·rw[h];exact .some N
theorem Zli (a b c v x:Int):Out (λo=>(wA o 0).length<=4096) (KW [I a,I b,I c,I v,I x]):=Zqg Z8v R_ Rf a b c v x
theorem Q51 {sp out:Rw} (h0:out.length=sp.length) (E:sp.length<=4096):
  Out (λo=>o.1=1/\(wA o.2 0).length=sp.length) (Ak (H5 M) [.vC Aa out,I u, .vC Aa sp,I (sp.length:Int),I 0]):=by
 refine Co (λs:Rw×Int×Nat=>[.vC Aa s.1,I s.2.1, .vC Aa sp,I (sp.length:Int),I (s.2.2:Int)]) (λs=>s.1.length=sp.length/\s.2.2<=sp.length) (λs=>sp.length-s.2.2) _ ?_ (out,u,0) ⟨h0,by simp⟩;rintro⟨l,u,i⟩ ⟨g1,g2⟩;dsimp only at*;rw[Qgc];refine .cond (λc=> ?_) (λ_=> ?_)
 ·have c:=Bi c;refine .cond (λ_=> ?_) (λh=> ?_)
  ·refine .cond (λ_=> ?_) (λh=> ?_)
   ·have e:=Ae (x:=(i:Int)+1);rw[e];generalize V (u+gA (nth [] sp (i:Int).toNat) 0)=z;exact .some (.inl ⟨rfl,(l.set (i:Int).toNat [I z],z,i+1),rfl,by simp;omega,by simp;omega⟩)
   ·simp at h;omega
  ·simp at h;omega
 ·exact .some (.inr ⟨by simp,rfl,g1⟩)
theorem Zhq (E:∀a b c v x,Out (λo=>(wA o 0).length<=4096) (M [I a,I b,I c,I v,I x])) (a b c G J N O S T:Int):
  Out (λo=>(wA o 0).length<=4096) (PM M (Ak (H5 M)) [I a,I b,I c,I G,I J,I N,I O,I S,I T]):=by
 rw[Uf];refine .bind (E _ _ _ _ _) λo h=> ?_;generalize wA o 0=sp at*;refine .cond (λ_=> .some (by simp[gA,wA,bA,jA,nth,CI])) λ_=> ?_;refine .cond (λ_=> ?_) λc=>by simp at c
 refine .cond (λ_=> ?_) λc=>by simp at c;omega
 refine .bind (Q51 (by simp) h) λo g=> ?_;rw[g.1];exact .some (by show(wA o.2 0).length<=4096;omega)
theorem VX (a b c E G J M N O:Int):Out (λo=>(wA o 0).length<=4096) (Fo [I a,I b,I c,I E,I G,I J,I M,I N,I O]):=Zhq Zli a b c E G J M N O
theorem Z8g (T:∀a b c E G J N O S,Out (λo=>(wA o 0).length<=4096) (M [I a,I b,I c,I E,I G,I J,I N,I O,I S])) (a b c E G J N O S:Int):
  (Lx M [I a,I b,I c,I E,I G,I J,I N,I O,I S]).isSome=true:=by
 rw[VQ];obtain⟨o,U,V⟩:=T a b c E G J N O S;rw[U];simp only[ag];generalize wA o 0=sp at*;refine Cd (λ_=>rfl) λ_=>Cd (λ_=>rfl) λc=>Cd (λ_=>rfl) λd=> ?_;have c: ¬((sp.length:Int)=0):=by simpa using c
 rw[Ae]at d;simp at d;omega
theorem Qvt (a b c E G J M N O:Int):(F9 [I a,I b,I c,I E,I G,I J,I M,I N,I O]).isSome=true:=Z8g VX a b c E G J M N O
theorem Z43 (h:2^(r+1)*i+2^r<w64):wrap .u64 (((BitVec.ofInt IntKind.u64.bits ((2^(r+1)*i:Nat):Int)|||BitVec.ofInt IntKind.u64.bits ((2^r:Nat):Int)).toNat:Nat):Int)=((2^(r+1)*i+2^r:Nat):Int):=by
 rw[B6]at h;have e:(BitVec.ofInt IntKind.u64.bits ((2^(r+1)*i:Nat):Int)|||BitVec.ofInt IntKind.u64.bits ((2^r:Nat):Int)).toNat=2^(r+1)*i+2^r:=by
  rw[BitVec.toNat_or];have e1:∀v:Nat,v<18446744073709551616->(BitVec.ofInt IntKind.u64.bits (v:Int)).toNat=v:=by
   intro v I;simp only[IntKind.bits,ki];omega
  have E:0<2^r:=gq _;generalize G:2^(r+1)*i=A at*;rw[e1 _ (by omega),e1 _ (by omega),<-G];exact(Nat.two_pow_add_eq_or_of_lt (Nat.pow_lt_pow_right (by omega) (by omega)) i).symm
 rw[e,Ig (by omega)]
theorem Zfe (k:Nat):((2^(k+1):Nat):Int).fdiv (2^min (Int.toNat 1) IntKind.u64.bits)=((2^k:Nat):Int):=by
 have e:(2^min (Int.toNat 1) IntKind.u64.bits:Int)=2:=rfl;rw[e,gk _ (by omega),jk];omega
theorem Zux:(1:Int).fdiv (2^min (Int.toNat 1) IntKind.u64.bits)=0:=rfl
theorem Qw3 (S:∀x y:Nat,x<w64->y<w64->∃hi lo:Nat,Z [U x,U y]=some [U hi,U lo]/\hi*w64+lo=x*y/\lo<w64)
  (T:∀a b c d:Nat,b<w64->d<w64->M [U a,U b,U c,U d]=some [I (Hg (a*w64+b) (c*w64+d))]) {k m hi lo:Nat} {bit:Int} (J:lo<w64) (hb:((2^k:Nat):Int).fdiv (2^min (Int.toNat 1) IntKind.u64.bits)=bit) (h:2^(k+1)*m+2^k<w64):
  Mn M Z [U ((2^(k+1)*m:Nat):Int),U ((2^k:Nat):Int),U hi,U lo]=
   some (0,[U (((if(2^(k+1)*m+2^k)*(2^(k+1)*m+2^k)<=hi*w64+lo then 2^(k+1)*m+2^k else 2^(k+1)*m):Nat):Int),U bit,U hi,U lo]):=by
 obtain⟨G,V,e1,e2,e3⟩:=S _ _ h h;have E:=T G V hi lo e3 J;rw[e2]at E;have N:0<2^k:=gq _;rw[Za0,Z43 h,hb];simp only[go_sem,e1,E];rw[ab];generalize(2^(k+1)*m+2^k)*(2^(k+1)*m+2^k)=q at*;unfold Hg;by_cases G:q<hi*w64+lo
 ·rw[ab G,ab,ab]
 ·rw[aa G];by_cases O:q=hi*w64+lo
  ·rw[ab O,ab,ab]
  ·rw[aa O,aa,aa]
theorem Qec (N:∀x y:Nat,x<w64->y<w64->∃hi lo:Nat,Z [U x,U y]=some [U hi,U lo]/\hi*w64+lo=x*y/\lo<w64)
  (O:∀a b c d:Nat,b<w64->d<w64->M [U a,U b,U c,U d]=some [I (Hg (a*w64+b) (c*w64+d))]) {hi lo:Nat} (E:lo<w64):∀(k m:Nat),2^(k+1)*m+2^(k+1)<=w64->
  (2^(k+1)*m)*(2^(k+1)*m)<=hi*w64+lo->hi*w64+lo<(2^(k+1)*m+2^(k+1))*(2^(k+1)*m+2^(k+1))->
  ∃r:Nat,Ak (Mn M Z) [U ((2^(k+1)*m:Nat):Int),U ((2^k:Nat):Int),U hi,U lo]=some (1,[U r])/\r*r<=hi*w64+lo/\hi*w64+lo<(r+1)*(r+1)/\r<w64
 |0,m,X,S,T=>by
  have V:=Qw3 N O (k:=0) (m:=m) (hi:=hi) (bit:=0) E Zux (by simp at X⊢;omega);rw[Bz V];have G:∀r:Nat,Ak (Mn M Z) [U (r:Int),U 0,U hi,U lo]=some (1,[U r]):=by
   intro r;refine Be ?_ (by simp);rw[Za0];simp only[go_sem];rw[aa]
  simp only[d9,Nat.pow_one,Nat.pow_zero]at*;by_cases h:(2*m+1)*(2*m+1)<=hi*w64+lo
  ·rw[ab h,G];exact⟨_,rfl,h,T,by omega⟩
  ·rw[aa h,G];exact⟨_,rfl,S,by omega,by omega⟩
 |k+1,m,X,S,T=>by
  have e1:2^(k+1+1)*m=2^(k+1)*(2*m):=by rw[jk 2 (k+1),ik]
  have e2:2^(k+1+1)*m+2^(k+1)=2^(k+1)*(2*m+1):=by rw[e1,Nat.mul_add,Nat.mul_one]
  have e3:2^(k+1+1)=2^(k+1)+2^(k+1):=by rw[jk 2 (k+1)];omega
  have Y:0<2^(k+1):=gq _;have V:=Qw3 N O (k:=k+1) (m:=m) (hi:=hi) (bit:=((2^k:Nat):Int)) E (Zfe k) (by omega);rw[Bz V];by_cases h:(2^(k+1+1)*m+2^(k+1))*(2^(k+1+1)*m+2^(k+1))<=hi*w64+lo
  ·rw[ab h,e2];rw[e2]at h;refine Qec N O E k (2*m+1) ?_ h ?_
   ·rw[<-e2];omega
   ·rw[<-e2];rw[show 2^(k+1+1)*m+2^(k+1)+2^(k+1)=2^(k+1+1)*m+2^(k+1+1) by omega];exact T
  ·rw[aa h];have h3:hi*w64+lo<(2^(k+1+1)*m+2^(k+1))*(2^(k+1+1)*m+2^(k+1)):=by omega
   have J:2^(k+1+1)*m+2^(k+1)<=w64:=by omega
   rw[e1]at S h3 J⊢;exact Qec N O E k (2*m) J S h3
theorem Zwh (S:∀x y:Nat,x<w64->y<w64->∃hi lo:Nat,Z [U x,U y]=some [U hi,U lo]/\hi*w64+lo=x*y/\lo<w64)
  (T:∀a b c d:Nat,b<w64->d<w64->M [U a,U b,U c,U d]=some [I (Hg (a*w64+b) (c*w64+d))]) {hi lo:Nat} (E:hi<w64) (G:lo<w64):
  ∃r:Nat,Qda M Z (Ak (Mn M Z)) [U hi,U lo]=some [U r]/\r*r<=hi*w64+lo/\hi*w64+lo<(r+1)*(r+1)/\r<w64:=by
 have hb:hi*w64+lo<w64*w64:=by
  have:hi*w64+w64<=w64*w64:=by rw[<-ij];exact bp _ E
  omega
 obtain⟨r,O,V,X,Y⟩:=Qec S T (hi:=hi) (lo:=lo) G 63 0 (by rw[B6];omega) (by simp) (by rw[Nat.mul_zero,d9,show 2^(63+1)=w64 by rw[B6]];exact hb);refine⟨r,?_,V,X,Y⟩;rw[Nat.mul_zero]at O;generalize Ak (Mn M Z)=N at*;have J:N [AC.int IntKind.u64 0,AC.int IntKind.u64 9223372036854775808,AC.int IntKind.u64 hi,AC.int IntKind.u64 lo]=some (1,[U r]):=O;rw[Z6v,J];simp only[go_sem]
theorem Zd1 {hi lo:Nat} (E:hi<w64) (G:lo<w64):∃r:Nat,Ke [U hi,U lo]=some [U r]/\r*r<=hi*w64+lo/\hi*w64+lo<(r+1)*(r+1)/\r<w64:=
 Zwh (λ_ _ I J=>Px I J) Qx5 E G
theorem Qg1 {n:Nat} (h:n<9223372036854775808):Fz [U n,B false]=some [I n,B true]:=by
 unfold Fz;rw[Qqq];simp only[go_sem];rw[aa (by simp),ab (by simp),ab,Ae]
theorem Zsq {x y b:Nat} (I:x<w64) (J:y<w64) (hb:b=0\/b=1):KT [U x,U y,U b]=some [U (((x:Int)-y-b)%Gf),U (if x<y+b then 1 else 0)]:=by
 rw[B6]at I J;have E:Gf=18446744073709551616:=rfl;have M:∀z:Nat,z<18446744073709551616->inU (z:Int)=true:=by
  intro z N;simp only[inU,E,al,da];omega
 have G:(decide ((b:Int)=0)||decide ((b:Int)=1))=true:=by
  rcases hb with rfl|rfl<;>simp
 unfold KT;simp only[Ik,Ng,Mj,H7,gA,jA,wA,bA];rw[M x I,M y J,G];by_cases h:x<y+b
 ·rw[ab h,Ep (p:=(x:Int)<y+b) (by omega)];simp
 ·rw[aa h,Bg (p:=(x:Int)<y+b) (by omega)];simp
theorem Q3m {x y:Nat} (G:x<w64) (I:y<=x):KT [U x,U y,U 0]=some [U ((x-y:Nat):Int),U 0]:=by
 have:=Zsq (x:=x) (y:=y) (b:=0) G (by omega) (.inl rfl);have E:Gf=18446744073709551616:=rfl;rw[B6]at G;rw[aa,E,show((x:Int)-y-((0:Nat):Int))%18446744073709551616=((x-y:Nat):Int) by omega]at this;exact this
theorem Zuc {n r:Nat} (hn:n<9223372036854775807) (O:r*r<=n) (S:T [U 0,U n]=some [U r]) (V:W [U r,U r]=some [U 0,U ((r*r:Nat):Int)]) (G:Z [U n,U ((r*r:Nat):Int),U 0]=some [U ((n-r*r:Nat):Int),U 0])
  (J:Z [U 0,U 0,U 0]=some [U 0,U 0]) (N:∀k:Nat,k<9223372036854775808->M [U k,B false]=some [I k,B true]) (E:a=1\/a=2):
  YT M Z W T [U 0,U n,I a]=some [I ((if(a=1/\r*r<n)\/(a=2/\r*r+r<n)then r+1 else r:Nat):Int),B true]:=by
 have X:r<=r*r:=by
  rcases fd r with h|h
  ·subst h;simp
  ·exact Nat.le_mul_of_pos_left r h
 have Y:wrap .u64 ((r:Int)+1)=((r+1:Nat):Int):=by rw[Ig (by omega)];omega
 have s1:=N r (by omega);have s2:=N (r+1) (by omega);rw[Zy3];simp only[go_sem,S,V,G,J,Y,s1,s2];rcases E with rfl|rfl
 ·rw[ab rfl,aa];by_cases h:r*r<n
  ·rw[ab,ab]
  ·rw[aa,aa,aa]
 ·rw[aa,ab rfl,aa];by_cases h:r*r+r<n
  ·rw[ab,ab]
  ·rw[aa,aa]
theorem Zja {n:Nat} (N:n<9223372036854775807) (E:Z [I a]=some [B true]) (G:M [U 0,U n,I a]=some [I k,B true]):Qax M Z [I n,I a]=some [I k,B true]:=by
 have J:wrap .u64 (n:Int)=(n:Int):=Ig (by omega);rw[Z1q];simp only[go_sem,E,J,G];rw[aa,aa (by simp)]
theorem Qkg (h:a=0\/a=1\/a=2):Gn [I a]=some [B true]:=by
 unfold Gn;rw[Q5g];rcases h with rfl|rfl|rfl<;>rfl
theorem Qxu {n:Nat} {mode:Int} (O:n<9223372036854775807) (E:mode=1\/mode=2):
  ∃r:Nat,Jo [I n,I mode]=some [I ((if(mode=1/\r*r<n)\/(mode=2/\r*r+r<n)then r+1 else r:Nat):Int),B true]/\r*r<=n/\n<(r+1)*(r+1):=by
 have G:n<w64:=by rw[B6];omega
 obtain⟨r,V,J,S,T⟩:=Zd1 (hi:=0) (lo:=n) Sr G;rw[ja,d9]at J S;obtain⟨hi,lo,e1,e2,e3⟩:∃hi lo:Nat,IJ [U r,U r]=some [U hi,U lo]/\hi*w64+lo=r*r/\lo<w64:=⟨_,_,Q9c T T,Q3v _,ia _ Sr⟩;have M:hi=0:=by
  rcases fd hi with h|h
  ·exact h
  ·have:=bp w64 h;omega
 subst M;have N:lo=r*r:=by omega
 subst N;have z:=Q3m (x:=0) (y:=0) Sr (db _);refine⟨r,?_,J,S⟩;exact Zja O (Qkg (.inr E)) (Zuc O J V e1 (Q3m G J) z (λk X=>Qg1 X) E)
def BA (a b:Int):Int:=(2*a+b)/(2*b)
theorem Mf (hb:0<b) (E:k*(2*b)<=2*a+b) (G:2*a+b<(k+1)*(2*b)):BA a b=k:=by
 unfold BA;have g1:k<=(2*a+b)/(2*b):=(Int.le_ediv_iff_mul_le (by omega)).2 E;have g2:(2*a+b)/(2*b)<k+1:=(Int.ediv_lt_iff_lt_mul (by omega)).2 G;omega
theorem Zac {p c:Nat} (E:p<w64) (J:0<c):Hc [U 0,U p,U c]=some [U ((p/c:Nat):Int),U ((p%c:Nat):Int)]:=by
 rw[B6]at E;have G:(p:Int).tdiv (c:Int)=((p/c:Nat):Int):=by rw[bh (by omega)];simp
 have I:(p:Int).tmod (c:Int)=((p%c:Nat):Int):=by rw[je (by omega)];simp
 have N:p/c<=p:=iq _ _;unfold Hc;generalize Jg=M;generalize VA=O;generalize Qhy=S;rw[Q1h];rw[BI (by simp;omega),Bg (by omega),Ca (by simp),Bg (by omega),Bg (by omega),G,I];generalize p/c=q at*;rw[Ig (by omega)]
theorem Zb8 (more:Int) (some_ neg:Bool):Ii [I 2,I more,B some_,B neg]=some [B (if more>0 then true else if more=0 then !neg else false)]:=by
 unfold Ii;rw[Q15];simp only[go_sem];rw[aa,aa]
 repeat' split
 all_goals rfl
theorem Qwz {n:Nat} (h:n<=9223372036854775808):Fz [U n,B true]=some [I (-(n:Int)),B true]:=by
 unfold Fz;rw[Qqq];simp only[go_sem];rw[ab,Om,Qco];have:((0-(n:Int))%18446744073709551616+9223372036854775808)%18446744073709551616-9223372036854775808= -(n:Int):=by omega
 rw[this]
def HC (q r c:Nat) (neg:Bool):Nat:=if r>c-r then q+1 else if r<c-r then q else if neg then q else q+1
theorem Z9p {M1 M2 M3 M4 M5 M6 M7:Fn} {a b s:Int} {A C p q r c:Nat} (N:0<c) (O:c<9223372036854775808) (hr:r<c) (hq:q<9223372036854775807)
  (k1:M7 [I 2]=some [B true]) (k2:M6 [I a]=some [U A]) (S:M6 [I b]=some [U C]) (T:M6 [I c]=some [U c]) (V:M5 [U A,U C]=some [U 0,U p]) (X:M4 [U 0,U p,U c]=some [U q,U r]) (Y:M3 [I a,I b]=some [I s])
  (k8:∀(more:Int) (some_ neg:Bool),M2 [I 2,I more,B some_,B neg]=some [B (if more>0 then true else if more=0 then !neg else false)])
  (J:∀k:Nat,k<9223372036854775808->M1 [U k,B false]=some [I k,B true]) (E:∀k:Nat,k<9223372036854775808->M1 [U k,B true]=some [I (-(k:Int)),B true]):
  TW M1 M2 M3 M4 M5 M6 M7 [I a,I b,I c,I 2]=some [I (if s<0 then-(HC q r c true:Int)else(HC q r c false:Int)),B true]:=by
 have w1:wrap .u64 ((c:Int)-(r:Int))=((c-r:Nat):Int):=by rw[Ig (by omega)];omega
 have w2:wrap .u64 ((q:Int)+1)=((q+1:Nat):Int):=by rw[Ig (by omega)];omega
 have n1:=J q (by omega);have n2:=J (q+1) (by omega);rw[Zaj];simp only[go_sem,k1,k2,S,T,V,X,Y,k8,w1,w2,n1,n2];rw[aa,aa (by simp),aa];by_cases M:s<0
 ·rw[ab M];rw[ab (show¬(s<0↔(c:Int)<0) by omega)];have G:(s !=0)=true:=by simp;omega
  rw[G];unfold HC;by_cases g1:r>c-r
  ·rw[ab g1];rw[ab (show(r:Int)>((c-r:Nat):Int) by omega),ab (by decide),aa (show¬((q+1:Nat):Int)=0 by omega),E (q+1) (by omega)];simp only[go_sem]
  ·rw[aa g1];rw[aa (show¬(r:Int)>((c-r:Nat):Int) by omega)];by_cases g2:r<c-r
   ·rw[ab g2];rw[ab (show(r:Int)<((c-r:Nat):Int) by omega),aa (by decide),E q (by omega)];simp only[go_sem]
   ·rw[aa g2,ab rfl];rw[aa (show¬(r:Int)<((c-r:Nat):Int) by omega),aa (by decide),E q (by omega)];simp only[go_sem]
 ·rw[aa M];rw[aa (show¬¬(s<0↔(c:Int)<0) by omega)];unfold HC;by_cases g1:r>c-r
  ·rw[ab g1,ab (show(r:Int)>((c-r:Nat):Int) by omega),ab (by decide),aa (show¬((q+1:Nat):Int)=0 by omega)]
  ·rw[aa g1,aa (show¬(r:Int)>((c-r:Nat):Int) by omega)];by_cases g2:r<c-r
   ·rw[ab g2,ab (show(r:Int)<((c-r:Nat):Int) by omega),aa (by decide)]
   ·rw[aa g2,aa (show¬(r:Int)<((c-r:Nat):Int) by omega),ab (by decide),aa (show¬((q+1:Nat):Int)=0 by omega),aa (by decide)]
theorem Z48 (q r c:Nat):HC q r c false=if r<c-r then q else q+1:=by
 unfold HC;by_cases G:r>c-r
 ·rw[ab G,aa]
 ·rw[aa G];by_cases E:r<c-r
  ·rw[ab E,ab E]
  ·rw[aa E,aa E,aa (by simp)]
theorem Yaf (q r c:Nat):HC q r c true=if r>c-r then q+1 else q:=by
 unfold HC;by_cases E:r>c-r
 ·rw[ab E,ab E]
 ·rw[aa E,aa E];by_cases G:r<c-r
  ·rw[ab G]
  ·rw[aa G,ab rfl]
theorem Q75 {p q r c:Nat} (J:0<c) (h:p=c*q+r) (M:r<c):BA p c=HC q r c false:=by
 have e:(p:Int)=(c:Int)*q+r:=by rw[h];simp
 have e3:(q:Int)*(2*c)=2*((c:Int)*q):=by grind
 have E:((q+1:Nat):Int)*(2*c)=2*((c:Int)*q)+2*c:=by grind
 have G:((q:Int)+1)*(2*c)=2*((c:Int)*q)+2*c:=by grind
 have I:(((q+1:Nat):Int)+1)*(2*c)=2*((c:Int)*q)+4*c:=by grind
 rw[Z48];by_cases g:r<c-r
 ·rw[ab g];exact Mf (by omega) (by rw[e3];omega) (by rw[G];omega)
 ·rw[aa g];exact Mf (by omega) (by rw[E];omega) (by rw[I];omega)
theorem Zst {p q r c:Nat} (J:0<c) (h:p=c*q+r) (M:r<c):BA (-(p:Int)) c= -(HC q r c true:Int):=by
 have e:(p:Int)=(c:Int)*q+r:=by rw[h];simp
 have e3: -(q:Int)*(2*c)= -(2*((c:Int)*q)):=by grind
 have E: -((q+1:Nat):Int)*(2*c)= -(2*((c:Int)*q))-2*c:=by grind
 have G:(-(q:Int)+1)*(2*c)= -(2*((c:Int)*q))+2*c:=by grind
 have I:(-((q+1:Nat):Int)+1)*(2*c)= -(2*((c:Int)*q)):=by grind
 rw[Yaf];by_cases g:r>c-r
 ·rw[ab g];exact Mf (by omega) (by rw[E];omega) (by rw[I];omega)
 ·rw[aa g];exact Mf (by omega) (by rw[e3];omega) (by rw[G];omega)
theorem Uo {a b c:Int} (U:i64 a) (hb:i64 b) (hc:0<c/\c<9223372036854775808) (hp:a.natAbs*b.natAbs<9223372036854775807):BM [I a,I b,I c,I 2]=some [I (BA (a*b) c),B true]:=by
 obtain⟨hi,lo,e1,e2,e3⟩:=Px (NS U) (NS hb);have N:=VP a b;have X:=Uz a b;have Y:a*b=0->a.natAbs*b.natAbs=0:=λh=>by rw[<-Int.natAbs_mul,h];rfl
 generalize a.natAbs*b.natAbs=p at*;have O:hi=0:=by
  rcases fd hi with h|h
  ·exact h
  ·have:=bp w64 h;have:=B6;omega
 subst O;have S:lo=p:=by omega
 subst S;obtain⟨n,rfl⟩:=cg (show 0<=c by omega);have G:0<n:=by omega
 have T:=gv lo n;have M:=ia lo G;have h3:lo/n<=lo:=iq _ _;have hd:=Zac e3 G;have J:=Jb (x:=(n:Int)) (by unfold i64;omega);rw[jo]at J;generalize lo/n=q at*;generalize lo%n=r at*;have E:=Z9p (M1:=Fz) (M2:=Ii) (M3:=Gr) (M4:=Hc) (M5:=E5) (M6:=GN) (M7:=Gn) G (by omega) M (by omega)
  (Qkg (.inr (.inr rfl))) (Jb U) (Jb hb) J e1 hd (Y7 a b) Zb8 (λk V=>Qg1 V) (λk V=>Qwz (by omega))
 have hv:(if sgn a b<0 then-(HC q r n true:Int)else(HC q r n false:Int))=BA (a*b) n:=by
  rcases X with⟨g1,g2⟩|⟨g1,g2⟩|⟨g1,g2⟩
  ·rw[aa,g2];rw[g1]at N;have:lo=0:=Y g2;rw[<-Q75 G T.symm M,this];rfl
  ·rw[aa,<-Q75 G T.symm M,<-N,g1,ji]
  ·rw[ab,<-Zst G T.symm M,<-N,g1,j6,ji]
 rw[hv]at E;exact E
def val:List Nat->Nat
 |[]=>0
 |d::l=>d+65536*val l
def Dig (l:List Nat):Prop:=∀d∈l,d<65536
theorem Dig.sub {l m:List Nat} (h:Dig l) (E:∀d∈m,d∈l):Dig m:=λd G=>h d (E d G)
theorem Dig.set {l:List Nat} (h:Dig l) (j d:Nat) (E:d<65536):Dig (l.set j d):=by
 intro x G;rcases d8 G with h'|rfl
 ·exact h x h'
 ·exact E
def bd (A:Nat) (p:Pt):Prop:=p.x.natAbs<=A/\p.y.natAbs<=A/\p.z.natAbs<=A
def JW (a b:Pt):Int:=a.x*b.x+a.y*b.y+a.z*b.z
def HD (a b:Pt):Pt:=⟨a.x-b.x,a.y-b.y,a.z-b.z⟩
theorem Im {x y:Int} {A B:Nat} (E:x.natAbs<=A) (G:y.natAbs<=B):(x*y).natAbs<=A*B:=by rw[Int.natAbs_mul];exact fv E G
theorem A3 {A B:Nat} (h:bd A g) (E:A<=B):bd B g:=⟨df h.1 E,df h.2.1 E,df h.2.2 E⟩
theorem Z50 (a b:Pt):JW (HD a b) (HD a b)=JW (HD b a) (HD b a):=by
 simp only[JW,HD];have h:∀x y:Int,(x-y)*(x-y)=(y-x)*(y-x):=by intro x y;rw[<-Int.neg_mul_neg,Int.neg_sub]
 rw[h a.x,h a.y,h a.z]
theorem Zzh {x y:Int}:LR x y<=0↔x<=y:=by
 unfold LR;by_cases h:x<y
 ·rw[ab h];omega
 ·rw[aa h];by_cases h':x=y
  ·rw[ab h'];omega
  ·rw[aa h'];omega
theorem Q4l (v:Nat) (h:v<w64):wrap .u64 (((BitVec.ofInt IntKind.u64.bits (v:Int)&&&BitVec.ofInt IntKind.u64.bits 4294967295).toNat:Nat):Int)=((v%4294967296:Nat):Int):=by
 rw[B6]at h;have e:(BitVec.ofInt IntKind.u64.bits (v:Int)&&&BitVec.ofInt IntKind.u64.bits 4294967295).toNat=v%4294967296:=by
  rw[BitVec.toNat_and];have e1:(BitVec.ofInt IntKind.u64.bits (v:Int)).toNat=v:=by
   simp only[IntKind.bits,ki];omega
  have e2:(BitVec.ofInt IntKind.u64.bits 4294967295).toNat=2^32-1:=by
   simp only[IntKind.bits,ki];rfl
  rw[e1,e2,Nat.and_two_pow_sub_one_eq_mod]
 rw[e,Ig (by omega)]
theorem Q1s (v:Nat):(v:Int).fdiv (2^min (Int.toNat 32) IntKind.u64.bits)=((v/4294967296:Nat):Int):=by
 have e:(2^min (Int.toNat 32) IntKind.u64.bits:Int)=4294967296:=rfl;rw[e,gk _ (by omega)];omega
def E8 (a n:Nat) (down:Bool) (j:Nat):Prop:=
 (j=0\/if down=true then(2*j-1)*(2*j-1)*n<4*(a*a)else(2*j-1)*(2*j-1)*n<=4*(a*a))/\
 (if down=true then 4*(a*a)<=(2*j+1)*(2*j+1)*n else 4*(a*a)<(2*j+1)*(2*j+1)*n)
theorem RN {p q n:Nat} (h:p<=q):p*p*n<=q*q*n:=bp _ (fv h h)
theorem Zin {a n:Nat} {down:Bool} (hi:E8 a n down i) (I:E8 a n down r):i=r:=by
 have key:∀{i r:Nat},E8 a n down i->E8 a n down r-> ¬i<r:=by
  rintro i r ⟨-,G⟩ ⟨E,-⟩ M;have N:=RN (n:=n) (show 2*i+1<=2*r-1 by omega);rcases E with E|E
  ·omega
  ·by_cases J:down=true
   ·rw[ab J]at G E;omega
   ·rw[aa J]at G E;omega
 have O:=key hi I;have G:=key I hi;omega
open Classical in
noncomputable def rnd (a n:Nat) (down:Bool):Nat:=if h:∃j,E8 a n down j then Classical.choose h else 0
theorem SD {a n:Nat} {down:Bool} (h:E8 a n down i):rnd a n down=i:=by
 have E:∃i,E8 a n down i:=⟨i,h⟩;unfold rnd;rw[dif_pos E];exact Zin (fm E) h
noncomputable def Ct (x r n:Int):Int:=if x<0 then-(rnd (x.natAbs*r.natAbs) n.natAbs true:Int)else(rnd (x.natAbs*r.natAbs) n.natAbs false:Int)
theorem Ye {X R n j:Nat} {down:Bool} (G:0<n) (I:X*X<=n) (h:E8 (X*R) n down j):j<=R:=by
 by_cases c:j<=R
 ·exact c
 exfalso;have e:4*(X*R*(X*R))=(2*R)*(2*R)*(X*X):=by grind
 have J:(2*R)*(2*R)*(X*X)<=(2*R)*(2*R)*n:=Nat.mul_le_mul_left _ I;have M:(2*R)*(2*R)*n<(2*R+1)*(2*R+1)*n:=ff (ip (by omega)) G;have N:(2*R+1)*(2*R+1)*n<=(2*j-1)*(2*j-1)*n:=RN (by omega);obtain⟨E,-⟩:=h;rcases E with E|E
 ·omega
 ·split at E<;>omega
theorem Zpo {X R n j:Nat} {down:Bool} (E:0<n) (G:R*R<=n) (h:E8 (X*R) n down j):j<=X:=by
 rw[fg]at h;exact Ye E G h
theorem Zzr {a n q:Nat} (down:Bool) (G:q*q*n<=a*a) (I:a*a<(q+1)*(q+1)*n):
  E8 a n down (if(if down=true then(2*q+1)*(2*q+1)*n<2*a*(2*a)else(2*q+1)*(2*q+1)*n<=2*a*(2*a))then q+1 else q):=by
 have J:2*a*(2*a)=4*(a*a):=by grind
 rw[J];have e1:4*(q*q*n)<=4*(a*a):=Nat.mul_le_mul_left _ G;have e2:4*(a*a)<4*((q+1)*(q+1)*n):=by omega
 have N:(2*q-1)*(2*q-1)*n<=(2*q)*(2*q)*n:=RN (by omega);have O:(2*q)*(2*q)*n=4*(q*q*n):=by grind
 have e7:(2*(q+1))*(2*(q+1))*n=4*((q+1)*(q+1)*n):=by grind
 have S:(2*(q+1))*(2*(q+1))*n<=(2*(q+1)+1)*(2*(q+1)+1)*n:=RN (by omega);have T:n=0\/q=0\/(2*q-1)*(2*q-1)*n<(2*q)*(2*q)*n:=by
  by_cases E:n=0
  ·exact .inl E
  ·by_cases M:q=0
   ·exact .inr (.inl M)
   ·right;right;refine ff ?_ (by omega);exact ip (by omega)
 have E:n≠0:=by rintro rfl;simp at I
 unfold E8;cases down
 ·simp only[dx,ig];by_cases c:(2*q+1)*(2*q+1)*n<=4*(a*a)
  ·rw[ab c];refine⟨.inr ?_,by omega⟩;rw[show 2*(q+1)-1=2*q+1 by omega];exact c
  ·rw[aa c];exact⟨by omega,by omega⟩
 ·simp only[dz];by_cases c:(2*q+1)*(2*q+1)*n<4*(a*a)
  ·rw[ab c];refine⟨.inr ?_,by omega⟩;rw[show 2*(q+1)-1=2*q+1 by omega];exact c
  ·rw[aa c];exact⟨by omega,by omega⟩
theorem Zto {A N:Nat} (E:0<N):∃q:Nat,q*q*N<=A*A/\A*A<(q+1)*(q+1)*N:=by
 have key:∀n:Nat,∃r:Nat,r*r<=n/\n<(r+1)*(r+1):=by
  intro n;induction n with
  |zero=>exact⟨0,by simp,by simp⟩
  |succ n J=>
   obtain⟨r,G,I⟩:=J;by_cases h:n+1<(r+1)*(r+1)
   ·exact⟨r,by omega,h⟩
   ·refine⟨r+1,by omega,?_⟩;have:(r+1+1)*(r+1+1)=(r+1)*(r+1)+2*(r+1)+1:=by grind
    omega
 obtain⟨q,G,I⟩:=key (A*A/N);exact⟨q,(Nat.le_div_iff_mul_le E).1 G,(fh E).1 I⟩
theorem Ug {x r n:Int} (T:x.natAbs<=33554432*4) (J:0<=r/\r<=33554432*4) (U:0<n/\n<=4611686018427387904) (M:x*x<=n):
  True/\(Ct x r n).natAbs<=268435456/\E8 (x.natAbs*r.natAbs) n.natAbs (decide (x<0)) (Ct x r n).natAbs:=by
 obtain⟨R,rfl⟩:=cg J.1;obtain⟨N,rfl⟩:=cg (show 0<=n by omega);have I:x.natAbs*x.natAbs<=N:=by
  have:((x.natAbs*x.natAbs:Nat):Int)=x*x:=by rw[gn]
  omega
 simp only[Ct,jo];obtain⟨q,O,S⟩:=Zto (A:=x.natAbs*R) (N:=N) (by omega);obtain⟨j,hi⟩:∃j,E8 (x.natAbs*R) N (decide (x<0)) j:=⟨_,Zzr (decide (x<0)) O S⟩;have hle:=Ye (X:=x.natAbs) (R:=R) (by omega) I hi;have E:=SD hi;by_cases G:x<0
 ·have e:=am G;rw[e]at hi E⊢;rw[ab G,E,Int.natAbs_neg,jo];exact⟨trivial,by omega,hi⟩
 ·have e:=an G;rw[e]at hi E⊢;rw[aa G,E,jo];exact⟨trivial,by omega,hi⟩
def IZ (n k:Int):Prop:=0<=k/\n<=k*k/\(k=0\/(k-1)*(k-1)<n)
theorem Zf6 {n i j:Int} (hi:IZ n i) (G:IZ n j):i=j:=by
 have key:∀{i j:Int},IZ n i->IZ n j-> ¬i<j:=by
  rintro i j ⟨I,J,-⟩ ⟨N,O,E⟩ M;rcases E with E|E
  ·omega
  ·have:=iv I (show i<=j-1 by omega);omega
 have I:=key hi G;have J:=key G hi;omega
open Classical in
noncomputable def upR (n:Int):Int:=if h:∃j,IZ n j then Classical.choose h else 0
theorem Zdm {n k:Int} (h:IZ n k):upR n=k:=by
 have E:∃j,IZ n j:=⟨k,h⟩;unfold upR;rw[dif_pos E];exact Zf6 (fm E) h
theorem Q3o {n r:Nat} (E:r*r<=n) (G:n<(r+1)*(r+1)):IZ n (if r*r<n then r+1 else r:Nat):=by
 unfold IZ;by_cases c:r*r<n
 ·rw[ab c];have e1:((r+1:Nat):Int)*((r+1:Nat):Int)=(((r+1)*(r+1):Nat):Int):=(dq _ _).symm;have e2:(((r+1:Nat):Int)-1)*(((r+1:Nat):Int)-1)=((r*r:Nat):Int):=by
   rw[show((r+1:Nat):Int)-1=(r:Int) by omega];exact(dq _ _).symm
  rw[e1,e2];generalize(r+1)*(r+1)=A at*;generalize r*r=B at*;exact⟨by omega,by omega, .inr (by omega)⟩
 ·rw[aa c];have e1:(r:Int)*(r:Int)=((r*r:Nat):Int):=(dq _ _).symm;rw[e1];refine⟨by omega,by omega,?_⟩;rcases fd r with h|h
  ·left;omega
  ·right;have e2:((r:Int)-1)*((r:Int)-1)=(((r-1)*(r-1):Nat):Int):=by
    rw[show(r:Int)-1=((r-1:Nat):Int) by omega];exact(dq _ _).symm
   have:=ip (show r-1<r by omega);rw[e2];omega
theorem Zg9 (k:Nat):((2^(k+1):Nat):Int).fdiv (2^min (Int.toNat 1) IntKind.i64.bits)=((2^k:Nat):Int):=by
 have e:(2^min (Int.toNat 1) IntKind.i64.bits:Int)=2:=rfl;rw[e,gk _ (by omega),jk];omega
theorem Z6k:(1:Int).fdiv (2^min (Int.toNat 1) IntKind.i64.bits)=0:=rfl
theorem Zfu:∀n:Nat,∃r:Nat,r*r<=n/\n<(r+1)*(r+1):=by
 intro n;induction n with
 |zero=>exact⟨0,by simp,by simp⟩
 |succ n E=>
  obtain⟨r,G,I⟩:=E;by_cases h:n+1<(r+1)*(r+1)
  ·exact⟨r,by omega,h⟩
  ·refine⟨r+1,by omega,?_⟩;have:(r+1+1)*(r+1+1)=(r+1)*(r+1)+2*(r+1)+1:=by grind
   omega
theorem Sc {n:Nat} (I:n<4611686018427387904):∃r:Nat,True/\r*r<=n/\n<(r+1)*(r+1)/\r<2147483648:=by
 obtain⟨r,E,G⟩:=Zfu n;refine⟨r,trivial,E,G,?_⟩;by_cases c:r<2147483648
 ·exact c
 ·have:=fv (show 2147483648<=r by omega) (show 2147483648<=r by omega);omega
def sqD (a b:Pt):Int:=JW (HD a b) (HD a b)
theorem QF (a b:Pt):0<=sqD a b:=by
 unfold sqD JW;have h:∀u:Int,0<=u*u:=λu=>by rw[<-gn];omega
 have:=h (HD a b).x;have:=h (HD a b).y;have:=h (HD a b).z;omega
theorem DL {x:Int} (h:x.natAbs<=A):0<=x*x/\x*x<=((A*A:Nat):Int):=by
 have:=fv h h;rw[<-gn];omega
theorem Qx {a b:Pt} (E:bd A a) (hb:bd A b) (G:A<=67108864):sqD a b<=54043195528445952:=by
 have h:∀x y:Int,x.natAbs<=A->y.natAbs<=A->(x-y)*(x-y)<=18014398509481984:=by
  intro x y I J;exact(DL (x:=x-y) (A:=134217728) (by omega)).2
 have M:=h _ _ E.1 hb.1;have N:=h _ _ E.2.1 hb.2.1;have O:=h _ _ E.2.2 hb.2.2;unfold sqD JW HD;simp only;omega
noncomputable def AJ (a b:Pt):Int:=upR (sqD a b)
theorem Zy {a b:Pt} (G:bd 67108864 a) (hb:bd 67108864 b):True/\IZ (sqD a b) (AJ a b):=by
 have h0:=QF a b;have I:=Qx G hb (db _);obtain⟨d,J⟩:=cg h0;unfold AJ;rw[J]at I⊢;obtain⟨r,-,M,N,O⟩:=Sc (n:=d) (by omega);have E:=Q3o M N;rw[Zdm E];exact⟨trivial,E⟩
theorem IP {a b:Pt} (G:bd 67108864 a) (hb:bd 67108864 b):0<=AJ a b/\AJ a b<=268435456:=by
 obtain⟨-,I,J,E⟩:=Zy G hb;have M:=Qx G hb (db _);refine⟨I,?_⟩;rcases E with E|E
 ·omega
 ·by_cases c:AJ a b<=268435456
  ·exact c
  ·have:=iv (a:=268435456) (b:=AJ a b-1) (by omega) (by omega);omega
def JS (n k:Int):Prop:=0<=k/\n<=k*(k+1)/\(k=0\/(k-1)*k<n)
theorem Ji {x:Int} (h:x.natAbs<=A) (E:A<=9223372036854775807):V x=x:=Ae
theorem IR {x y:Int} {A B:Nat} (E:x.natAbs<=A) (G:y.natAbs<=B):(x-y).natAbs<=A+B:=by omega
theorem UH {x y:Int} {A B:Nat} (E:x.natAbs<=A) (G:y.natAbs<=B):(x+y).natAbs<=A+B:=by omega
theorem XE {c u x:Int} (E:c.natAbs<=A) (G:(c+x).natAbs<=A) (h:(0<=x->0<=u/\u<=x)/\(x<=0->x<=u/\u<=0)):(c+u).natAbs<=A:=by
 rcases Int.le_total 0 x with g|g
 ·have:=h.1 g;omega
 ·have:=h.2 g;omega
theorem Z7 (a b:Pt):sqD a b=(a.x-b.x)*(a.x-b.x)+(a.y-b.y)*(a.y-b.y)+(a.z-b.z)*(a.z-b.z):=rfl
theorem F_ (u:Int):0<=u*u:=by rw[<-gn];omega
theorem Qft {a b:Pt}:sqD a b=0↔a=b:=by
 rw[Z7];obtain⟨a1,a2,a3⟩:=a;obtain⟨b1,b2,b3⟩:=b;have M:=F_ (a1-b1);have N:=F_ (a2-b2);have O:=F_ (a3-b3);constructor
 ·intro h;simp only at h;have e1:(a1-b1)*(a1-b1)=0:=by omega
  have e2:(a2-b2)*(a2-b2)=0:=by omega
  have e3:(a3-b3)*(a3-b3)=0:=by omega
  have z:∀u:Int,u*u=0->u=0:=λu E=>by
   rcases Int.mul_eq_zero.1 E with h|h<;>exact h
  have:=z _ e1;have:=z _ e2;have:=z _ e3;rw[Pt.mk.injEq];omega
 ·intro h;injection h with G I J;subst G I J;simp
theorem Q94 (a b:Pt):(a.x-b.x)*(a.x-b.x)<=sqD a b/\(a.y-b.y)*(a.y-b.y)<=sqD a b/\(a.z-b.z)*(a.z-b.z)<=sqD a b:=by
 rw[Z7];have E:=F_ (a.x-b.x);have G:=F_ (a.y-b.y);have I:=F_ (a.z-b.z);omega
noncomputable def Cb (c a:Pt) (d:Int):Pt:=⟨c.x+Ct (a.x-c.x) d (sqD a c),c.y+Ct (a.y-c.y) d (sqD a c),c.z+Ct (a.z-c.z) d (sqD a c)⟩
abbrev B24:Nat:=16777216
theorem WF {x r n:Int} (I:x.natAbs<=33554432*4) (J:0<=r/\r<=33554432*4) (M:0<n/\n<=4611686018427387904) (E:x*x<=n) (N:r*r<=n):
  (0<=x->0<=Ct x r n/\Ct x r n<=x)/\(x<=0->x<=Ct x r n/\Ct x r n<=0):=by
 obtain⟨-,S,O⟩:=Ug I J M E;have G := Zpo (by omega) (by
  have:((r.natAbs*r.natAbs:Nat):Int)=r*r:=gn;omega) O
 unfold Ct at*;constructor
 ·intro h;rw[aa]at G⊢;omega
 ·intro h;by_cases c:x<0
  ·rw[ab c]at G⊢;omega
  ·rw[aa c]at G⊢;omega
theorem Zkc {a b:Pt} (E:bd B24 a) (hb:bd B24 b):sqD a b<=3377699720527872:=by
 have h:∀x y:Int,x.natAbs<=B24->y.natAbs<=B24->(x-y)*(x-y)<=1125899906842624:=by
  intro x y G I;unfold B24 at*;exact(DL (x:=x-y) (A:=33554432) (by omega)).2
 have J:=h _ _ E.1 hb.1;have M:=h _ _ E.2.1 hb.2.1;have N:=h _ _ E.2.2 hb.2.2;rw[Z7];omega
theorem Lr {c a:Pt} (E:bd B24 c) (G:bd B24 a) (M:a≠c) (S:0<=k/\k<AJ a c):bd B24 (Cb c a k):=by
 have h0:sqD a c≠0:=λh=>M (Qft.1 h);have T:=QF a c;have U:=Qx (A3 G (by decide)) (A3 E (by decide)) (show 67108864<=67108864 by omega);obtain⟨-,g1,g2,g3⟩:=Zy (A3 G (show B24<=67108864 by decide)) (A3 E (show B24<=67108864 by decide));have hl:=IP (A3 G (show B24<=67108864 by decide)) (A3 E (show B24<=67108864 by decide));have I:k*k<=sqD a c:=by
  have:=iv S.1 (show k<=AJ a c-1 by omega);omega
 have N:k<=33554432*4:=by
  by_cases V:k<=33554432*4
  ·exact V
  ·exfalso;have h3:=iv (a:=33554432*4+1) (b:=k) (by omega) (by omega);have h4:=Zkc G E;omega
 obtain⟨X,Y,q3⟩:=Q94 a c;have O:0<sqD a c/\sqD a c<=4611686018427387904:=⟨Int.lt_iff_le_and_ne.2 ⟨T,λh=>h0 h.symm⟩,iy U (by decide)⟩;have J:0<=k/\k<=33554432*4:=⟨S.1,N⟩;have k1:=WF (x:=a.x-c.x) (r:=k) (n:=sqD a c) (df (IR G.1 E.1) (by decide)) J O X I;have k2:=WF (x:=a.y-c.y) (r:=k) (n:=sqD a c) (df (IR G.2.1 E.2.1) (by decide)) J O Y I;have k3:=WF (x:=a.z-c.z) (r:=k) (n:=sqD a c) (df (IR G.2.2 E.2.2) (by decide)) J O q3 I;have e:∀x y:Int,x+(y-x)=y:=λx y=>by omega
 exact⟨XE E.1 (by rw[e];exact G.1) k1,XE E.2.1 (by rw[e];exact G.2.1) k2,XE E.2.2 (by rw[e];exact G.2.2) k3⟩
def GQ (p c q:Pt):Pt:=⟨p.x-c.x+(q.x-c.x),p.y-c.y+(q.y-c.y),p.z-c.z+(q.z-c.z)⟩
def HV (p c q:Pt):Int:=JW (GQ p c q) (GQ p c q)
theorem Zr3 {p c q:Pt} (E:bd B24 p) (G:bd B24 c) (I:bd B24 q):bd 67108864 (GQ p c q):=by
 unfold bd B24 GQ at*;simp only;omega
def HE (a c b:Pt) (E d:Int):Prop:=d<=mn (AJ a c) (AJ c b)-2/\HV (Cb c a d) c (Cb c b d)<=16*E*E
theorem VW (x y:Int):mn x y<=x/\mn x y<=y:=by unfold mn;split<;>omega
theorem Zh3 (a b:Pt):sqD a b=sqD b a:=by
 unfold sqD;exact Z50 a b
theorem T4 (a b:Pt):AJ a b=AJ b a:=by unfold AJ;rw[Zh3]
open Classical in
noncomputable def Gj (P:Int->Prop):Nat->Int->Int
 |0,d=>if P (d+1)then d+1 else d
 |k+1,d=>Gj P k (if P (d+((2^(k+1):Nat):Int))then d+((2^(k+1):Nat):Int)else d)
open Classical in
theorem Q2s {P:Int->Prop}:∀(k:Nat) (d:Int),d<=Gj P k d/\Gj P k d<d+((2^(k+1):Nat):Int)/\(Gj P k d=d\/P (Gj P k d))
 |0,d=>by
  have e:((2^(0+1):Nat):Int)=2:=rfl;rw[e];unfold Gj;split
  ·rename_i h;exact⟨by omega,by omega, .inr h⟩
  ·exact⟨by omega,by omega, .inl rfl⟩
 |k+1,d=>by
  unfold Gj;have M:0<2^(k+1):=gq _;have e3:2^(k+1+1)=2^(k+1)+2^(k+1):=by rw[jk 2 (k+1)];omega
  rw[e3];have E:(if P (d+((2^(k+1):Nat):Int))then d+((2^(k+1):Nat):Int)else d)=d\/((if P (d+((2^(k+1):Nat):Int))then d+((2^(k+1):Nat):Int)else d)=d+((2^(k+1):Nat):Int)/\P (if P (d+((2^(k+1):Nat):Int))then d+((2^(k+1):Nat):Int)else d)):=by
   split
   ·rename_i h;exact .inr ⟨rfl,h⟩
   ·exact .inl rfl
  generalize(if P (d+((2^(k+1):Nat):Int))then d+((2^(k+1):Nat):Int)else d)=I at*;obtain⟨N,O,G⟩:=Q2s (P:=P) k I;generalize Gj P k I=x at*;generalize 2^(k+1)=m at*;rcases E with E|⟨E,J⟩
  ·subst E;exact⟨by omega,by omega,G⟩
  ·refine⟨by omega,by omega, .inr ?_⟩;rcases G with G|G
   ·rw[G];exact J
   ·exact G
open Classical in
noncomputable def DS (a c b:Pt) (E:Int):Int:=if a=c\/b=c then 0 else if Gj (HE a c b E) 24 0<16 then 0 else Gj (HE a c b E) 24 0
theorem Qpj {a c b:Pt} (h:DS a c b k≠0):a≠c/\b≠c/\16<=DS a c b k/\DS a c b k<33554432/\HE a c b k (DS a c b k):=by
 unfold DS at*;split at h
 ·exact absurd rfl h
 ·rename_i G;rw[aa G];split at h
  ·exact absurd rfl h
  ·rename_i I;rw[aa I];obtain⟨M,J,E⟩:=Q2s (P:=HE a c b k) 24 0;have e:((2^(24+1):Nat):Int)=33554432:=rfl;rw[e]at J;refine⟨λh=>G (.inl h),λh=>G (.inr h),by omega,by omega,?_⟩;rcases E with E|E
   ·omega
   ·exact E
theorem D7 {a b:Pt}:a=b↔a.x=b.x/\a.y=b.y/\a.z=b.z:=by
 obtain⟨a1,a2,a3⟩:=a;obtain⟨b1,b2,b3⟩:=b;simp
def LG (E:Int):Nat->Int->Int
 |0,n=>n
 |k+1,n=>if n<64/\E>16*n*n*n*n*4*4 then LG E k (n*2)else n
def KG (n:Int):Prop:=n=2\/n=4\/n=8\/n=16\/n=32\/n=64
def L4 (p c q:Pt):Int:=LG (HV p c q) 5 2
theorem Zck (b:Int):∀(k:Nat) (n:Int),KG n->KG (LG b k n)
 |0,n,h=>by unfold LG;exact h
 |k+1,n,h=>by
  unfold LG;split
  ·rename_i c;refine Zck b k (n*2) ?_;rcases h with rfl|rfl|rfl|rfl|rfl|rfl<;>simp[KG]at c⊢
  ·exact h
theorem W7 {p c q:Pt} (E:bd B24 p) (G:bd B24 c) (I:bd B24 q):True/\KG (L4 p c q):=⟨trivial,Zck _ 5 2 (.inl rfl)⟩
def O6 (n i p c q:Int):Int:=c+BA ((n-i)*(n-i)*(p-c)+i*i*(q-c)) (n*n)
def OS (n i:Int) (p c q:Pt):Pt:=⟨O6 n i p.x c.x q.x,O6 n i p.y c.y q.y,O6 n i p.z c.z q.z⟩
theorem SU {a b n:Int} (E:0<n) (h:a<=b):BA a n<=BA b n:=by
 unfold BA;exact Int.ediv_le_ediv (by omega) (by omega)
theorem Vm {k n:Int} (E:0<n):BA (k*n) n=k:=Mf E (by rw[show k*(2*n)=2*(k*n) by grind];omega) (by rw[show(k+1)*(2*n)=2*(k*n)+2*n by grind];omega)
theorem Oe {n i p c q:Int} (I:0<n) (hi:0<=i/\i<=n) (X:p.natAbs<=A) (Y:c.natAbs<=A) (hq:q.natAbs<=A):(O6 n i p c q).natAbs<=A:=by
 have E:0<n*n:=Int.mul_pos I I;have J:0<=(n-i)*(n-i):=F_ _;have M:0<=i*i:=F_ _;have N:(n-i)*(n-i)+i*i<=n*n:=by
  have:n*n-((n-i)*(n-i)+i*i)=2*(i*(n-i)):=by grind
  have:0<=i*(n-i):=fy hi.1 (by omega);omega
 have key:∀s:Int,(s=1\/s= -1)->s*((n-i)*(n-i)*(p-c)+i*i*(q-c))<=(A-s*c)*(n*n):=by
  intro s G;have O:s*p<=A:=by rcases G with rfl|rfl<;>omega
  have S:s*c<=A:=by rcases G with rfl|rfl<;>omega
  have T:s*q<=A:=by rcases G with rfl|rfl<;>omega
  have g1:(n-i)*(n-i)*(s*p-s*c)<=(n-i)*(n-i)*(A-s*c):=cz (by omega) J;have g2:i*i*(s*q-s*c)<=i*i*(A-s*c):=cz (by omega) M;have g3:((n-i)*(n-i)+i*i)*(A-s*c)<=n*n*(A-s*c):=dp N (by omega);have e1:s*((n-i)*(n-i)*(p-c)+i*i*(q-c))=(n-i)*(n-i)*(s*p-s*c)+i*i*(s*q-s*c):=by grind
  have e2:((n-i)*(n-i)+i*i)*(A-s*c)=(n-i)*(n-i)*(A-s*c)+i*i*(A-s*c):=jj ..;have e3:(A-s*c)*(n*n)=n*n*(A-s*c):=fa ..;omega
 unfold O6;have k1:=SU E (key 1 (.inl rfl)|>λh=>(by rw[ji,ji]at h;exact h));rw[Vm E]at k1;have k2:=key (-1) (.inr rfl);have U:(-(A:Int)-c)*(n*n)<=(n-i)*(n-i)*(p-c)+i*i*(q-c):=by
  have e:(-(A:Int)-c)*(n*n)= -((A- -1*c)*(n*n)):=by grind
  omega
 have V:=SU E U;rw[Vm E]at V;omega
noncomputable def GI (a c b:Pt) (E:Int):List Pt:=
 if DS a c b E=0 then [c]
 else(List.range ((L4 (Cb c a (DS a c b E)) c (Cb c b (DS a c b E))).toNat+1)).map fun(i:Nat)=>OS (L4 (Cb c a (DS a c b E)) c (Cb c b (DS a c b E))) i (Cb c a (DS a c b E)) c (Cb c b (DS a c b E))
theorem Q1r {a c b:Pt} (I:bd B24 a) (E:bd B24 c) (hb:bd B24 b):(∀p∈GI a c b k,bd B24 p)/\1<=(GI a c b k).length/\(GI a c b k).length<=65:=by
 unfold GI;by_cases h:DS a c b k=0
 ·rw[ab h];simp;exact E
 ·rw[aa h];obtain⟨J,M,O,S,T,-⟩:=Qpj h;obtain⟨m1,m2⟩:=VW (AJ a c) (AJ c b);generalize DS a c b k=d at*;have k1:bd B24 (Cb c a d):=Lr E I J (by omega);have k2:bd B24 (Cb c b d):=Lr E hb M (by rw[T4 b c];omega);have N:=(W7 k1 E k2).2;generalize L4 (Cb c a d) c (Cb c b d)=n at*;have U:2<=n/\n<=64:=by rcases N with rfl|rfl|rfl|rfl|rfl|rfl<;>omega
  refine⟨?_,by simp,by simp;omega⟩;intro p G;simp only[ba,List.mem_range]at G;obtain⟨i,hi,rfl⟩:=G;exact⟨Oe (by omega) (by omega) k1.1 E.1 k2.1,Oe (by omega) (by omega) k1.2.1 E.2.1 k2.2.1,Oe (by omega) (by omega) k1.2.2 E.2.2 k2.2.2⟩
theorem RC {v n:Int} (_:i64 v) (E:0<n/\n<=4611686018427387904):Gz [I v,I n]=some [I (v%n)]:=by
 unfold Gz;rw[Zty,Bg (by omega),Bg (by omega)];have N: -n<v.tmod n/\v.tmod n<n:=by
  have a1:=Int.tmod_lt_of_pos v E.1;have a2:=Int.lt_tmod_of_pos v E.1;omega
 rw[Ae];have G:(v.tmod n+n).tmod n=v%n:=by
  rw[je (by omega),Int.add_emod_right];have J:=Int.tmod_add_mul_tdiv v n;have M:v%n=(v.tmod n+n*v.tdiv n)%n:=by rw[J]
  rw[M,Int.add_mul_emod_self_left]
 rw[G]
def Src (l:Rw):Prop:=l.length<=9223372036854775807/\∀c∈l,i64 (Ah (nth .dead c 0))
theorem Zsw (h:i<l.length):nth [] l i∈l:=by rw[Gm [] l i h];exact bn h
theorem Zyu (J:∀v n:Int,i64 v->0<n/\n<=4611686018427387904->M [I v,I n]=some [I (v%n)]) {l:Rw} (G:Src l) {k:Nat} {n:Int} (E:0<n/\n<=4611686018427387904):
  ∃(v:Int) (k':Nat),Qox M [I n, .vC Aa l,I k]=some [I v, .vC Aa l,I k']/\0<=v/\v<n/\k<=k'/\(k<l.length->k'=k+1)/\(l.length<=k->k'=k):=by
 have N:=G.1;rw[Zx2];by_cases h:k<l.length
 ·have O:=J _ n (G.2 _ (Zsw h)) E;simp only[go_sem,ak,O];rw[aa,ab,Ae];exact⟨_,k+1,rfl,Int.emod_nonneg _ (by omega),kh _ E.1,by omega,λ_=>rfl,by omega⟩
 ·simp only[go_sem];rw[ab];exact⟨0,k,rfl,by omega,E.1,by omega,by omega,λ_=>rfl⟩
theorem Z7h (G:Src l) (k:Nat) {n:Int} (E:0<n/\n<=4611686018427387904):
  ∃(v:Int) (k':Nat),Dv [I n, .vC Aa l,I k]=some [I v, .vC Aa l,I k']/\0<=v/\v<n/\k<=k'/\(k<l.length->k'=k+1)/\(l.length<=k->k'=k):=
 Zyu (λ_ _ J E=>RC J E) G E
theorem Zio (l:Rw) (k:Nat):LM [.vC Aa l,I k]=some [B (decide (k<l.length)), .vC Aa l,I k]:=by
 unfold LM;rw[Zg7];congr 3;simp
theorem TX (l:Rw):Es [.vC Aa l]=some [.vC Aa l,I 0]:=by
 unfold Es;rw[Zqv]
def A6 (r:Int) (k:Int):Int:=if k%4=0 then r else if k%4=2 then-r else 0
def A7 (r:Int) (k:Int):Int:=if k%4=1 then r else if k%4=3 then-r else 0
theorem Z9k (J:0<=a/\a<=1000000) (E:0<=k/\k<=1000):Pw [I a,I k]=some [I (A6 a k),I (A7 a k)]:=by
 unfold Pw;rw[Zxb,Ae,je E.1];have G:k%4=0\/k%4=1\/k%4=2\/k%4=3:=by omega
 unfold A6 A7;rcases G with h|h|h|h<;>rw[h]<;>simp[nth,Ah]
def plU (pl:Int) (p:Pt):Int:=if pl=17 then p.x else if pl=18 then p.z else p.y
def plW (pl:Int) (p:Pt):Int:=if pl=17 then p.y else if pl=18 then p.x else p.z
def plH (pl:Int) (p:Pt):Int:=if pl=17 then p.z else if pl=18 then p.y else p.x
def spP (pl u w h:Int):Pt:=if pl=17 then⟨u,w,h⟩else if pl=18 then⟨w,h,u⟩else⟨h,u,w⟩
def Dx (pl:Int):Prop:=pl=17\/pl=18\/pl=19
theorem Zyq (h:Dx a):OJ [I g.x,I g.y,I g.z,I a]=some [I (plU a g),I (plW a g),I (plH a g)]:=by
 unfold OJ;rw[Zqb];rcases h with rfl|rfl|rfl<;>rfl
theorem Z80 {u w h pl:Int} (E:Dx pl):OZ [I u,I w,I h,I pl]=some (ptR (spP pl u w h)):=by
 unfold OZ;rw[Z6y];rcases E with rfl|rfl|rfl<;>rfl
theorem Ho {pl u w h:Int} (E:Dx pl):plU pl (spP pl u w h)=u/\plW pl (spP pl u w h)=w/\plH pl (spP pl u w h)=h:=by
 rcases E with rfl|rfl|rfl<;>exact⟨rfl,rfl,rfl⟩
structure ArcMade (size : Int) (it : Itm) : Prop where
 aP:it.aP=3
 aG:Dx it.aG
 dir:it.dir=1\/it.dir= -1
 ends:∃r k t g h:Int,8<=r/\r<8+size/\0<=k/\k<=3/\0<=t/\t<=3/\0<=g/\g<=4/\(h=0\/h=7\/h= -12)/\(t=0->g=0)/\it.full=decide (t=0)/\
  it.ce=spP it.aG (plU it.aG it.fr-A6 r k) (plW it.aG it.fr-A7 r k) (plH it.aG it.fr)/\
  it.to=spP it.aG (plU it.aG it.fr-A6 r k+A6 (r+g) (k+t)) (plW it.aG it.fr-A7 r k+A7 (r+g) (k+t)) (plH it.aG it.fr+h)
theorem Lv {r k:Int} (E:0<=r):(-r<=A6 r k/\A6 r k<=r)/\(-r<=A7 r k/\A7 r k<=r):=by
 unfold A6 A7;constructor<;>constructor<;>split<;>(try split)<;>omega
theorem Zee {r:Int} (I:1<=r) (k:Int):((A6 r k).tdiv r=A6 1 k)/\((A7 r k).tdiv r=A7 1 k):=by
 have E:r.tdiv r=1:=Int.tdiv_self (by omega);have G:(-r).tdiv r= -1:=by rw[Int.neg_tdiv,E]
 unfold A6 A7;constructor<;>split<;>(try split)<;>simp[E,G]
theorem Z6b (r k e f:Int):∃g,(g=e\/g=f)/\A6 r k+A6 1 k*e=A6 (r+g) k/\A7 r k+A7 1 k*f=A7 (r+g) k:=by
 unfold A6 A7;by_cases h:k%4=0\/k%4=2
 ·refine⟨e, .inl rfl,?_,?_⟩
  ·rcases h with h|h<;>simp[h]<;>omega
  ·rcases h with h|h<;>simp[h]
 ·have E:k%4=1\/k%4=3:=by omega
  refine⟨f, .inr rfl,?_,?_⟩
  ·rcases E with h|h<;>simp[h]
  ·rcases E with h|h<;>simp[h]<;>omega
theorem Gl {pl:Int} (h:bd i g):(plU pl g).natAbs<=i/\(plW pl g).natAbs<=i/\(plH pl g).natAbs<=i:=by
 obtain⟨E,G,I⟩:=h;unfold plU plW plH;refine⟨?_,?_,?_⟩<;>split<;>(try split)<;>assumption
def JC (l:Rw) (M:Fn):Prop:=∀(k:Nat) {n:Int},0<n/\n<=4611686018427387904->
  ∃(v:Int) (k':Nat),M [I n, .vC Aa l,I k]=some [I v, .vC Aa l,I k']/\0<=v/\v<n/\k<=k'/\(k<l.length->k'=k+1)/\(l.length<=k->k'=k)
abbrev GM (it:Itm):Prop:=it.block=0/\it.side=0/\it.radius=0/\it.aS=0/\it.on=false
theorem Z3l (h:0<=v/\v<3):Ah (nth .dead (nth [] [[I 17],[I 18],[I 19]] v.toNat) 0)=17+v:=by
 have E:v=0\/v=1\/v=2:=by omega
 rcases E with rfl|rfl|rfl<;>rfl
theorem Q4m (h:0<=v/\v<4):∃x,Ah (nth .dead (nth [] [[I 0],[I 0],[I 7],[I (-12)]] v.toNat) 0)=x/\(x=0\/x=7\/x= -12):=by
 have E:v=0\/v=1\/v=2\/v=3:=by omega
 rcases E with rfl|rfl|rfl|rfl<;>exact⟨_,rfl,by decide⟩
theorem Zfr (S:JC l T)
  (hP:∀{p:Pt} {pl:Int},Dx pl->W [I p.x,I p.y,I p.z,I pl]=some [I (plU pl p),I (plW pl p),I (plH pl p)])
  (hS:∀{u w h pl:Int},Dx pl->M [I u,I w,I h,I pl]=some (ptR (spP pl u w h)))
  (hT:∀{r k:Int},(0<=r/\r<=1000000)->(0<=k/\k<=1000)->Z [I r,I k]=some [I (A6 r k),I (A7 r k)])
  {p:Pt} (hp:bd 100000000 p) {size:Int} (hs:0<size/\size<=100000) (k:Nat):
  ∃(it:Itm) (k':Nat),Qki M Z W T [I p.x,I p.y,I p.z,I size, .vC Aa l,I k]=some (Af it++[.vC Aa l,I k'])/\k<=k'/\it.fr=p/\ArcMade size it/\
   it.aZ=0/\it.perRev=false/\it.blend=0/\it.n=0/\GM it:=by
 obtain⟨N,k1,e1,a1,b1,c1,-,-⟩:=S k (n:=3) (by omega);obtain⟨v2,k2,e2,a2,b2,c2,-,-⟩:=S k1 (n:=2) (by omega);obtain⟨G,k3,e3,a3,b3,c3,-,-⟩:=S k2 (n:=size) (by omega);obtain⟨E,k4,e4,a4,b4,c4,-,-⟩:=S k3 (n:=4) (by omega);obtain⟨J,k5,e5,a5,b5,c5,-,-⟩:=S k4 (n:=4) (by omega);rw[Zyw];simp only[go_sem,e1,e2,e3,e4,e5];rw[ab (by simp;omega)];have a0:Dx (17+N):=by unfold Dx;omega
 have w1:V (8+G)=8+G:=Ae;have w2:V (E+J)=E+J:=Ae;simp only[Z3l ⟨a1,b1⟩,hP a0,go_sem,w1,w2,hT (r:=8+G) (k:=E) (by omega) (by omega),hT (r:=8+G) (k:=E+J) (by omega) (by omega),hS a0];obtain⟨q1,q2,q3⟩:=Gl (pl:=17+N) hp;obtain⟨⟨r1,r2⟩,r3,r4⟩:=Lv (r:=8+G) (k:=E) (by omega);obtain⟨⟨r5,r6⟩,r7,r8⟩:=Lv (r:=8+G) (k:=E+J) (by omega);obtain⟨d1,d2⟩:=Zee (r:=8+G) (by omega) (E+J);obtain⟨⟨r9,f4⟩,f5,g0⟩:=Lv (r:=1) (k:=E+J) (by omega);have w3:V (plU (17+N) p-A6 (8+G) E)=plU (17+N) p-A6 (8+G) E:=Ae;have w4:V (plW (17+N) p-A7 (8+G) E)=plW (17+N) p-A7 (8+G) E:=Ae;have w5:V (1-V (v2*2))=1-v2*2:=by rw[Ae (x:=v2*2),Ae]
 have w6:V (plU (17+N) p-A6 (8+G) E+A6 (8+G) (E+J))=plU (17+N) p-A6 (8+G) E+A6 (8+G) (E+J):=Ae;have w7:V (plW (17+N) p-A7 (8+G) E+A7 (8+G) (E+J))=plW (17+N) p-A7 (8+G) E+A7 (8+G) (E+J):=Ae;rw[w3,w4,w5,w6,w7];have d0:1-v2*2=1\/1-v2*2= -1:=by omega
 have fin:∀(g:Int) (u w:Int) (k8:Nat),k5<=k8->0<=g->g<=4->(J=0->g=0)->u=A6 (8+G+g) (E+J)->w=A7 (8+G+g) (E+J)->∀O:Int,0<=O/\O<4->
   ∃it:Itm,[I 3,I 0,I p.x,I p.y,I p.z,I (spP (17+N) (plU (17+N) p-A6 (8+G) E+u) (plW (17+N) p-A7 (8+G) E+w) (plH (17+N) p+Ah (nth .dead (nth [] [[I 0],[I 0],[I 7],[I (-12)]] O.toNat) 0))).x,
    I (spP (17+N) (plU (17+N) p-A6 (8+G) E+u) (plW (17+N) p-A7 (8+G) E+w) (plH (17+N) p+Ah (nth .dead (nth [] [[I 0],[I 0],[I 7],[I (-12)]] O.toNat) 0))).y,
    I (spP (17+N) (plU (17+N) p-A6 (8+G) E+u) (plW (17+N) p-A7 (8+G) E+w) (plH (17+N) p+Ah (nth .dead (nth [] [[I 0],[I 0],[I 7],[I (-12)]] O.toNat) 0))).z,
    I (17+N),I (spP (17+N) (plU (17+N) p-A6 (8+G) E) (plW (17+N) p-A7 (8+G) E) (plH (17+N) p)).x,I (spP (17+N) (plU (17+N) p-A6 (8+G) E) (plW (17+N) p-A7 (8+G) E) (plH (17+N) p)).y,I (spP (17+N) (plU (17+N) p-A6 (8+G) E) (plW (17+N) p-A7 (8+G) E) (plH (17+N) p)).z,
    I (1-v2*2),B (decide (J=0)),I 0,B false,I 0,I 0,I 0,I 0,I 0,B false, .vC Aa l,I k8]=Af it++[.vC Aa l,I k8]/\it.fr=p/\ArcMade size it/\it.aZ=0/\it.perRev=false/\it.blend=0/\it.n=0/\GM it:=by
  intro g u w k8 g1 f0 f1 f2 hu hw O b0;obtain⟨x,hx,d3⟩:=Q4m b0;rw[hx];refine⟨⟨3,0,p,_,17+N,_,1-v2*2,decide (J=0),0,false,0,0,0,0,0,false⟩,rfl,rfl,⟨rfl,a0,d0,8+G,E,J,g,x,?_⟩,rfl,rfl,rfl,rfl,rfl,rfl,rfl,rfl,rfl⟩;subst hu hw;exact⟨by omega,by omega,by omega,by omega,by omega,by omega,f0,f1,d3,f2,rfl,rfl,rfl⟩
 have c0:∀O:Int,0<=O/\O<4->V (plH (17+N) p+Ah (nth .dead (nth [] [[I 0],[I 0],[I 7],[I (-12)]] O.toNat) 0))=plH (17+N) p+Ah (nth .dead (nth [] [[I 0],[I 0],[I 7],[I (-12)]] O.toNat) 0):=by
  intro O b0;obtain⟨x,hx,d3⟩:=Q4m b0;rw[hx];exact Ae
 have f3:(J==0)=decide (J=0):=rfl;by_cases d4:J>0
 ·rw[ab d4];obtain⟨v6,k6,e6,a6,b6,c6,-,-⟩:=S k5 (n:=3) (by omega);simp only[go_sem,e6];by_cases d5:v6=0
  ·rw[ab d5,aa];obtain⟨v7,k7,e7,a7,b7,c7,-,-⟩:=S k6 (n:=5) (by omega);obtain⟨v8,k8,e8,a8,b8,c8,-,-⟩:=S k7 (n:=5) (by omega);obtain⟨O,U,e9,X,Y,c9,-,-⟩:=S k8 (n:=4) (by omega);simp only[go_sem,e7,e8,e9];rw[aa,ab (by simp;omega),c0 O ⟨X,Y⟩,d1,d2];obtain⟨g,hg,hu,hw⟩:=Z6b (8+G) (E+J) v7 v8;have mu: -4<=A6 1 (E+J)*v7/\A6 1 (E+J)*v7<=4:=by
    have hc:A6 1 (E+J)= -1\/A6 1 (E+J)=0\/A6 1 (E+J)=1:=by omega
    rcases hc with h|h|h<;>rw[h]<;>omega
   have mw: -4<=A7 1 (E+J)*v8/\A7 1 (E+J)*v8<=4:=by
    have hc:A7 1 (E+J)= -1\/A7 1 (E+J)=0\/A7 1 (E+J)=1:=by omega
    rcases hc with h|h|h<;>rw[h]<;>omega
   rw[Ae (x:=A6 1 (E+J)),Ae (x:=A7 1 (E+J)),Ae (x:=A6 1 (E+J)*v7),Ae (x:=A7 1 (E+J)*v8),
    Ae (x:=A6 (8+G) (E+J)+_),Ae (x:=A7 (8+G) (E+J)+_),hu,hw]
   obtain⟨⟨s1,s2⟩,s3,s4⟩:=Lv (r:=8+G+g) (k:=E+J) (by omega);rw[Ae (x:=_+A6 (8+G+g) (E+J)),Ae (x:=_+A7 (8+G+g) (E+J))];obtain⟨it,h1,h2⟩:=fin g _ _ U (by omega) (by omega) (by omega) (by omega) rfl rfl O ⟨X,Y⟩;refine⟨it,U,?_,by omega,h2⟩;exact ii some h1
  ·rw[aa d5];obtain⟨O,U,e9,X,Y,c9,-,-⟩:=S k6 (n:=4) (by omega);simp only[go_sem,e9];rw[ab (by simp;omega),c0 O ⟨X,Y⟩];obtain⟨it,h1,h2⟩:=fin 0 _ _ U (by omega) (by omega) (by omega) (by omega) (by rw[iz]) (by rw[iz]) O ⟨X,Y⟩;refine⟨it,U,?_,by omega,h2⟩;exact ii some h1
 ·rw[aa d4];obtain⟨O,U,e9,X,Y,c9,-,-⟩:=S k5 (n:=4) (by omega);simp only[go_sem,e9];rw[ab (by simp;omega),c0 O ⟨X,Y⟩];obtain⟨it,h1,h2⟩:=fin 0 _ _ U (by omega) (by omega) (by omega) (by omega) (by rw[iz]) (by rw[iz]) O ⟨X,Y⟩;refine⟨it,U,?_,by omega,h2⟩;exact ii some h1
theorem Kc (E:Src l):JC l Dv:=λk _ G=>Z7h E k G
theorem Z3e (E:Src l) {p:Pt} (G:bd 100000000 p) {size:Int} (J:0<size/\size<=100000) (k:Nat):
  ∃(it:Itm) (k':Nat),QX [I p.x,I p.y,I p.z,I size, .vC Aa l,I k]=some (Af it++[.vC Aa l,I k'])/\k<=k'/\it.fr=p/\ArcMade size it/\
   it.aZ=0/\it.perRev=false/\it.blend=0/\it.n=0/\GM it:=
 Zfr (Kc E) Zyq Z80 Z9k G J k
structure Made (it : Itm) : Prop where
 aP:1<=it.aP/\it.aP<=6
 line:it.aP≠3->(it.to.x-it.fr.x).natAbs<=16/\(it.to.y-it.fr.y).natAbs<=16/\(it.to.z-it.fr.z).natAbs<=16
 arc:it.aP=3->ArcMade 8 it
 aZ:it.aP≠1->1<=it.aZ/\it.aZ<=60000000
 blend:0<=it.blend/\it.blend<=9
 sync:it.aP=5\/it.aP=6->it.blend=0/\it.aZ<=60
 free:it.aP<=4->it.perRev=false
 full:it.aP≠3->it.full=false
theorem Q9x (h:0<=v/\v<5):∃x,Ah (nth .dead (nth [] [[I 300000],[I 1],[I 60000],[I 2000000],[I 60000000]] v.toNat) 0)=x/\1<=x/\x<=60000000:=by
 have E:v=0\/v=1\/v=2\/v=3\/v=4:=by omega
 rcases E with rfl|rfl|rfl|rfl|rfl<;>exact⟨_,rfl,by decide⟩
theorem Q67 (h:0<=v/\v<5):∃x,Ah (nth .dead (nth [] [[I 0],[I 1],[I 2],[I 4],[I 9]] v.toNat) 0)=x/\0<=x/\x<=9:=by
 have E:v=0\/v=1\/v=2\/v=3\/v=4:=by omega
 rcases E with rfl|rfl|rfl|rfl|rfl<;>exact⟨_,rfl,by decide⟩
theorem Z94 {it:Itm} (h:ArcMade a it) (f b:Int) (pr:Bool) (n:Int):ArcMade a {it with aZ:=f,blend:=b,perRev:=pr,n:=n}:=⟨h.aP,h.aG,h.dir,h.ends⟩
theorem Z0m (E:JC l Z)
  (hA:∀{p:Pt},bd 100000000 p->∀k:Nat,∃(it:Itm) (k':Nat),M [I p.x,I p.y,I p.z,I 8, .vC Aa l,I k]=some (Af it++[.vC Aa l,I k'])/\k<=k'/\it.fr=p/\ArcMade 8 it/\it.aZ=0/\it.perRev=false/\it.blend=0/\it.n=0/\GM it)
  {p:Pt} (hp:bd 100000000 p) {aP:Int} (hk:1<=aP/\aP<=6) (k:Nat):
  ∃(it:Itm) (k':Nat),Ww Z M [I p.x,I p.y,I p.z,I aP, .vC Aa l,I k]=some (Af it++[.vC Aa l,I k'])/\k<=k'/\it.fr=p/\it.aP=aP/\Made it/\GM it:=by
 rw[Z0t];obtain⟨d1,d2,d3⟩:=hp;by_cases h3:aP=3
 ·subst h3;obtain⟨it,k1,e1,c1,g1,g2,g3,g4,g5,g6,g7,g8,g9,g10,g11⟩:=hA ⟨d1,d2,d3⟩ k;obtain⟨G,k2,e2,a2,b2,c2,-,-⟩:=E k1 (n:=5) (by omega);obtain⟨J,k3,e3,a3,b3,c3,-,-⟩:=E k2 (n:=5) (by omega);simp only[go_sem,e1,Af,az,bf,e2,e3];rw[aa,ab (by simp;omega),ab (by simp;omega),aa,aa,aa];obtain⟨f,hf,Y,a0⟩:=Q9x ⟨a2,b2⟩;obtain⟨b,hb,b0,c0⟩:=Q67 ⟨a3,b3⟩;rw[hf,hb];have N:=g2.aP;refine⟨{it with aZ:=f,blend:=b,perRev:=it.perRev,n:=it.n},k3,rfl,by omega,g1,N,⟨?_,?_,?_,?_,?_,?_,?_,?_⟩,g7,g8,g9,g10,g11⟩
  ·show 1<=it.aP/\it.aP<=6;omega
  ·exact λh=>absurd N h
  ·exact λ_=>Z94 g2 f b _ _
  ·exact λ_=>⟨Y,a0⟩
  ·exact⟨b0,c0⟩
  ·intro h;change it.aP=5\/it.aP=6 at h;omega
  ·exact λ_=>g4
  ·exact λh=>absurd N h
 ·simp only[go_sem];rw[aa h3];obtain⟨O,k1,e1,a1,b1,c1,-,-⟩:=E k (n:=25) (by omega);obtain⟨G,k2,e2,a2,b2,c2,-,-⟩:=E k1 (n:=25) (by omega);obtain⟨J,k3,e3,a3,b3,c3,-,-⟩:=E k2 (n:=3) (by omega);obtain⟨v4,k4,e4,a4,b4,c4,-,-⟩:=E k3 (n:=9) (by omega);obtain⟨S,k5,e5,a5,b5,c5,-,-⟩:=E k4 (n:=2) (by omega);simp only[go_sem,e1,e2,e3,e4,e5];have hm:0<=J*v4/\J*v4<=16:=by
   have hc:J=0\/J=1\/J=2:=by omega
   rcases hc with rfl|rfl|rfl<;>omega
  generalize J*v4=m at hm;have w1:V (V (p.x+O)-12)=p.x+O-12:=by rw[Ae (x:=p.x+O),Ae]
  have w2:V (V (p.y+G)-12)=p.y+G-12:=by rw[Ae (x:=p.y+G),Ae]
  have w3:V (V (p.z+V m)-V (8*S))=p.z+m-8*S:=by
   rw[Ae (x:=m),Ae (x:=p.z+m),Ae (x:=8*S),Ae]
  rw[w1,w2,w3]
  have mk:∀(f b n:Int) (pr:Bool),(aP≠1->1<=f/\f<=60000000)->(0<=b/\b<=9)->(aP=5\/aP=6->b=0/\f<=60)->(aP<=4->pr=false)->
    ∃it:Itm,Af it=[I aP,I 0,I p.x,I p.y,I p.z,I (p.x+O-12),I (p.y+G-12),I (p.z+m-8*S),I 0,I 0,I 0,I 0,I 0,B false,I f,B pr,I 0,I 0,I b,I n,I 0,B false]/\it.fr=p/\it.aP=aP/\Made it/\GM it:=by
   intro f b n pr T h2 U X;refine⟨⟨aP,0,p,⟨p.x+O-12,p.y+G-12,p.z+m-8*S⟩,0,⟨0,0,0⟩,0,false,f,pr,0,0,b,n,0,false⟩,rfl,rfl,rfl,⟨hk,λ_=> ?_,λh=>absurd h h3,T,h2,U,X,λ_=>rfl⟩,rfl,rfl,rfl,rfl,rfl⟩;show(p.x+O-12-p.x).natAbs<=16/\(p.y+G-12-p.y).natAbs<=16/\(p.z+m-8*S-p.z).natAbs<=16;omega
  have en:∀(f b n:Int) (pr:Bool) (k':Nat),k<=k'->(aP≠1->1<=f/\f<=60000000)->(0<=b/\b<=9)->(aP=5\/aP=6->b=0/\f<=60)->(aP<=4->pr=false)->
    ∃(it:Itm) (d0:Nat),some [I aP,I 0,I p.x,I p.y,I p.z,I (p.x+O-12),I (p.y+G-12),I (p.z+m-8*S),I 0,I 0,I 0,I 0,I 0,B false,I f,B pr,I 0,I 0,I b,I n,I 0,B false, .vC Aa l,I k']=some (Af it++[.vC Aa l,I d0])/\k<=d0/\it.fr=p/\it.aP=aP/\Made it/\GM it:=by
   intro f b n pr k' h0 T h2 U X;obtain⟨it,i1,i2⟩:=mk f b n pr T h2 U X;refine⟨it,k',?_,h0,i2⟩;rw[i1];rfl
  by_cases T:aP=1
  ·rw[ab T];exact en _ _ _ _ _ (by omega) (λh=>absurd T h) (by omega) (by omega) (λ_=>rfl)
  ·rw[aa T];obtain⟨v6,k6,e6,a6,b6,c6,-,-⟩:=E k5 (n:=5) (by omega);obtain⟨v7,k7,e7,a7,b7,c7,-,-⟩:=E k6 (n:=5) (by omega);obtain⟨v8,k8,e8,a8,b8,c8,-,-⟩:=E k7 (n:=60) (by omega);obtain⟨v9,k9,e9,a9,b9,c9,-,-⟩:=E k8 (n:=2) (by omega);simp only[go_sem,e6,e7,e8,e9];rw[ab (by simp;omega),ab (by simp;omega)];obtain⟨f,hf,Y,a0⟩:=Q9x ⟨a6,b6⟩;obtain⟨b,hb,b0,c0⟩:=Q67 ⟨a7,b7⟩;rw[hf,hb,Ae (x:=1+v8),Ae (x:=3+v9)];by_cases X:aP=5
   ·rw[ab X,aa];exact en _ _ _ _ _ (by omega) (by omega) (by omega) (by omega) (by omega)
   ·rw[aa X];by_cases h6:aP=6
    ·rw[ab h6,ab h6];exact en _ _ _ _ _ (by omega) (by omega) (by omega) (by omega) (by omega)
    ·rw[aa h6];by_cases U:aP=4
     ·rw[ab U];exact en _ _ _ _ _ (by omega) (by omega) (by omega) (by omega) (λ_=>rfl)
     ·rw[aa U];exact en _ _ _ _ _ (by omega) (by omega) (by omega) (by omega) (λ_=>rfl)
theorem Zu3 (G:Src l) {p:Pt} (E:bd 100000000 p) {aP:Int} (J:1<=aP/\aP<=6) (k:Nat):
  ∃(it:Itm) (k':Nat),NH [I p.x,I p.y,I p.z,I aP, .vC Aa l,I k]=some (Af it++[.vC Aa l,I k'])/\k<=k'/\it.fr=p/\it.aP=aP/\Made it/\GM it:=
 Z0m (Kc G) (λE k=>Z3e G E (by omega) k) E J k
def Mh:Pt->List Itm->Prop
 |_,[]=>True
 |p,it::l=>it.fr=p/\Mh it.to l
def H0:Pt->List Itm->Pt
 |p,[]=>p
 |_,it::l=>H0 it.to l
theorem Q56 {p:Pt} {it:Itm}:∀{l:List Itm} {p:Pt},Mh p l->it.fr=H0 p l->Mh p (l++[it])
 |[],_,_,h=>⟨h,trivial⟩
 |_::_,_,⟨E,G⟩,h=>⟨E,Q56 (p:=p) G h⟩
theorem Qcy {it:Itm}:∀{l:List Itm} {p:Pt},H0 p (l++[it])=it.to
 |[],_=>rfl
 |_::l,_=>Qcy (l:=l)
structure Motions (B : Nat) (p : Pt) (l : List Itm) : Prop where
 chain:Mh p l
 made:∀it∈l,Made it/\GM it/\it.aP<=3/\bd B it.fr/\bd B it.to
theorem Ve {it:Itm} (h:ArcMade a it) (M:a<=1000) (hf:bd i it.fr):bd (i+2*(12+a.toNat)) it.to/\bd (i+8+a.toNat) it.ce:=by
 obtain⟨r,k,t,g,x,N,O,S,T,U,V,X,Y,h9,I,J,E,G⟩:=h.ends;obtain⟨q1,q2,q3⟩:=Gl (pl:=it.aG) hf;obtain⟨⟨r1,r2⟩,r3,r4⟩:=Lv (r:=r) (k:=k) (by omega);obtain⟨⟨r5,r6⟩,r7,r8⟩:=Lv (r:=r+g) (k:=k+t) (by omega);rw[E,G];unfold bd spP;constructor<;>split<;>(try split)<;>refine⟨?_,?_,?_⟩<;>simp only<;>omega
theorem Qvi {it:Itm} (h:Made it) (hf:bd i it.fr):bd (i+40) it.to:=by
 by_cases E:it.aP=3
 ·exact A3 (Ve (h.arc E) (by omega) hf).1 (by omega)
 ·obtain⟨G,I,J⟩:=h.line E;obtain⟨g1,g2,M⟩:=hf;exact⟨by omega,by omega,by omega⟩
theorem Zn6 (h:0<=v/\v<5):∃x,Ah (nth .dead (nth [] [[I 2],[I 2],[I 2],[I 3],[I 1]] v.toNat) 0)=x/\1<=x/\x<=3:=by
 have E:v=0\/v=1\/v=2\/v=3\/v=4:=by omega
 rcases E with rfl|rfl|rfl|rfl|rfl<;>exact⟨_,rfl,by decide⟩
theorem Z4d {V X Y MF:Fn} (hN:JC l Y)
  (hM : ∀ {p : Pt}, bd 100000000 p -> ∀ {aP : Int}, (1 <= aP /\ aP <= 6) -> ∀ k : Nat,
   ∃(it:Itm) (k':Nat),V [I p.x,I p.y,I p.z,I aP, .vC Aa l,I k]=some (Af it++[.vC Aa l,I k'])/\k<=k'/\it.fr=p/\it.aP=aP/\Made it/\GM it)
  (hL:∀k:Nat,X [.vC Aa l,I k]=some [B (decide (k<l.length)), .vC Aa l,I k]) {E:Int} (hm:E<=1000) {p:Pt}:
  ∀s:List Itm×Nat,(Motions (4+40*1000) p s.1/\bd (4+40*s.1.length) (H0 p s.1)/\(s.1=[]\/s.1.length<=E))->
   ∃o,Ak (Qnc V X Y MF) [.vC Aj (s.1.map Af),I E,I (H0 p s.1).x,I (H0 p s.1).y,I (H0 p s.1).z, .vC Aa l,I s.2]=some o/\o.1≠0/\
    ∃aA,o=(1,[.vC Aj (aA.map Af)])/\Motions (4+40*1000) p aA/\(aA=[]\/aA.length<=E):=by
 refine Qx3 (S:=List Itm×Nat) (λs=>[.vC Aj (s.1.map Af),I E,I (H0 p s.1).x,I (H0 p s.1).y,I (H0 p s.1).z, .vC Aa l,I s.2]) _ (λs=>l.length-s.2) _ ?_;rintro⟨aA,k⟩ ⟨G,M,N⟩;simp only at G M N;simp only;rw[Zza];simp only[go_sem,hL,af];by_cases c1:(aA.length:Int)<E
 case neg=>
  rw[aa c1];exact .inr ⟨_,rfl,by simp,aA,rfl,G,N⟩
 rw[ab c1];by_cases O:k<l.length
 case neg=>
  rw[aa (by simpa using O)];exact .inr ⟨_,rfl,by simp,aA,rfl,G,N⟩
 rw[ab (by simpa using O)];obtain⟨v,k1,e1,a1,b1,d1,d2,-⟩:=hN k (n:=5) (by omega);have d3:=d2 O;subst d3;obtain⟨x,hx,a0,a2⟩:=Zn6 ⟨a1,b1⟩;have T:bd 100000000 (H0 p aA):=A3 M (by omega);obtain⟨it,k2,e2,g1,g2,g3,g4,g5⟩:=hM T (aP:=x) (by omega) (k+1);simp only[go_sem,e1,hx,e2,Af,az,bf];rw[ab (by simp;omega),ab (by simp;omega)];left;have J:=Qvi g4 (by rw[g2];exact M);have U:aA.length<1000:=by omega
 refine⟨(aA++[it],k2),?_,⟨⟨Q56 (p:=p) G.chain g2,?_⟩,?_, .inr ?_⟩,?_⟩
 ·simp only[Qcy,de,bt,f8,Af]
 ·intro i hi;simp only[bq,dw]at hi;rcases hi with hi|rfl
  ·exact G.made i hi
  ·exact⟨g4,g5,by omega,by rw[g2];exact A3 M (by omega),A3 J (by omega)⟩
 ·simp only[Qcy,ay,List.length_singleton];exact A3 J (by omega)
 ·simp only[ay,List.length_singleton];omega
 ·simp only;omega
theorem Zkf (G:JC l W) (V:T [.vC Aa l]=some [.vC Aa l,I 0]) {E:Int}
  (X:∀(p:Pt) (k:Nat),bd 4 p->∃aA,N [.vC Aj [],I E,I p.x,I p.y,I p.z, .vC Aa l,I k]=some (1,[.vC Aj (aA.map Af)])/\Motions 40004 p aA/\(aA=[]\/aA.length<=E)):
  ∃(p:Pt) (aA:List Itm),Qip M Z W T N [.vC Aa l,I E]=some [.vC Aj (aA.map Af)]/\Motions 40004 p aA/\(aA=[]\/aA.length<=E):=by
 obtain⟨J,k1,e1,a1,b1,c1,-,-⟩:=G 0 (n:=9) (by omega);obtain⟨S,k2,e2,a2,b2,c2,-,-⟩:=G k1 (n:=9) (by omega);obtain⟨U,Y,e3,a3,b3,c3,-,-⟩:=G k2 (n:=9) (by omega);obtain⟨aA,h1,h2,h3⟩:=X ⟨J-4,S-4,U-4⟩ Y ⟨by simp only;omega,by simp only;omega,by simp only;omega⟩;rw[Zkp];have O:W [I 9, .vC Aa l,I 0]=some [I J, .vC Aa l,I k1]:=e1;simp only[go_sem,V,O,e2,e3];rw[Ae (x:=J-4),Ae (x:=S-4),Ae (x:=U-4)];simp only[h1,go_sem];exact⟨_,aA,rfl,h2,h3⟩
theorem Z20 (E:Src l) {most:Int} (J:most<=1000):
  ∃(p:Pt) (aA:List Itm),Iy [.vC Aa l,I most]=some [.vC Aj (aA.map Af)]/\Motions 40004 p aA/\(aA=[]\/aA.length<=most):=by
 refine Zkf (Kc E) (TX l) λp k G=> ?_;obtain⟨o,M,-,aA,rfl,N,O⟩:=Z4d (MF:=Es) (Kc E) (λG _ S k=>Zu3 E G S k) (Zio l) J (p:=p) ([],k) ⟨⟨trivial,by simp⟩,G, .inl rfl⟩;exact⟨aA,M,N,O⟩
instance (pl:Int):Decidable (Dx pl):=by unfold Dx;infer_instance
instance (A:Nat) (p:Pt):Decidable (bd A p):=by unfold bd;infer_instance
def dU (it:Itm) (p:Pt):Int:=plU it.aG p-plU it.aG it.ce
def dW (it:Itm) (p:Pt):Int:=plW it.aG p-plW it.aG it.ce
def sq2 (u w:Int):Int:=u*u+w*w
def crs (u w x y:Int):Int:=u*y-w*x
def dt2 (u w x y:Int):Int:=u*x+w*y
def qA (it:Itm):Int:=sq2 (dU it it.fr) (dW it it.fr)
def qB (it:Itm):Int:=sq2 (dU it it.to) (dW it it.to)
def cAB (it:Itm):Int:=crs (dU it it.fr) (dW it it.fr) (dU it it.to) (dW it it.to)
def dAB (it:Itm):Int:=dt2 (dU it it.fr) (dW it it.fr) (dU it it.to) (dW it it.to)
def IG (X Y:Int):Prop:=X+Y-16<=0\/(X+Y-16)*(X+Y-16)<=4*X*Y
def Qjb (it:Itm):Prop:=64<=qA it/\64<=qB it/\IG (qA it) (qB it)/\(it.full=true->dU it it.fr=dU it it.to/\dW it it.fr=dW it it.to)/\(it.full=false->cAB it≠0\/dAB it<0)
def Zq0 (it:Itm):Prop:=Dx it.aG/\(it.dir=1\/it.dir= -1)/\bd 1048576 it.ce/\Qjb it
def Ed (it:Itm):Prop:=(1<=it.aP/\it.aP<=6)/\bd 1048576 it.fr/\bd 1048576 it.to/\(it.aP=3->Zq0 it)
theorem Qd8 {it:Itm} {b c:Nat} (E:bd c it.ce) (h:bd b g):(dU it g).natAbs<=b+c/\(dW it g).natAbs<=b+c:=by
 obtain⟨G,I,J⟩:=Gl (pl:=it.aG) h;obtain⟨g1,g2,M⟩:=Gl (pl:=it.aG) E;unfold dU dW;omega
theorem Q4y (x:Int) {b:Nat} (h:x.natAbs<=b):0<=x*x/\x*x<=((b*b:Nat):Int):=by
 have E:=Im h h;have G:0<=x*x:=by rw[<-gn];omega
 omega
theorem Zc6 {u w:Int} (E:u.natAbs<=i) (G:w.natAbs<=i):0<=sq2 u w/\sq2 u w<=((2*(i*i):Nat):Int):=by
 have I:=Q4y u E;have J:=Q4y w G;unfold sq2;omega
theorem Q4a {u w x y:Int} {b c:Nat} (E:u.natAbs<=b) (G:w.natAbs<=b) (I:x.natAbs<=c) (J:y.natAbs<=c):(dt2 u w x y).natAbs<=2*(b*c)/\(crs u w x y).natAbs<=2*(b*c):=by
 have M:=Im E I;have N:=Im G J;have O:=Im E J;have S:=Im G I;unfold dt2 crs;omega
theorem Zgl (E:64<=X) (G:64<=Y):IG X Y↔(max X Y-min X Y-16<=0\/(max X Y-min X Y-16)*(max X Y-min X Y-16)<=64*min X Y):=by
 unfold IG;have key:∀M m:Int,64<=M->64<=m->m<=M->((M+m-16<=0\/(M+m-16)*(M+m-16)<=4*M*m)↔(M-m-16<=0\/(M-m-16)*(M-m-16)<=64*m)):=by
  intro M m J N O;have e:(M-m-16)*(M-m-16)-64*m=(M+m-16)*(M+m-16)-4*M*m:=by grind
  by_cases I:M-m-16<=0
  ·refine iff_of_true (.inr ?_) (.inl I);have S:(16-(M-m))*(M-m+16)>=0:=fy (by omega) (by omega);have T:(M+m-16)*(M+m-16)-4*M*m=512-(16-(M-m))*(M-m+16)-32*(M+m):=by grind
   omega
  ·constructor
   ·rintro(h|h)
    ·omega
    ·exact .inr (by omega)
   ·rintro(h|h)
    ·omega
    ·exact .inr (by omega)
 by_cases h:X<=Y
 ·rw[Int.max_eq_right h,Int.min_eq_left h,<-key Y X G E h];have e1:X+Y-16=Y+X-16:=by omega
  have e2:4*X*Y=4*Y*X:=by grind
  rw[e1,e2]
 ·rw[Int.max_eq_left (by omega),Int.min_eq_right (by omega),<-key X Y E G (by omega)]
theorem Zoz (p:Pt):Oi [I p.x,I p.y,I p.z]=some [B (decide (bd 1048576 p))]:=by
 unfold Oi;rw[Zpc];simp only[go_sem];by_cases h:bd 1048576 p
 ·obtain⟨O,S,T⟩:=h;rw[aa,aa,aa,aa,aa,aa];congr 3;symm;exact am ⟨O,S,T⟩
 ·have e:decide (bd 1048576 p)=false:=an h;rw[e];unfold bd at h;by_cases E:p.x< -1048576
  ·rw[ab E]
  rw[aa E];by_cases G:p.x>1048576
  ·rw[ab G]
  rw[aa G];by_cases J:p.y< -1048576
  ·rw[ab J]
  rw[aa J];by_cases M:p.y>1048576
  ·rw[ab M]
  rw[aa M];by_cases N:p.z< -1048576
  ·rw[ab N]
  rw[aa N,ab]
def axI (pl:Int):Int×Int×Int:=if pl=17 then(0,1,2)else if pl=18 then(2,0,1)else if pl=19 then(1,2,0)else(0,0,0)
theorem Qg9 (pl:Int):F5 [I pl]=some [I (axI pl).1,I (axI pl).2.1,I (axI pl).2.2,B (decide (Dx pl))]:=by
 unfold F5;rw[Z1y];simp only[go_sem];unfold axI Dx;by_cases E:pl=17
 ·rw[ab E,ab E];simp[E]
 rw[aa E,aa E];by_cases G:pl=18
 ·rw[ab G,ab G];simp[G]
 rw[aa G,aa G];by_cases J:pl=19
 ·rw[ab J,ab J];simp[J]
 rw[aa J,aa J];simp[E,G,J]
theorem Z69 (G:∀pl:Int,M [I pl]=some [I (axI pl).1,I (axI pl).2.1,I (axI pl).2.2,B (decide (Dx pl))]) {p:Pt} {pl:Int} (E:Dx pl):
  V9 M [I p.x,I p.y,I p.z,I pl]=some [I (plU pl p),I (plW pl p),I (plH pl p)]:=by
 rw[Z8x];simp only[go_sem,G];rw[aa (by simpa using E)];rcases E with rfl|rfl|rfl<;>rfl
theorem Qxc (E:Dx a):Iq [I g.x,I g.y,I g.z,I a]=some [I (plU a g),I (plW a g),I (plH a g)]:=Z69 Qg9 E
def AF (p:Pt):Pt:=⟨p.x*16,p.y*16,p.z*16⟩
theorem EW (h:bd i g):bd (i*16) (AF g):=by
 obtain⟨E,G,I⟩:=h;unfold AF;exact⟨by simp only;omega,by simp only;omega,by simp only;omega⟩
theorem UK (pl:Int) (p:Pt):plU pl (AF p)=plU pl p*16/\plW pl (AF p)=plW pl p*16/\plH pl (AF p)=plH pl p*16:=by
 unfold plU plW plH AF;refine⟨?_,?_,?_⟩<;>split<;>(try split)<;>rfl
theorem Q4g (h:bd 100000000 g):HU [I g.x,I g.y,I g.z]=some (ptR (AF g)):=by
 unfold HU;rw[Zno];obtain⟨E,G,J⟩:=h;rw[Ae,Ae,Ae];rfl
theorem Qkm {u w r h x y s g:Int} (E:u.natAbs<=1000000000) (G:w.natAbs<=1000000000) (J:x.natAbs<=1000000000) (M:y.natAbs<=1000000000):G2 [I u,I w,I r,I h,I x,I y,I s,I g]=some [I (dt2 u w x y)]:=by
 unfold G2;rw[Zx1];have N:=Im E J;have O:=Im G M;unfold dt2;rw[Ae (x:=u*x),Ae (x:=w*y),Ae]
theorem Qnm {u w r h x y s g:Int} (E:u.natAbs<=1000000000) (G:w.natAbs<=1000000000) (J:x.natAbs<=1000000000) (M:y.natAbs<=1000000000):Hv [I u,I w,I r,I h,I x,I y,I s,I g]=some [I (crs u w x y)]:=by
 unfold Hv;rw[Znr];have N:=Im E M;have O:=Im G J;unfold crs;rw[Ae (x:=u*y),Ae (x:=w*x),Ae]
theorem Zgw (N:∀{a b c d:Int},i64 a->i64 b->i64 c->i64 d->M [I a,I b,I c,I d]=some [I (LR (a*b) (c*d))]) {X Y:Int} (O:64<=X/\X<=1000000000000000) (S:64<=Y/\Y<=1000000000000000):
  ∃v,Y3 M [I X,I Y]=some [B v]/\(v=true↔IG X Y):=by
 rw[Zrj,Zgl O.1 S.1];have G:mx X Y=max X Y:=by unfold mx;rw[Int.max_def];split<;>split<;>omega
 have J:mn X Y=min X Y:=by unfold mn;rw[Int.min_def];split<;>split<;>omega
 have T:max X Y<=1000000000000000/\64<=max X Y:=by omega
 have U:min X Y<=1000000000000000/\64<=min X Y:=by omega
 rw[G,J];generalize max X Y=a at*;generalize min X Y=b at*;simp only[go_sem];rw[Ae (x:=a-b),Ae (x:=a-b-16)];by_cases E:a-b-16<=0
 ·rw[ab E];exact⟨_,rfl,iff_of_true rfl (.inl E)⟩
 ·rw[aa E,N (by unfold i64;omega) (by unfold i64;omega) (by unfold i64;omega) (by unfold i64;omega)];refine⟨_,rfl,?_⟩;simp only[go_sem,da,Zzh];exact⟨λh=> .inr h,λh=>h.resolve_left E⟩
theorem Zjy (E:64<=X/\X<=1000000000000000) (G:64<=Y/\Y<=1000000000000000):∃v,QG [I X,I Y]=some [B v]/\(v=true↔IG X Y):=Zgw Z4l E G
theorem Z0j {it:Itm} (G:∀p:Pt,M [I p.x,I p.y,I p.z,I it.aG]=some [I (plU it.aG p),I (plW it.aG p),I (plH it.aG p)]) (J:∀{p:Pt},bd 100000000 p->Z [I p.x,I p.y,I p.z]=some (ptR (AF p)))
  (S:bd 1048576 it.fr) (T:bd 1048576 it.to) (U:bd 1048576 it.ce):
  Zd M Z (Ak (Qrm M Z)) (Af it)=some [I (dU it it.fr*16),I (dW it it.fr*16),I 0,I (plH it.aG it.fr*16),I (dU it it.to*16),I (dW it it.to*16),I 0,I (plH it.aG it.to*16)]:=by
 rw[Zws];obtain⟨q1,q2,q3⟩:=Gl (pl:=it.aG) S;obtain⟨q4,q5,q6⟩:=Gl (pl:=it.aG) T;obtain⟨q7,q8,q9⟩:=Gl (pl:=it.aG) U;simp only[J (A3 U (by omega)),G,go_sem];have w0:V (0+1)=1:=Ae;have X:V (1+1)=2:=Ae;have N:=UK it.aG it.fr;have O:=UK it.aG it.to;have E:=UK it.aG it.ce;have Y:V (plU it.aG (AF it.fr)-plU it.aG (AF it.ce))=dU it it.fr*16:=by rw[N.1,E.1];unfold dU;rw[Ae];omega
 have u2:V (plW it.aG (AF it.fr)-plW it.aG (AF it.ce))=dW it it.fr*16:=by rw[N.2.1,E.2.1];unfold dW;rw[Ae];omega
 have u3:V (plU it.aG (AF it.to)-plU it.aG (AF it.ce))=dU it it.to*16:=by rw[O.1,E.1];unfold dU;rw[Ae];omega
 have u4:V (plW it.aG (AF it.to)-plW it.aG (AF it.ce))=dW it it.to*16:=by rw[O.2.1,E.2.1];unfold dW;rw[Ae];omega
 have b1:bd 100000000 it.fr:=A3 S (by omega);have b2:bd 100000000 it.to:=A3 T (by omega);have e1:=J b1;have e2:=J b2;rw[Bz (by rw[Qps];simp only[go_sem,e1,e2,G,Y,u2,w0];rfl),Bz (by rw[Qps];simp only[go_sem,e1,e2,G,u3,u4,X];rfl),
  Be (o:=(1,_)) (by rw[Qps];simp only[go_sem];rfl) (by simp)]
 simp only[go_sem,N.2.2,O.2.2]
theorem Zcp {it:Itm} (E:Dx it.aG) (G:bd 1048576 it.fr) (J:bd 1048576 it.to) (M:bd 1048576 it.ce):
  Lf (Af it)=some [I (dU it it.fr*16),I (dW it it.fr*16),I 0,I (plH it.aG it.fr*16),I (dU it it.to*16),I (dW it it.to*16),I 0,I (plH it.aG it.to*16)]:=
 Z0j (λ_=>Qxc E) Q4g G J M
theorem Z9q {O:Fn} {X Y C D M S N T:Int} {full:Bool} (hX:0<=X/\X<=1000000000000000) (hY:0<=Y/\Y<=1000000000000000)
  (hN:∀{X Y:Int},(64<=X/\X<=1000000000000000)->(64<=Y/\Y<=1000000000000000)->∃v,O [I X,I Y]=some [B v]/\(v=true↔IG X Y)):
  ∃ v, (if X * 256 < V (128 * 128) then some [B false] else if Y * 256 < V (128 * 128) then some [B false] else
   (O [I (V ((X*256).tdiv 256)),I (V ((Y*256).tdiv 256))]).bind λo=>
   if¬Dh (nth .dead o 0)=true then some [B false]else if full=true then if M*16=N*16 then some [B (S*16==T*16)]else some [B false]else if C*256≠0 then some [B true]else some [B (decide (D*256<0))])=some [B v]/\
   (v=true↔64<=X/\64<=Y/\IG X Y/\(full=true->M=N/\S=T)/\(full=false->C≠0\/D<0)):=by
 rw[Ae (x:=128*128),Int.mul_tdiv_cancel _ (by omega),Int.mul_tdiv_cancel _ (by omega),Ae (x:=X),Ae (x:=Y)];by_cases U:X*256<128*128
 ·rw[ab U];exact⟨_,rfl,ie (by simp) λh=>by omega⟩
 rw[aa U];by_cases c2:Y*256<128*128
 ·rw[ab c2];exact⟨_,rfl,ie (by simp) λh=>by omega⟩
 rw[aa c2];obtain⟨v,h1,h2⟩:=hN (X:=X) (Y:=Y) (by omega) (by omega);simp only[h1,go_sem];by_cases J:v=true
 case neg=>rw[ab J];exact⟨_,rfl,ie (by simp) λh=>J (h2.2 h.2.2.1)⟩
 rw[aa (by simpa using J)];have E:=h2.1 J;cases full with
 |true=>
  rw[ab rfl];by_cases G:M*16=N*16
  ·rw[ab G];refine⟨_,rfl,?_⟩;simp only[beq_iff_eq];exact⟨λh=>⟨by omega,by omega,E,λ_=>⟨by omega,by omega⟩,λh=>by simp at h⟩,λh=>by have:=(h.2.2.2.1 trivial).2;omega⟩
  ·rw[aa G];exact⟨_,rfl,ie (by simp) λh=>G (by have:=(h.2.2.2.1 rfl).1;omega)⟩
 |false=>
  rw[aa (by simp)];by_cases G:C*256≠0
  ·rw[ab G];exact⟨_,rfl,iff_of_true rfl ⟨by omega,by omega,E,λh=>by simp at h,λ_=> .inl (by omega)⟩⟩
  ·rw[aa G];refine⟨_,rfl,?_⟩;simp only[da];exact⟨λh=>⟨by omega,by omega,E,λh=>by simp at h,λ_=> .inr (by omega)⟩,λh=>by have:=(h.2.2.2.2 trivial);omega⟩
theorem Q57 (a b c d:Int):dt2 (a*16) (b*16) (c*16) (d*16)=dt2 a b c d*256/\crs (a*16) (b*16) (c*16) (d*16)=crs a b c d*256:=by
 unfold dt2 crs;constructor<;>grind
theorem Zmd (hA:∀pl:Int,P [I pl]=some [I (axI pl).1,I (axI pl).2.1,I (axI pl).2.2,B (decide (Dx pl))]) (hW:∀p:Pt,O [I p.x,I p.y,I p.z]=some [B (decide (bd 1048576 p))])
  {it:Itm} (hE:Dx it.aG->bd 1048576 it.fr->bd 1048576 it.to->bd 1048576 it.ce->S (Af it)=some [I (dU it it.fr*16),I (dW it it.fr*16),I 0,I (plH it.aG it.fr*16),I (dU it it.to*16),I (dW it it.to*16),I 0,I (plH it.aG it.to*16)])
  (hD:∀{u w r h x y s g:Int},u.natAbs<=1000000000->w.natAbs<=1000000000->x.natAbs<=1000000000->y.natAbs<=1000000000->W [I u,I w,I r,I h,I x,I y,I s,I g]=some [I (dt2 u w x y)])
  (hX:∀{u w r h x y s g:Int},u.natAbs<=1000000000->w.natAbs<=1000000000->x.natAbs<=1000000000->y.natAbs<=1000000000->M [I u,I w,I r,I h,I x,I y,I s,I g]=some [I (crs u w x y)])
  (hN:∀{X Y:Int},(64<=X/\X<=1000000000000000)->(64<=Y/\Y<=1000000000000000)->∃v,Z [I X,I Y]=some [B v]/\(v=true↔IG X Y)):
  ∃v,Qpp M Z W S P O (Af it)=some [B v]/\(v=true↔Ed it):=by
 rw[Zxa];simp only[go_sem,hW,hA];by_cases c1:it.aP<1
 ·rw[ab c1];exact⟨_,rfl,ie (by simp) λh=>by have:=h.1;omega⟩
 rw[aa c1];by_cases V:it.aP>6
 ·rw[ab V];exact⟨_,rfl,ie (by simp) λh=>by have:=h.1;omega⟩
 rw[aa V];by_cases G:bd 1048576 it.fr
 case neg=>rw[ab (by simpa using G)];exact⟨_,rfl,ie (by simp) λh=>G h.2.1⟩
 rw[aa (by simpa using G)];by_cases J:bd 1048576 it.to
 case neg=>rw[ab (by simpa using J)];exact⟨_,rfl,ie (by simp) λh=>J h.2.2.1⟩
 rw[aa (by simpa using J)];by_cases N:it.aP=3
 case neg=>rw[ab N];exact⟨_,rfl,iff_of_true rfl ⟨by omega,G,J,λh=>absurd h N⟩⟩
 rw[aa (by simpa using N)];by_cases c5:Dx it.aG
 case neg=>rw[ab (by simpa using c5)];exact⟨_,rfl,ie (by simp) λh=>c5 (h.2.2.2 N).1⟩
 rw[aa (by simpa using c5)];by_cases E:bd 1048576 it.ce
 case neg=>
  refine⟨false,?_,ie (by simp) λh=>E (h.2.2.2 N).2.2.1⟩;split
  ·split
   ·rfl
   ·first|rfl|(rw[ab E])
  ·first|rfl|(rw[ab E])
 by_cases c6:it.dir=1\/it.dir= -1
 case neg=>
  rw[ab (c:=it.dir≠1),ab (c:=it.dir≠-1)];exact⟨false,rfl,ie (by simp) λh=>c6 (h.2.2.2 N).2.1⟩
 have U:=hE c5 G J E;obtain⟨b1,b2⟩:=Qd8 (it:=it) E G;obtain⟨b3,b4⟩:=Qd8 (it:=it) E J;simp only[Af]at U;have x1:=Zc6 b1 b2;have x2:=Zc6 b3 b4;have core:Ed it↔64<=qA it/\64<=qB it/\IG (qA it) (qB it)/\(it.full=true->dU it it.fr=dU it it.to/\dW it it.fr=dW it it.to)/\(it.full=false->cAB it≠0\/dAB it<0):=
  ⟨λh=>(h.2.2.2 N).2.2.2,λh=>⟨by omega,G,J,λ_=>⟨c5,c6,E,h⟩⟩⟩
 rw[core];have a0:0<=qA it/\qA it<=1000000000000000:=⟨x1.1,by unfold qA;omega⟩;have a1:0<=qB it/\qB it<=1000000000000000:=⟨x2.1,by unfold qB;omega⟩;have D1:= @hD (dU it it.fr*16) (dW it it.fr*16) 0 (plH it.aG it.fr*16) (dU it it.fr*16) (dW it it.fr*16) 0 (plH it.aG it.fr*16) (by omega) (by omega) (by omega) (by omega);have D2:= @hD (dU it it.to*16) (dW it it.to*16) 0 (plH it.aG it.to*16) (dU it it.to*16) (dW it it.to*16) 0 (plH it.aG it.to*16) (by omega) (by omega) (by omega) (by omega);have D3:= @hD (dU it it.fr*16) (dW it it.fr*16) 0 (plH it.aG it.fr*16) (dU it it.to*16) (dW it it.to*16) 0 (plH it.aG it.to*16) (by omega) (by omega) (by omega) (by omega);have D4:= @hX (dU it it.fr*16) (dW it it.fr*16) 0 (plH it.aG it.fr*16) (dU it it.to*16) (dW it it.to*16) 0 (plH it.aG it.to*16) (by omega) (by omega) (by omega) (by omega);rw[(Q57 _ _ _ _).1]at D1 D2 D3;rw[(Q57 _ _ _ _).2]at D4;have e1:dt2 (dU it it.fr) (dW it it.fr) (dU it it.fr) (dW it it.fr)=qA it:=rfl;have e2:dt2 (dU it it.to) (dW it it.to) (dU it it.to) (dW it it.to)=qB it:=rfl;have e3:dt2 (dU it it.fr) (dW it it.fr) (dU it it.to) (dW it it.to)=dAB it:=rfl;have e4:crs (dU it it.fr) (dW it it.fr) (dU it it.to) (dW it it.to)=cAB it:=rfl;rw[e1]at D1;rw[e2]at D2;rw[e3]at D3;rw[e4]at D4;have T:= @Z9q Z (qA it) (qB it) (cAB it) (dAB it) (dU it it.fr) (dW it it.fr) (dU it it.to) (dW it it.to) it.full a0 a1 hN;have n7: ¬ ¬bd 1048576 it.ce:=λh=>h E;by_cases d1:it.dir=1
 ·rw[aa (c:=it.dir≠1) (λh=>h d1),aa n7];simp only[U,go_sem,D1,D2,D3,D4];exact T
 ·rw[ab (c:=it.dir≠1) d1,aa (c:=it.dir≠-1),aa n7];simp only[U,go_sem,D1,D2,D3,D4];exact T
theorem Qpd (it:Itm):∃v,He (Af it)=some [B v]/\(v=true↔Ed it):=
 Zmd Qg9 Zoz (λE G I J=>Zcp E G I J) Qkm Qnm Zjy
def okS (s:Spk):Prop:=s.u.natAbs<=50000000/\s.w.natAbs<=50000000/\(0<=s.r/\s.r<=50000000)/\s.h.natAbs<=16777216
def hf (a b:Int):Int:=(a+b+1)/2
def DZ (a b:Spk) (dir:Int) (full:Bool):Int×Int:=
 if full=true then(-a.u,-a.w)
 else if 0<dt2 a.u a.w b.u b.w/\0<crs a.u a.w b.u b.w*dir then(a.u+b.u,a.w+b.w)
 else if 0<dt2 a.u a.w b.u b.w then(-(a.u+b.u),-(a.w+b.w))
 else(dir*(b.w-a.w),dir*(a.u-b.u))
noncomputable def GB (a b:Spk) (u w:Int):Spk:=if u=0/\w=0 then⟨0,0,0,0⟩else⟨Ct u (hf a.r b.r) (sq2 u w),Ct w (hf a.r b.r) (sq2 u w),hf a.r b.r,hf a.h b.h⟩
noncomputable def Ea (a b:Spk) (dir:Int) (full:Bool):Spk:=GB a b (DZ a b dir full).1 (DZ a b dir full).2
theorem Ms {a b:Spk} (E:okS a) (hb:okS b) {dir:Int} (G:dir=1\/dir= -1) (full:Bool):(DZ a b dir full).1.natAbs<=100000000/\(DZ a b dir full).2.natAbs<=100000000:=by
 obtain⟨a1,a2,-⟩:=E;obtain⟨b1,b2,-⟩:=hb;unfold DZ;split
 ·exact⟨by simp only;omega,by simp only;omega⟩
 ·split
  ·exact⟨by simp only;omega,by simp only;omega⟩
  ·split
   ·exact⟨by simp only;omega,by simp only;omega⟩
   ·rcases G with rfl|rfl
    ·exact⟨by simp only;omega,by simp only;omega⟩
    ·exact⟨by simp only;omega,by simp only;omega⟩
theorem Zaa (u w:Int):u*u<=sq2 u w/\w*w<=sq2 u w:=by
 have E:=F_ u;have G:=F_ w;unfold sq2;omega
theorem SI {u w:Int} (h: ¬(u=0/\w=0)):0<sq2 u w:=by
 have I:=F_ u;have J:=F_ w;have z:∀u:Int,u*u=0->u=0:=λu G=>by
  rcases Int.mul_eq_zero.1 G with h|h<;>exact h
 have M: ¬(u*u=0/\w*w=0):=λE=>h ⟨z _ E.1,z _ E.2⟩;unfold sq2;omega
theorem Qid (E:0<=a/\a<=50000000) (hb:0<=b/\b<=50000000):0<=hf a b/\hf a b<=50000000:=by unfold hf;omega
theorem Zh5 (E:a.natAbs<=16777216) (hb:b.natAbs<=16777216):(hf a b).natAbs<=16777216:=by unfold hf;omega
theorem Qsm {u w r:Int} (E:u.natAbs<=100000000) (G:w.natAbs<=100000000) (S:0<=r/\r<=50000000) (h: ¬(u=0/\w=0)):
  (True/\(Ct u r (sq2 u w)).natAbs<=r.natAbs)/\(True/\(Ct w r (sq2 u w)).natAbs<=r.natAbs):=by
 have T:=SI h;have U:=DL E;have V:=DL G;have X:sq2 u w<=20000000000000000:=by unfold sq2;omega
 obtain⟨I,J⟩:=Zaa u w;have key:∀x:Int,x.natAbs<=100000000->x*x<=sq2 u w->True/\(Ct x r (sq2 u w)).natAbs<=r.natAbs:=by
  intro x M N;obtain⟨g1,-,O⟩:=Ug (x:=x) (r:=r) (n:=sq2 u w) (df M (by decide)) (by omega) (by omega) N;refine⟨g1,Ye (by omega) ?_ O⟩;have:((x.natAbs*x.natAbs:Nat):Int)=x*x:=gn;omega
 exact⟨key u E I,key w G J⟩
theorem Zg8 {a b:Spk} (E:okS a) (hb:okS b) {u w:Int} (I:u.natAbs<=100000000) (J:w.natAbs<=100000000):okS (GB a b u w):=by
 unfold GB;split
 ·exact⟨by simp,by simp,by simp,by simp⟩
 ·rename_i h;have G:=Qid E.2.2.1 hb.2.2.1;obtain⟨⟨-,M⟩,-,N⟩:=Qsm I J G h;exact⟨by simp only;omega,by simp only;omega,G,Zh5 E.2.2.2 hb.2.2.2⟩
theorem Qbx {a b:Spk} (E:okS a) (hb:okS b) {dir:Int} (G:dir=1\/dir= -1) (full:Bool):okS (Ea a b dir full):=
 Zg8 E hb (Ms E hb G full).1 (Ms E hb G full).2
theorem HM {x:Int} (h:x.natAbs<=50000000):x.natAbs<=1000000000:=df h (by decide)
def IQ (a b:Spk) (dir:Int) (full:Bool):Prop:=full=false/\0<crs a.u a.w b.u b.w*dir/\sq2 (a.u-b.u) (a.w-b.w)<=32*mn a.r b.r-64
instance {a b:Spk} {dir:Int} {full:Bool}:Decidable (IQ a b dir full):=by unfold IQ;infer_instance
noncomputable def C7 (dir:Int):Nat->Bool->Spk->Spk->List Spk
 |0,_,_,b=>[b]
 |k+1,full,a,b=>if IQ a b dir full then [b]else C7 dir k false a (Ea a b dir full)++C7 dir k false (Ea a b dir full) b
theorem VV {dir:Int}:∀(k:Nat) (full:Bool) (a b:Spk),1<=(C7 dir k full a b).length/\(C7 dir k full a b).length<=2^k
 |0,_,_,b=>by simp[C7]
 |k+1,full,a,b=>by
  have E:0<2^k:=gq _;have e3:2^(k+1)=2^k+2^k:=by rw[jk];omega
  unfold C7;split
  ·simp;omega
  ·have G:=VV k false a (Ea a b dir full) (dir:=dir);have I:=VV k false (Ea a b dir full) b (dir:=dir);rw[ay];omega
theorem Wr (G:v=1\/v= -1):∀(k:Nat) (full:Bool) {a b:Spk},okS a->okS b->∀s∈C7 v k full a b,okS s
 |0,_,a,b,_,hb,s,E=>by simp[C7]at E;subst E;exact hb
 |k+1,full,a,b,I,hb,s,E=>by
  unfold C7 at E;have J:=Qbx I hb G full;split at E
  ·simp at E;subst E;exact hb
  ·rcases bq.1 E with E|E
   ·exact Wr G k false I J s E
   ·exact Wr G k false J hb s E
theorem Zmb {n i j:Int} (hi:JS n i) (G:JS n j):i=j:=by
 have key:∀{i j:Int},JS n i->JS n j-> ¬i<j:=by
  rintro i j ⟨I,J,-⟩ ⟨N,O,E⟩ M;rcases E with E|E
  ·omega
  ·have S:=f6 (show i<=j-1 by omega) (show i+1<=j by omega) (by omega) (by omega);omega
 have I:=key hi G;have J:=key G hi;omega
open Classical in
noncomputable def FL (n:Int):Int:=if h:∃j,JS n j then Classical.choose h else 0
theorem Q1 {n k:Int} (h:JS n k):FL n=k:=by
 have E:∃j,JS n j:=⟨k,h⟩;unfold FL;rw[dif_pos E];exact Zmb (fm E) h
theorem Ro {n r:Nat} (E:r*r<=n) (G:n<(r+1)*(r+1)):JS n (if r*r+r<n then r+1 else r:Nat):=by
 have e0:(r+1)*(r+1)=r*r+r+r+1:=by grind
 unfold JS;by_cases c:r*r+r<n
 ·rw[ab c];have e1:((r+1:Nat):Int)*(((r+1:Nat):Int)+1)=((r*r+r+r+r+2:Nat):Int):=by
   have:((r+1:Nat):Int)+1=((r+2:Nat):Int):=by omega
   rw[this,<-dq];congr 1
   grind
  have e2:(((r+1:Nat):Int)-1)*((r+1:Nat):Int)=((r*r+r:Nat):Int):=by
   rw[show((r+1:Nat):Int)-1=(r:Int) by omega,<-dq];congr 1
  rw[e1,e2];generalize r*r=A at*;exact⟨by omega,by omega, .inr (by omega)⟩
 ·rw[aa c];have e1:(r:Int)*((r:Int)+1)=((r*r+r:Nat):Int):=by
   rw[show(r:Int)+1=((r+1:Nat):Int) by omega,<-dq];congr 1
  rw[e1];refine⟨by omega,by omega,?_⟩;rcases fd r with h|h
  ·left;omega
  ·right;have e2:((r:Int)-1)*(r:Int)=(((r-1)*r:Nat):Int):=by
    rw[show(r:Int)-1=((r-1:Nat):Int) by omega];exact(dq _ _).symm
   have:=ff (show r-1<r by omega) h;rw[e2];omega
noncomputable def Eg (it:Itm) (p:Pt):Spk:=⟨dU it p*16,dW it p*16,FL (sq2 (dU it p*16) (dW it p*16)),plH it.aG p*16⟩
theorem Zqh {n:Nat} (J:n<=2251799813685248):0<=FL n/\FL n<=50000000:=by
 obtain⟨r,-,E,G,-⟩:=Sc (n:=n) (by omega);have I:=Ro E G;rw[Q1 I];have:r<50000000:=by
  by_cases c:r<50000000
  ·exact c
  ·have:=fv (show 50000000<=r by omega) (show 50000000<=r by omega);omega
 split<;>omega
theorem OF {it:Itm} (I:bd 1048576 it.ce) (J:bd 1048576 g):(dU it g*16).natAbs<=33554432/\(dW it g*16).natAbs<=33554432/\0<=sq2 (dU it g*16) (dW it g*16)/\sq2 (dU it g*16) (dW it g*16)<=2251799813685248:=by
 obtain⟨M,N⟩:=Qd8 I J;have E:(dU it g*16).natAbs<=33554432:=by omega
 have G:(dW it g*16).natAbs<=33554432:=by omega
 have O:=DL E;have S:=DL G;refine⟨E,G,?_⟩;unfold sq2;omega
theorem RD {it:Itm} (G:bd 1048576 it.ce) (E:bd 1048576 g):okS (Eg it g):=by
 obtain⟨I,J,M,N⟩:=OF G E;have S:=(Gl (pl:=it.aG) E).2.2;obtain⟨n,O⟩:=cg M;refine⟨df I (by decide),df J (by decide),?_,?_⟩
 ·show 0<=FL _/\FL _<=_;rw[O]at N⊢;exact Zqh (by omega)
 ·show(plH it.aG g*16).natAbs<=_;omega
noncomputable def D6 (it:Itm):List Spk:=Eg it it.fr::C7 it.dir 16 it.full (Eg it it.fr) (Eg it it.to)
theorem Q72 {it:Itm} (h:Ed it) (J:it.aP=3):∀s∈D6 it,okS s:=by
 obtain⟨-,I,M,N⟩:=h;obtain⟨S,O,E,-⟩:=N J;intro s G;rcases av.1 G with rfl|G
 ·exact RD E I
 ·exact Wr O 16 _ (RD E I) (RD E M) s G
theorem Qyf (it:Itm):2<=(D6 it).length/\(D6 it).length<=65537:=by
 have:=VV (dir:=it.dir) 16 it.full (Eg it it.fr) (Eg it it.to);have e:(2:Nat)^16=65536:=rfl;rw[e]at this;unfold D6;rw[bj];omega
noncomputable def Ja (it:Itm) (s:Spk):Pt:=spP it.aG (plU it.aG (AF it.ce)+s.u) (plW it.aG (AF it.ce)+s.w) s.h
noncomputable def CB (it:Itm):List Pt:=if it.aP=3 then(D6 it).map (Ja it)else [AF it.fr,AF it.to]
theorem Qma {pl u w h:Int} (E:u.natAbs<=i) (G:w.natAbs<=i) (I:h.natAbs<=i):bd i (spP pl u w h):=by
 unfold spP bd;split
 ·exact⟨E,G,I⟩
 ·split
  ·exact⟨G,I,E⟩
  ·exact⟨I,E,G⟩
theorem Zl7 {it:Itm} {s:Spk} (E:bd 1048576 it.ce) (G:okS s):bd 67108864 (Ja it s):=by
 obtain⟨I,J,-⟩:=Gl (pl:=it.aG) (EW E);obtain⟨s1,s2,-,M⟩:=G;exact Qma (by omega) (by omega) (by omega)
theorem Qfe {it:Itm} (h:Ed it):∀p∈CB it,bd 67108864 p:=by
 intro p E;unfold CB at E;split at E
 ·rename_i G;simp only[ba]at E;obtain⟨s,I,rfl⟩:=E;exact Zl7 (h.2.2.2 G).2.2.1 (Q72 h G s I)
 ·simp at E;rcases E with rfl|rfl
  ·exact A3 (EW h.2.1) (by decide)
  ·exact A3 (EW h.2.2.1) (by decide)
theorem Qzk (it:Itm):2<=(CB it).length/\(CB it).length<=65537:=by
 have:=Qyf it;unfold CB;split<;>simp<;>omega
def HB (t:Itm) (aS:Int):Int:=if t.aP=1 then 0 else mx (BA (mn (if t.perRev=true then t.aZ*mx aS 1 else t.aZ) 60000000*4096) 60000) 1
theorem Zmu {f s:Int} (hf:0<=f/\f<=60000000) (G:0<=s/\s<=30000):0<=f*mx s 1/\f*mx s 1<=1800000000000:=by
 have E:1<=mx s 1/\mx s 1<=30000:=by unfold mx;split<;>omega
 generalize mx s 1=m at*;have I:=f6 hf.2 E.2 (by omega) (by omega);have J:=fy hf.1 (show 0<=m by omega);omega
theorem Q3t {x:Int} (h:0<=x):0<=mn x 60000000/\mn x 60000000<=60000000:=by unfold mn;split<;>omega
theorem Zyf {t:Itm} (hf:0<=t.aZ/\t.aZ<=60000000) (G:0<=k/\k<=30000)
  (E:∀a:Int,0<=a/\a<=60000000->M [I a,I 4096,I 60000,I 2]=some [I (BA (a*4096) 60000),B true]):WA M (Af t++[I k])=some [I (HB t k)]:=by
 have J:=Zmu hf G;have N:=E _ (Q3t J.1);have O:=E _ (Q3t hf.1);have S:V (t.aZ*mx k 1)=t.aZ*mx k 1:=Ae;simp only[Af,az,bf];rw[Qzg,S];simp only[go_sem,N,O];unfold HB;by_cases g1:t.aP=1
 ·rw[ab g1,ab g1]
 ·rw[aa g1,aa g1];by_cases g2:t.perRev=true
  ·rw[ab g2,ab g2]
  ·rw[aa g2,aa g2]
theorem Zgy {t:Itm} (hf:0<=t.aZ/\t.aZ<=60000000) (E:0<=k/\k<=30000):Kg (Af t++[I k])=some [I (HB t k)]:=
 Zyf hf E λa G=>Uo (by unfold i64;omega) (by unfold i64;omega) (by omega) (by have:a.natAbs*(4096:Int).natAbs<=60000000*4096:=fv (by omega) (by omega);omega)
def it0:Itm:=⟨0,0,⟨0,0,0⟩,⟨0,0,0⟩,0,⟨0,0,0⟩,0,false,0,false,0,0,0,0,0,false⟩
def itA (aA:List Itm) (i:Nat):Itm:=aA.getD i it0
theorem Rp {aA:List Itm} (h:i<aA.length):itA aA i=aA[i]:=by unfold itA;simp[h]
theorem Zdl {aA:List Itm} (h:i<aA.length):itA aA i∈aA:=by rw[Rp h];exact bn h
theorem FQ {aA:List Itm} (h:i<aA.length):nth [] (aA.map Af) i=Af (itA aA i):=by rw[Rp h];exact JA _ _ _ _ h
theorem Qog {aA:List Itm} (h:i<aA.length):aA.drop i=itA aA i::aA.drop (i+1):=by rw[Rp h];exact Ph _ _ h
def AK (it:Itm):Prop:=1<=it.aP/\it.aP<=6
def smI (it:Itm):Prop:=it.aP=2/\it.fr≠it.to
def syI (it:Itm):Prop:=it.aP=5\/it.aP=6
instance (it:Itm):Decidable (AK it):=by unfold AK;infer_instance
instance (it:Itm):Decidable (smI it):=by unfold smI;infer_instance
instance (it:Itm):Decidable (syI it):=by unfold syI;infer_instance
def Bq (it:Itm):Pt:=⟨(it.fr.x+it.to.x)*8,(it.fr.y+it.to.y)*8,(it.fr.z+it.to.z)*8⟩
theorem LS {it:Itm} (E:bd 1048576 it.fr) (G:bd 1048576 it.to):bd B24 (Bq it):=by
 unfold bd B24 Bq at*;simp only;omega
def G3:List Itm->Nat->Int
 |[],_=> -1
 |it::l,k=>if it.aP=10 then G3 l (k+1)else if smI it then k else-1
def CD (aA:List Itm) (i:Nat):Int:=if smI (itA aA i)/\(itA aA i).blend≠0 then G3 (aA.drop (i+1)) (i+1)else-1
theorem Qu7:∀(l:List Itm) (k:Nat),G3 l k= -1\/∃j:Nat,G3 l k=((k+j:Nat):Int)/\∃h:j<l.length,smI l[j]/\∀i (hi:i<l.length),i<j->l[i].aP=10
 |[],_=> .inl rfl
 |it::l,k=>by
  unfold G3;split
  ·rename_i E;rcases Qu7 l (k+1)with h|⟨j,G,O,I,J⟩
   ·exact .inl h
   ·refine .inr ⟨j+1,by rw[G];omega,by simp;omega,by simpa using I,?_⟩;intro i hi M;cases i with
    |zero=>simpa using E
    |succ i=>simpa using J i (by simpa using hi) (by omega)
  ·split
   ·rename_i N;exact .inr ⟨0,by simp,by simp,by simpa using N,λi _ hi=>by omega⟩
   ·exact .inl rfl
theorem Qah (aA:List Itm) (i:Nat):CD aA i= -1\/(smI (itA aA i)/\(itA aA i).blend≠0/\∃k:Nat,CD aA i=k/\i<k/\k<aA.length/\smI (itA aA k)/\∀j,i<j->j<k->(itA aA j).aP=10):=by
 unfold CD;split
 ·rename_i h;rcases Qu7 (aA.drop (i+1)) (i+1)with E|⟨j,E,J,G,M⟩
  ·exact .inl E
  ·have I:i+1+j<aA.length:=by rw[co]at J;omega
   refine .inr ⟨h.1,h.2,i+1+j,E,by omega,I,?_,?_⟩
   ·rw[Rp I];rw[km]at G;exact G
   ·intro m N O;have:=M (m-(i+1)) (by omega) (by omega);rw[km]at this;rw[Rp (by omega)];have e:i+1+(m-(i+1))=m:=by omega
    simp only[e]at this;exact this
 ·exact .inl rfl
def Re (it:Itm):Int:=if it.aP=10 then 5 else if it.aP=13 then 4 else 3
def Gc:List Itm->Int
 |[]=>2
 |it::l=>if AK it then(if syI it then 1 else 2)else Gc l
def HH (aA:List Itm) (i:Nat):Int:=if(itA aA i).aP=4 then 6 else if(itA aA i).blend=0 then 1 else if syI (itA aA i)then 1 else Gc (aA.drop (i+1))
noncomputable def H1 (aA:List Itm) (i k:Nat):List Pt:=GI (Bq (itA aA i)) (AF (itA aA i).to) (Bq (itA aA k)) ((itA aA i).blend*16)
def drawn (it:Itm):Prop:=Ed it/\0<=it.blend/\it.blend<=1000
theorem LY {aA:List Itm} {i k:Nat} (E:drawn (itA aA i)) (G:drawn (itA aA k)):(∀p∈H1 aA i k,bd B24 p)/\1<=(H1 aA i k).length/\(H1 aA i k).length<=65:=
 Q1r (LS E.1.2.1 E.1.2.2.1) (EW E.1.2.2.1) (LS G.1.2.1 G.1.2.2.1)
noncomputable def JI (aA:List Itm) (i:Nat) (frm:Int):List Pt:=if 0<=frm then(H1 aA frm.toNat i).drop ((H1 aA frm.toNat i).length/2)else(CB (itA aA i)).take 1
noncomputable def Nl (aA:List Itm) (i:Nat):List Pt:=if 0<=CD aA i then(H1 aA i (CD aA i).toNat).take ((H1 aA i (CD aA i).toNat).length/2+1)else(CB (itA aA i)).drop 1
noncomputable def C3 (aA:List Itm) (i:Nat) (frm:Int):List Pt:=if smI (itA aA i)then JI aA i frm++[Bq (itA aA i)]++Nl aA i else CB (itA aA i)
def Mq (aA:List Itm) (i:Nat) (frm:Int):Prop:=frm= -1\/∃f:Nat,frm=f/\f<aA.length/\drawn (itA aA f)
theorem Zvf {aA:List Itm} (I:drawn (itA aA i)) (hf:Mq aA i a):(∀p∈JI aA i a,bd 67108864 p)/\(JI aA i a).length<=65:=by
 unfold JI;rcases hf with rfl|⟨f,rfl,J,E⟩
 ·rw[aa];exact⟨λp G=>Qfe I.1 p (eu G),by rw[ic];omega⟩
 ·rw[ab];obtain⟨M,N,O⟩:=LY (aA:=aA) (i:=(f:Int).toNat) (k:=i) (by simpa using E) I;exact⟨λp G=>A3 (M p (d6 G)) (by decide),by rw[co];omega⟩
theorem V3 {aA:List Itm} (E:∀k<aA.length,AK (itA aA k)->drawn (itA aA k)) (M:0<=CD aA i):∃k:Nat,CD aA i=k/\k<aA.length/\drawn (itA aA k):=by
 rcases Qah aA i with h|⟨-,-,k,J,-,G,I,-⟩
 ·omega
 ·exact⟨k,J,G,E k G ⟨by have:=I.1;omega,by have:=I.1;omega⟩⟩
theorem Zt2 {aA:List Itm} (J:drawn (itA aA i)) (M:(itA aA i).aP≠3) (E:∀k<aA.length,AK (itA aA k)->drawn (itA aA k)):(∀p∈Nl aA i,bd 67108864 p)/\(Nl aA i).length<=66:=by
 unfold Nl;by_cases h:0<=CD aA i
 ·rw[ab h];obtain⟨k,N,O,G⟩:=V3 E h;obtain⟨S,M,T⟩:=LY (aA:=aA) (i:=i) (k:=(CD aA i).toNat) J (by rw[N];simpa using G);exact⟨λp I=>A3 (S p (eu I)) (by decide),by rw[ic];omega⟩
 ·rw[aa h];refine⟨λp I=>Qfe J.1 p (d6 I),?_⟩;unfold CB;rw[aa M];simp
theorem Xx {aA:List Itm} (G:drawn (itA aA i)) (hf:Mq aA i a) (I:∀k<aA.length,AK (itA aA k)->drawn (itA aA k)):
  (∀p∈C3 aA i a,bd 67108864 p)/\(C3 aA i a).length<=65537:=by
 unfold C3;by_cases J:smI (itA aA i)
 ·rw[ab J];obtain⟨M,O⟩:=Zvf G hf;obtain⟨N,S⟩:=Zt2 G (by have:=J.1;omega) I;refine⟨λp E=> ?_,by rw[ay,ay];simp;omega⟩;rcases bq.1 E with E|E
  ·rcases bq.1 E with E|E
   ·exact M p E
   ·simp at E;subst E;exact A3 (LS G.1.2.1 G.1.2.2.1) (by decide)
  ·exact N p E
 ·rw[aa J];exact⟨Qfe G.1,(Qzk _).2⟩
theorem Q50 (l:List Pt):List.drop (Int.toNat 1) (l.map ptR)=(l.drop 1).map ptR:=by rw[show Int.toNat 1=1 from rfl,List.map_drop]
theorem S2 (l:List Pt):List.take (Int.toNat 1) (l.map ptR)=(l.take 1).map ptR:=by rw[show Int.toNat 1=1 from rfl,List.map_take]
end Go.Bm
namespace Go.Bm
open Classical
def Cc (it:Itm):Prop:=it.aP<1\/it.aP>14\/(AK it/\(¬Ed it\/(it.aP≠1/\(it.aZ<1\/it.aZ>60000000))\/it.blend<0\/it.blend>1000))\/(¬AK it/\it.aP=8/\(it.n<3\/it.n>5\/it.aS<0\/it.aS>30000))
noncomputable def G5 (aA:List Itm):Nat->Nat->Int->Int
 |0,_,_=>0
 |k+1,i,last=>if Cc (itA aA i)then 1 else if AK (itA aA i)then(if 0<=last/\(itA aA last.toNat).to≠(itA aA i).fr then 13 else G5 aA k (i+1) i)else G5 aA k (i+1) last
noncomputable def Do (aA:List Itm):Int:=if aA.length>20000 then 10 else G5 aA aA.length 0 (-1)
theorem XX {aA:List Itm}:∀(k i:Nat) (last:Int),i+k=aA.length->G5 aA k i last=0->∀j,i<=j->j<aA.length-> ¬Cc (itA aA j)
 |0,i,last,hi,_,j,I,E=>by omega
 |k+1,i,last,hi,h,j,I,E=>by
  unfold G5 at h;split at h
  ·omega
  ·rename_i c;by_cases G:j=i
   ·subst G;exact c
   ·split at h
    ·split at h
     ·omega
     ·exact XX k (i+1) _ (by omega) h j (by omega) E
    ·exact XX k (i+1) _ (by omega) h j (by omega) E
theorem NA {aA:List Itm} (h:Do aA=0):aA.length<=20000/\∀j,j<aA.length-> ¬Cc (itA aA j):=by
 unfold Do at h;split at h
 ·omega
 ·exact⟨by omega,λj E=>XX _ 0 _ (by omega) h j (by omega) E⟩
theorem L5 {it:Itm} (h: ¬Cc it) (E:AK it):drawn it/\(it.aP=1\/1<=it.aZ/\it.aZ<=60000000):=by
 unfold Cc at h;have G:Ed it:=by
  by_cases c:Ed it
  ·exact c
  ·exact absurd (.inr (.inr (.inl ⟨E, .inl c⟩))) h
 have I: ¬((it.aP≠1/\(it.aZ<1\/it.aZ>60000000))\/it.blend<0\/it.blend>1000):=λc=>h (.inr (.inr (.inl ⟨E, .inr c⟩)));exact⟨⟨G,by omega,by omega⟩,by omega⟩
theorem Zxe {it:Itm} (h: ¬Cc it) (E:it.aP=8):0<=it.aS/\it.aS<=30000:=by
 unfold Cc at h;have G: ¬AK it:=λc=>by have:=c.2;omega
 have I: ¬(it.n<3\/it.n>5\/it.aS<0\/it.aS>30000):=λc=>h (.inr (.inr (.inr ⟨G,E,c⟩)));omega
noncomputable def A9 (aU aZ aX:Int) (s:List Sgm×Int×Pt) (q:Pt):List Sgm×Int×Pt:=if q=s.2.2 then s else(s.1++[⟨q,AJ s.2.2 q,aU,aZ,aX⟩],s.2.1+AJ s.2.2 q,q)
theorem Uh {aU aZ aX:Int}:∀(E:List Pt) (s:List Sgm×Int×Pt),(∀p∈E,bd 67108864 p)->bd 67108864 s.2.2->0<=s.2.1->
  (E.foldl (A9 aU aZ aX) s).1.length<=s.1.length+E.length/\s.2.1<=(E.foldl (A9 aU aZ aX) s).2.1/\(E.foldl (A9 aU aZ aX) s).2.1<=s.2.1+E.length*268435456/\bd 67108864 (E.foldl (A9 aU aZ aX) s).2.2
 |[],s,_,I,N=>⟨by simp,by simp,by simp,I⟩
 |q::E,s,J,I,N=>by
  rw[fj];have O:=J q (by simp);have S:=IP I O;have G:A9 aU aZ aX s q=s\/A9 aU aZ aX s q=(s.1++[⟨q,AJ s.2.2 q,aU,aZ,aX⟩],s.2.1+AJ s.2.2 q,q):=by unfold A9;split<;>simp
  rcases G with G|G
  ·rw[G];obtain⟨a,b,c,d⟩:=Uh E s (λp M=>J p (by simp[M])) I N (aU:=aU) (aZ:=aZ) (aX:=aX);exact⟨by simp;omega,b,by simp;omega,d⟩
  ·rw[G];obtain⟨a,b,c,d⟩:=Uh E (s.1++[⟨q,AJ s.2.2 q,aU,aZ,aX⟩],s.2.1+AJ s.2.2 q,q) (λp M=>J p (by simp[M])) O (by simp only;omega) (aU:=aU) (aZ:=aZ) (aX:=aX);simp only[ay,bj,dg]at a b c;exact⟨by simp;omega,by omega,by simp;omega,d⟩
structure BSt where
 aF:List Sgm
 aD:List Mrk
 (len aS frm:Int)
 begun:Bool
 (aQ at_:Pt)
def JV (it:Itm):Int:=if syI it then mn (it.aZ*16) 16777216 else 0
def RH (it:Itm) (s:Int):Int:=if it.aP=8/\(it.n=3\/it.n=4)then it.aS else s
noncomputable def Ge (aA:List Itm) (i:Nat) (s:BSt):List Sgm×Int×Pt:=
 (C3 aA i s.frm).foldl (A9 i (HB (itA aA i) s.aS) (JV (itA aA i))) (s.aF,s.len,if s.begun=true then s.at_ else AF (itA aA i).fr)
noncomputable def DO (aA:List Itm) (i:Nat) (s:BSt):BSt:=
 if AK (itA aA i)then
  ⟨(Ge aA i s).1,s.aD++[⟨(Ge aA i s).2.1,HH aA i,i⟩],(Ge aA i s).2.1,s.aS,if 0<=CD aA i then i else-1,true,if s.begun=true then s.aQ else AF (itA aA i).fr,(Ge aA i s).2.2⟩
 else⟨s.aF,s.aD++[⟨s.len,Re (itA aA i),i⟩],s.len,RH (itA aA i) s.aS,s.frm,s.begun,s.aQ,s.at_⟩
noncomputable def Au (aA:List Itm):Nat->BSt
 |0=>⟨[],[],0,0,-1,false,⟨0,0,0⟩,⟨0,0,0⟩⟩
 |i+1=>DO aA i (Au aA i)
structure BOK (aA : List Itm) (i : Nat) (s : BSt) : Prop where
 aF:s.aF.length<=i*65537
 aD:s.aD.length=i
 len:0<=s.len/\s.len<=i*65537*268435456
 aS:0<=s.aS/\s.aS<=30000
 frm:Mq aA i s.frm
 at_:s.begun=true->bd 67108864 s.at_
theorem Zca {aA:List Itm} {s:BSt} (hi:i<aA.length) (E:∀j<aA.length,¬Cc (itA aA j)) (h:BOK aA i s):BOK aA (i+1) (DO aA i s):=by
 have G:∀k<aA.length,AK (itA aA k)->drawn (itA aA k):=λk M I=>(L5 (E k M) I).1;unfold DO;by_cases I:AK (itA aA i)
 ·rw[ab I];have J:=G i hi I;obtain⟨N,V⟩:=Xx J h.frm G;have O:bd 67108864 (if s.begun=true then s.at_ else AF (itA aA i).fr):=by
   by_cases hb:s.begun=true
   ·rw[ab hb];exact h.at_ hb
   ·rw[aa hb];exact A3 (EW J.1.2.1) (by decide)
  obtain⟨a1,a2,a3,a4⟩:=Uh (aU:=i) (aZ:=HB (itA aA i) s.aS) (aX:=JV (itA aA i)) (C3 aA i s.frm) (s.aF,s.len,if s.begun=true then s.at_ else AF (itA aA i).fr) N O h.len.1;have X:=h.aF;have S:=h.len;have e1:(i+1)*65537=i*65537+65537:=by rw[ij]
  refine⟨?_,?_,?_,h.aS,?_,λ_=>a4⟩
  ·simp only at a1;show(Ge aA i s).1.length<=_;unfold Ge;omega
  ·show(s.aD++[_]).length=_;rw[ay,h.aD];rfl
  ·show 0<=(Ge aA i s).2.1/\(Ge aA i s).2.1<=_;unfold Ge;simp only at a2 a3;have e2:(((i+1:Nat):Int))*65537*268435456=(i:Int)*65537*268435456+65537*268435456:=by
    rw[gx,j7,jj,jj];rfl
   constructor
   ·omega
   ·rw[e2];omega
  ·show Mq aA (i+1) (if 0<=CD aA i then(i:Int)else-1);split
   ·exact .inr ⟨i,rfl,hi,J⟩
   ·exact .inl rfl
 ·rw[aa I];have S:=h.len;have T:=h.aF;have e1:(i+1)*65537=i*65537+65537:=by rw[ij]
  refine⟨by show s.aF.length<=_;rw[e1];exact df T (Nat.le_add_right _ _),?_,?_,?_,h.frm,h.at_⟩
  ·show(s.aD++[_]).length=_;rw[ay,h.aD];rfl
  ·have e2:(((i+1:Nat):Int))*65537*268435456=(i:Int)*65537*268435456+65537*268435456:=by
    rw[gx,j7,jj,jj];rfl
   show 0<=s.len/\s.len<=_;rw[e2];omega
  ·show 0<=RH (itA aA i) s.aS/\RH (itA aA i) s.aS<=30000;unfold RH;split
   ·rename_i U;exact Zxe (E i hi) U.1
   ·exact h.aS
theorem Z78 (aA:List Itm):BOK aA 0 ⟨[],[],0,0,-1,false,⟨0,0,0⟩,⟨0,0,0⟩⟩:=by
 refine⟨i6 _,dg,⟨bz _,?_⟩,⟨bz _,?_⟩, .inl rfl,λh=>by cases h⟩
 ·show(0:Int)<=((0:Nat):Int)*65537*268435456;rw[show((0:Nat):Int)=0 from rfl,kg,kg];exact bz _
 ·show(0:Int)<=30000;omega
theorem OT {aA:List Itm} (E:∀j<aA.length,¬Cc (itA aA j)):∀i,i<=aA.length->BOK aA i (Au aA i)
 |0,_=>by rw[Au];exact Z78 aA
 |i+1,hi=>by rw[Au];exact Zca (by omega) E (OT E i (by omega))
noncomputable def AZ (aA:List Itm):Pth:=⟨(Au aA aA.length).aQ,(Au aA aA.length).aF,(Au aA aA.length).aD⟩
def FT:Pt->List Sgm->Pt
 |a,[]=>a
 |_,g::l=>FT g.to l
abbrev B26:Nat:=67108864
def PD:Pt->List Sgm->Prop
 |_,[]=>True
 |a,g::l=>g.len=AJ a g.to/\g.to≠a/\bd B26 g.to/\PD g.to l
def Ay:List Sgm->Int
 |[]=>0
 |g::l=>g.len+Ay l
theorem Tv (g:Sgm):∀(a:Pt) (l:List Sgm),FT a (l++[g])=g.to
 |_,[]=>rfl
 |_,h::l=>by simp only[az,FT];exact Tv g h.to l
theorem Q5h {g:Sgm}:∀{a:Pt} {l:List Sgm},PD a l->g.len=AJ (FT a l) g.to->g.to≠FT a l->bd B26 g.to->PD a (l++[g])
 |a,[],_,E,G,I=>⟨E,G,I,trivial⟩
 |a,k::l,h,E,G,I=>⟨h.1,h.2.1,h.2.2.1,Q5h h.2.2.2 E G I⟩
theorem Qgs (g:Sgm):∀(l:List Sgm),Ay (l++[g])=Ay l+g.len
 |[]=>by simp[Ay]
 |k::l=>by simp only[az,Ay];rw[Qgs g l];omega
def Qbl (aQ:Pt) (s:List Sgm×Int×Pt):Prop:=PD aQ s.1/\FT aQ s.1=s.2.2/\Ay s.1=s.2.1
theorem Qql {aU aZ aX:Int}:∀(E:List Pt) (s:List Sgm×Int×Pt),(∀p∈E,bd B26 p)->Qbl g s->Qbl g (E.foldl (A9 aU aZ aX) s)
 |[],s,_,h=>h
 |q::E,s,I,h=>by
  rw[fj];refine Qql E _ (λp G=>I p (by simp[G])) ?_;unfold A9;by_cases c:q=s.2.2
  ·rw[ab c];exact h
  ·rw[aa c];obtain⟨M,J,N⟩:=h;refine⟨Q5h M (by rw[J]) (by rw[J];exact c) (I q (by simp)),Tv _ _ _,?_⟩;simp only[Qgs,N]
structure BInv (s : BSt) : Prop where
 begun:s.begun=true->bd B26 s.aQ/\Qbl s.aQ (s.aF,s.len,s.at_)
 empty:s.begun=false->s.aF=[]/\s.len=0/\s.aQ=⟨0,0,0⟩
theorem Z4x {aA:List Itm} {s:BSt} (hi:i<aA.length) (E:∀j<aA.length,¬Cc (itA aA j)) (J:BOK aA i s) (h:BInv s):BInv (DO aA i s):=by
 have G:∀k<aA.length,AK (itA aA k)->drawn (itA aA k):=λk O I=>(L5 (E k O) I).1;unfold DO;by_cases I:AK (itA aA i)
 ·rw[ab I];have M:=G i hi I;obtain⟨N,-⟩:=Xx M J.frm G;refine⟨λ_=> ?_,λhb=>(by cases hb)⟩;unfold Ge;by_cases hb:s.begun=true
  ·rw[ab hb,ab hb];obtain⟨g1,g2⟩:=h.begun hb;exact⟨g1,Qql _ _ N g2⟩
  ·rw[aa hb,aa hb];obtain⟨g1,g2,S⟩:=h.empty (by simpa using hb);refine⟨A3 (EW M.1.2.1) (by decide),Qql _ _ N ?_⟩;rw[g1,g2];exact⟨trivial,rfl,rfl⟩
 ·rw[aa I];exact⟨h.begun,h.empty⟩
theorem KH {aA:List Itm} (E:∀j<aA.length,¬Cc (itA aA j)):∀i,i<=aA.length->BInv (Au aA i)
 |0,_=>by rw[Au];exact⟨λh=>(by cases h),λ_=>⟨rfl,rfl,rfl⟩⟩
 |i+1,hi=>by rw[Au];exact Z4x (by omega) E (OT E i (by omega)) (KH E i (by omega))
structure GoodPath (p : Pth) : Prop where
 aQ:bd B26 p.aQ
 aF:PD p.aQ p.aF
 count:p.aF.length<=983055
theorem WC {aA:List Itm} (hlen:aA.length<=15) (I:Do aA=0):GoodPath (AZ aA):=by
 have E:=(NA I).2;have J:=OT E aA.length (db _);have G:=KH E aA.length (db _);have N:=J.aF;unfold AZ;by_cases hb:(Au aA aA.length).begun=true
 ·obtain⟨g1,g2,-⟩:=G.begun hb;exact⟨g1,g2,by simp only;omega⟩
 ·obtain⟨g1,-,M⟩:=G.empty (by simpa using hb);refine⟨?_,?_,?_⟩
  ·simp only[M];unfold bd;simp
  ·simp only[g1];trivial
  ·simp only[g1];simp
theorem Q8t {a b:Pt} (E:bd B26 a) (hb:bd B26 b) (h:b≠a):1<=AJ a b/\AJ a b<=268435456:=by
 obtain⟨-,J,G,-⟩:=Zy E hb;have M:sqD a b≠0:=λe=>h (Qft.1 e).symm;have N:=QF a b;have I:=IP E hb;refine⟨?_,I.2⟩;by_cases c:AJ a b=0
 ·rw[c]at G;omega
 ·omega
theorem Vr {a:Pt} {l:List Sgm} (I:bd B26 a) (h:PD a l):∀g∈l,1<=g.len/\g.len<=268435456/\bd B26 g.to:=by
 induction l generalizing a with
 |nil=>simp
 |cons k l M=>
  obtain⟨N,J,E,O⟩:=h;intro g G;rcases av.1 G with rfl|G
  ·rw[N];exact⟨(Q8t I E J).1,(Q8t I E J).2,E⟩
  ·exact M E O g G
theorem Qqk {l:List Sgm} (h:∀g∈l,1<=g.len/\g.len<=268435456/\bd B26 g.to):(l.length:Int)<=Ay l/\Ay l<=l.length*268435456:=by
 induction l with
 |nil=>simp[Ay]
 |cons k l E=>
  have:=E λg G=>h g (by simp[G]);have:=h k (by simp);simp only[Ay,bj];omega
def PE (a:Pt) (g:Sgm) (d:Int):Pt:=⟨a.x+BA ((g.to.x-a.x)*d) g.len,a.y+BA ((g.to.y-a.y)*d) g.len,a.z+BA ((g.to.z-a.z)*d) g.len⟩
def atL:Pt->List Sgm->Int->Pt
 |a,[],_=>a
 |a,g::l,s=>if s<g.len then PE a g s else atL g.to l (s-g.len)
def atP (p:Pth) (s:Int):Pt:=atL p.aQ p.aF (max s 0)
def Bo:List Sgm->Int->Nat×Int
 |[],s=>(0,s)
 |[g],s=>if s<g.len then(0,s)else(0,g.len)
 |g::h::l,s=>if s<g.len then(0,s)else((Bo (h::l) (s-g.len)).1+1,(Bo (h::l) (s-g.len)).2)
def Fm (a:Pt) (l:List Sgm) (i:Nat):Pt:=FT a (l.take i)
def sg0:Sgm:=⟨⟨0,0,0⟩,0,0,0,0⟩
def sgA (l:List Sgm) (i:Nat):Sgm:=l.getD i sg0
theorem O4 {l:List Sgm} (h:i<l.length):sgA l i=l[i]:=by unfold sgA;simp[h]
theorem LB {l:List Sgm} (h:i<l.length):nth [] (l.map Av) i=Av (sgA l i):=by rw[O4 h];exact JA _ _ _ _ h
theorem Il {l:List Sgm} (h:i<l.length):sgA l i∈l:=by rw[O4 h];exact bn h
theorem K_ (a:Pt) (l:List Sgm):Fm a l 0=a:=by unfold Fm;simp[FT]
theorem WS (a:Pt) (g:Sgm) (l:List Sgm) (i:Nat):Fm a (g::l) (i+1)=Fm g.to l i:=by unfold Fm;rw[List.take_succ_cons];rfl
theorem Qi7 (g:Sgm) (l:List Sgm) (i:Nat):sgA (g::l) (i+1)=sgA l i:=by unfold sgA;simp
theorem UO:∀{l:List Sgm} {i:Nat} {a:Pt},i<l.length->Fm a l (i+1)=(sgA l i).to
 |g::l,0,a,_=>by rw[WS,K_];rfl
 |g::l,i+1,a,h=>by rw[WS,Qi7];exact UO (by simpa using h)
theorem Qln {x n:Int} (E:0<n):BA (x*n) n=x:=Vm E
theorem Zgv {a:Pt} {g:Sgm} (h:0<g.len):PE a g g.len=g.to:=by
 unfold PE;rw[Qln h,Qln h,Qln h];rw[D7];exact⟨by simp only;omega,by simp only;omega,by simp only;omega⟩
theorem Qjm:∀{l:List Sgm} {a:Pt} {s:Int},l≠[]->(∀g∈l,1<=g.len)->0<=s->
  (Bo l s).1<l.length/\0<=(Bo l s).2/\(Bo l s).2<=(sgA l (Bo l s).1).len/\atL a l s=PE (Fm a l (Bo l s).1) (sgA l (Bo l s).1) (Bo l s).2
 |[],_,_,h,_,_=>absurd rfl h
 |[g],a,s,_,E,G=>by
  have J:=E g (by simp);unfold Bo;by_cases c:s<g.len
  ·rw[ab c];refine⟨by simp,G,by show s<=g.len;omega,?_⟩;unfold atL;rw[ab c,K_];rfl
  ·rw[aa c];refine⟨by simp,by simp only;omega,bz _,?_⟩;unfold atL;rw[aa c,K_];show atL g.to [] _=PE a g g.len;rw[Zgv (by omega)];rfl
 |g::h::l,a,s,_,E,G=>by
  have J:=E g (by simp);unfold Bo;by_cases c:s<g.len
  ·rw[ab c];refine⟨by simp,G,by show s<=g.len;omega,?_⟩;unfold atL;rw[ab c,K_];rfl
  ·rw[aa c];obtain⟨k1,k2,M,N⟩:=Qjm (l:=h::l) (a:=g.to) (s:=s-g.len) (by simp) (λk I=>E k (by simp at I⊢;exact .inr I)) (by omega);refine⟨by simp at k1⊢;omega,k2,?_,?_⟩
   ·simp only[Qi7];exact M
   ·rw[show atL a (g::h::l) s=atL g.to (h::l) (s-g.len)from by rw[atL,aa c]];simp only[WS,Qi7];exact N
theorem Qgi {x n:Int} (E:0<n) (h: -(A*n)<=x/\x<=A*n):(BA x n).natAbs<=A:=by
 have m1:=SU E h.2;have m2:=SU E h.1;rw[show-((A:Int)*n)= -(A:Int)*n by rw[j6]]at m2;rw[Vm E]at m1 m2;omega
theorem Qx0 {D L d:Int} (G:0<L) (I:D.natAbs<=134217728) (E:0<=d/\d<=L):(BA (D*d) L).natAbs<=134217728:=by
 refine Qgi G ?_;have J:D*d<=134217728*d:=dp (by omega) E.1;have M: -134217728*d<=D*d:=dp (by omega) E.1;have e:((134217728:Nat):Int)=134217728:=rfl;rw[e];omega
structure SegOK (l : List Sgm) : Prop where
 seg:∀g∈l,1<=g.len/\g.len<=268435456/\bd B26 g.to
 count:l.length<=983055
theorem GoodPath.ok (h:GoodPath p):SegOK p.aF:=⟨Vr h.aQ h.aF,h.count⟩
theorem Zdf {l:List Sgm} (E:bd B26 g) (h:SegOK l) {i:Nat} (hi:i<l.length):bd B26 (Fm g l i):=by
 cases i with
 |zero=>rw[K_];exact E
 |succ i=>rw[UO (by omega)];exact(h.seg _ (Il (by omega))).2.2
theorem Qxl {l:List Sgm} (h:SegOK l):∀(k i:Nat) (v:Int),i+k=l.length->0<=v->v+k*268435456<=4000000000000000000->
  Ak SF [I v, .vC Ag (l.map Av),I l.length,I i]=some (1,[I (v+Ay (l.drop i))])
 |0,i,v,hi,_,_=>by
  refine Be ?_ (by simp);rw[Q3x,Bg (by omega),fc (by omega)];simp[Ay]
 |k+1,i,v,hi,h0,M=>by
  have E:i<l.length:=by omega
  have J:=h.count;have N:=h.seg _ (Il E);have G:SF [I v, .vC Ag (l.map Av),I l.length,I i]=some (0,[I (v+(sgA l i).len), .vC Ag (l.map Av),I l.length,I (i+1:Nat)]):=by
   rw[Q3x];simp only[go_sem,af,ak,LB E];rw[ab,ab,Ae (x:=v+_),Ae];rfl
  rw[Bz G,Qxl h k (i+1) _ (by omega) (by omega) (by omega)];have e:l.drop i=sgA l i::l.drop (i+1):=by rw[O4 E];exact Ph _ _ E
  rw[e];simp only[Ay,Int.add_assoc]
theorem Q87 (h:SegOK p.aF):J4 (BC p)=some [I (Ay p.aF)]:=by
 have G:=Qxl h p.aF.length 0 0 (by omega) (by omega) (by have:=h.count;omega);have E:SV [I 0, .vC Ag (p.aF.map Av),I p.aF.length,I 0]=some (1,[I (0+Ay (p.aF.drop 0))]):=G;rw[f9,Int.zero_add]at E;unfold J4;generalize SV=N at*;rw[Zo9];simp only[go_sem,af,E]
theorem Zbe {g h:Sgm} {l:List Sgm} {s:Int} (c: ¬s<g.len):Bo (g::h::l) s=((Bo (h::l) (s-g.len)).1+1,(Bo (h::l) (s-g.len)).2):=by rw[Bo,aa c]
theorem Qyl (h:SegOK p.aF):∀(k i:Nat) (s:Int),i+k=p.aF.length->1<=k->0<=s/\s<=9223372036854775807->
  Ak Te (I s:: .vC Ag (p.aF.map Av)::I p.aF.length::I i::BC p)=some (1,[I (i+(Bo (p.aF.drop i) s).1:Nat),I (Bo (p.aF.drop i) s).2])
 |k+1,i,s,hi,_,N=>by
  have G:i<p.aF.length:=by omega
  have M:=h.count;have O:=h.seg _ (Il G);have e:p.aF.drop i=sgA p.aF i::p.aF.drop (i+1):=by rw[O4 G];exact Ph _ _ G
  have E:Te (I s:: .vC Ag (p.aF.map Av)::I p.aF.length::I i::BC p)=if s<(sgA p.aF i).len then some (1,[I i,I s])else if k=0 then some (1,[I i,I (sgA p.aF i).len])else some (0,I (s-(sgA p.aF i).len):: .vC Ag (p.aF.map Av)::I p.aF.length::I (i+1:Nat)::BC p):=by
   rw[Q9h];simp only[go_sem,af,ak,LB G];rw[ab,ab,Ae (x:=(p.aF.length:Int)-1),Ae (x:=(i:Int)+1)];by_cases c:s<(sgA p.aF i).len
   ·rw[ab c,ab c]
   ·rw[aa c,aa c];by_cases J:k=0
    ·rw[ab,ab J]
    ·rw[aa,aa J,Ae];rfl
  by_cases c:s<(sgA p.aF i).len
  ·rw[ab c]at E;rw[Be E (by simp),e];cases p.aF.drop (i+1)with
   |nil=>rw[Bo,ab c];rfl
   |cons b l=>rw[Bo,ab c];rfl
  ·rw[aa c]at E;by_cases J:k=0
   ·rw[ab J]at E;rw[Be E (by simp),e,fc (by omega),Bo,aa c];rfl
   ·rw[aa J]at E;rw[Bz E,Qyl h k (i+1) _ (by omega) (by omega) (by omega),e];have e2:p.aF.drop (i+1)=sgA p.aF (i+1)::p.aF.drop (i+1+1):=by rw[O4 (show i+1<p.aF.length by omega)];exact Ph _ _ (by omega)
    rw[e2,Zbe c,<-e2];simp only;rw[show i+1+(Bo (p.aF.drop (i+1)) (s-(sgA p.aF i).len)).1=i+((Bo (p.aF.drop (i+1)) (s-(sgA p.aF i).len)).1+1) by omega]
theorem Wg (h:SegOK p.aF) {s:Int} (hs:i64 s):Fe (BC p++[I s])=if p.aF=[]then some [I (-1),I 0]else some [I (Bo p.aF (max s 0)).1,I (Bo p.aF (max s 0)).2]:=by
 unfold i64 at hs;have hmx:mx s 0=max s 0:=mx_max' s 0;by_cases c:p.aF=[]
 ·rw[ab c];have hend:NT (I (max s 0):: .vC Ag []::I 0::I 0::BC p)=some (2,[]):=by
   refine Be ?_ (by simp);rw[Q9h,Bg (by omega)]
  unfold Fe;generalize NT=N at*;have he:=Qw6 N p.aQ.x p.aQ.y p.aQ.z (p.aF.map Av) (p.aD.map Aw) s;refine cx he ?_;rw[hmx,c];have hend':N [I (max s 0), .vC Ag [],I 0,I 0,I p.aQ.x,I p.aQ.y,I p.aQ.z, .vC Ag [], .vC AO (p.aD.map Aw)]=some (2,[]):=by
   have:=hend;unfold BC at this;rw[c]at this;exact this
  simp only[go_sem,f8,dg];simp only[jz];rw[hend'];simp
 ·rw[aa c];have hpos:0<p.aF.length:=by
   cases hh:p.aF with
   |nil=>exact absurd hh c
   |cons _ _=>simp
  have hL:=Qyl h p.aF.length 0 (max s 0) (by omega) (by omega) (by omega);have hL':NT [I (max s 0), .vC Ag (p.aF.map Av),I p.aF.length,I 0,I p.aQ.x,I p.aQ.y,I p.aQ.z, .vC Ag (p.aF.map Av), .vC AO (p.aD.map Aw)]=some (1,[I (0+(Bo (p.aF.drop 0) (max s 0)).1:Nat),I (Bo (p.aF.drop 0) (max s 0)).2]):=hL;rw[f9,d9]at hL';unfold Fe;generalize NT=N at*;have he:=Qw6 N p.aQ.x p.aQ.y p.aQ.z (p.aF.map Av) (p.aD.map Aw) s;refine cx he ?_;rw[hmx];simp only[go_sem,af,hL']
 where mx_max' (a b:Int):mx a b=max a b:=by unfold mx;rw[Int.max_def];split<;>split<;>omega
theorem Z0n (h:GoodPath p) {s:Int} (G:Z (BC p++[I s])=if p.aF=[]then some [I (-1),I 0]else some [I (Bo p.aF (max s 0)).1,I (Bo p.aF (max s 0)).2])
  (hM:∀{a b c:Int},a.natAbs<=134217728->b.natAbs<=268435456->(0<c/\c<=268435456)->M [I a,I b,I c,I 2]=some [I (BA (a*b) c),B true]):
  Qdq M Z (BC p++[I s])=some (ptR (atP p s)):=by
 have he:=Zqj (AQ:=M) (DX:=Z) p.aQ.x p.aQ.y p.aQ.z (p.aF.map Av) (p.aD.map Aw) s;refine cx he ?_;simp only[az,bf,BC]at G;unfold atP;by_cases c:p.aF=[]
 ·rw[ab c]at G;simp only[G,go_sem];rw[ab,c];rfl
 ·rw[aa c]at G;have E:=h.ok;obtain⟨N,f2,f3,f4⟩:=Qjm (l:=p.aF) (a:=p.aQ) (s:=max s 0) c (λg J=>(E.seg g J).1) (by omega);rw[f4];have J:=E.seg _ (Il N);have O:=Zdf h.aQ E N;have hr:=LB N;have a1:=E.count;generalize(Bo p.aF (max s 0)).1=i at*;generalize(Bo p.aF (max s 0)).2=d at*;have S:d.natAbs<=268435456:=by omega
  have fin:∀{a:Pt},bd B26 a->(M [I (V ((sgA p.aF i).to.x-a.x)),I d,I (sgA p.aF i).len,I 2]=some [I (BA (((sgA p.aF i).to.x-a.x)*d) (sgA p.aF i).len),B true]/\V (a.x+BA (((sgA p.aF i).to.x-a.x)*d) (sgA p.aF i).len)=a.x+BA (((sgA p.aF i).to.x-a.x)*d) (sgA p.aF i).len)/\
    (M [I (V ((sgA p.aF i).to.y-a.y)),I d,I (sgA p.aF i).len,I 2]=some [I (BA (((sgA p.aF i).to.y-a.y)*d) (sgA p.aF i).len),B true]/\V (a.y+BA (((sgA p.aF i).to.y-a.y)*d) (sgA p.aF i).len)=a.y+BA (((sgA p.aF i).to.y-a.y)*d) (sgA p.aF i).len)/\
    (M [I (V ((sgA p.aF i).to.z-a.z)),I d,I (sgA p.aF i).len,I 2]=some [I (BA (((sgA p.aF i).to.z-a.z)*d) (sgA p.aF i).len),B true]/\V (a.z+BA (((sgA p.aF i).to.z-a.z)*d) (sgA p.aF i).len)=a.z+BA (((sgA p.aF i).to.z-a.z)*d) (sgA p.aF i).len):=by
   intro a T;have key:∀u v:Int,u.natAbs<=B26->v.natAbs<=B26->M [I (V (u-v)),I d,I (sgA p.aF i).len,I 2]=some [I (BA ((u-v)*d) (sgA p.aF i).len),B true]/\V (v+BA ((u-v)*d) (sgA p.aF i).len)=v+BA ((u-v)*d) (sgA p.aF i).len:=by
    intro u v hu O;have U:=IR hu O;rw[Ji U (by decide)];refine⟨hM (df U (by decide)) S (by omega),?_⟩;exact Ji (UH O (Qx0 (by omega) (df U (by decide)) ⟨f2,f3⟩)) (by decide)
   exact⟨key _ _ J.2.2.1 T.1,key _ _ J.2.2.2.1 T.2.1,key _ _ J.2.2.2.2 T.2.2⟩
  have X:(0:Int)<=(i:Int)/\(i:Int)<(p.aF.length:Int):=by omega
  simp only[G,go_sem,af,ak,hr,ab X];rw[aa];by_cases c0:i=0
  ·subst c0;obtain⟨⟨m1,Y⟩,⟨m2,w2⟩,m3,w3⟩:=fin h.aQ;rw[aa,K_];simp only[m1,m2,m3,go_sem,Y,w2,w3];rfl
  ·obtain⟨j,rfl⟩:∃j,i=j+1:=⟨i-1,by omega⟩;have hj:=LB (l:=p.aF) (i:=j) (by omega);have a0:=E.seg _ (Il (l:=p.aF) (i:=j) (by omega));obtain⟨⟨m1,Y⟩,⟨m2,w2⟩,m3,w3⟩:=fin a0.2.2;rw[ab,UO (by omega)];have e1:V (((j+1:Nat):Int)-1)=(j:Int):=by rw[Ae];omega
   rw[e1];simp only[ak,hj,go_sem];rw[ab];simp only[m1,m2,m3,go_sem,Y,w2,w3];rfl
theorem Q9m {a b c:Int} (E:a.natAbs<=134217728) (hb:b.natAbs<=268435456) (G:0<c/\c<=268435456):BM [I a,I b,I c,I 2]=some [I (BA (a*b) c),B true]:=by
 have:=fv E hb;exact Uo (by unfold i64;omega) (by unfold i64;omega) (by omega) (by omega)
theorem Z5b (h:GoodPath p) {s:Int} (E:i64 s):R1 (BC p++[I s])=some (ptR (atP p s)):=
 Z0n h (Wg h.ok E) Q9m
theorem Nb (h:GoodPath p):0<=Ay p.aF/\Ay p.aF<=263886834032640:=by
 have E:=Qqk h.ok.seg;have G:=h.count;omega
theorem Zss {α:Type} (d x:α) (l:List α):nth d (x::l) 40=nth d l 39:=by simp[nth]
theorem Zxr {α:Type} (d x:α) (l:List α):nth d (x::l) 41=nth d l 40:=by simp[nth]
theorem Z4w {α:Type} (d x:α) (l:List α):nth d (x::l) 42=nth d l 41:=by simp[nth]
theorem Zq6 {α:Type} (d x:α) (l:List α):nth d (x::l) 43=nth d l 42:=by simp[nth]
theorem Z1x {α:Type} (d x:α) (l:List α):nth d (x::l) 44=nth d l 43:=by simp[nth]
theorem Zl6 {α:Type} (d x:α) (l:List α):nth d (x::l) 45=nth d l 44:=by simp[nth]
theorem Zt4 {α:Type} (d x:α) (l:List α):nth d (x::l) 46=nth d l 45:=by simp[nth]
theorem Zru {α:Type} (d x:α) (l:List α):nth d (x::l) 47=nth d l 46:=by simp[nth]
theorem Zpk {α:Type} (d x:α) (l:List α):nth d (x::l) 48=nth d l 47:=by simp[nth]
theorem Zzf {α:Type} (d x:α) (l:List α):nth d (x::l) 49=nth d l 48:=by simp[nth]
theorem Z3o {α:Type} (d x:α) (l:List α):nth d (x::l) 50=nth d l 49:=by simp[nth]
theorem Zvt {α:Type} (d x:α) (l:List α):nth d (x::l) 51=nth d l 50:=by simp[nth]
theorem Z5o {α:Type} (d x:α) (l:List α):nth d (x::l) 52=nth d l 51:=by simp[nth]
theorem Z5n {α:Type} (d x:α) (l:List α):nth d (x::l) 53=nth d l 52:=by simp[nth]
theorem Z25 {α:Type} (d x:α) (l:List α):nth d (x::l) 54=nth d l 53:=by simp[nth]
theorem Z5v {α:Type} (d x:α) (l:List α):nth d (x::l) 55=nth d l 54:=by simp[nth]
attribute [go_sem] Zss Zxr Z4w Zq6 Z1x Zl6 Zt4 Zru Zpk Zzf Z3o Zvt Z5o Z5n Z25 Z5v
theorem KJ (a b:Int):mn a b=min a b:=by unfold mn;rw[Int.min_def];split<;>split<;>omega
theorem OM (a b:Int):mx a b=max a b:=by unfold mx;rw[Int.max_def];split<;>split<;>omega
def Rx (now a b mv:Int):Int:=if b>a then mv else if b<a then-mv else now
def D9 (now a b:Pt) (mv:Int):Pt:=⟨Rx now.x a.x b.x mv,Rx now.y a.y b.y mv,Rx now.z a.z b.z mv⟩
def slk (was aT n v:Int):Int:=if was=aT then v else max v n
def CJ (x:Ax3) (was aT:Pt):Int:=slk was.z aT.z x.c.bB (slk was.y aT.y x.b.bB (slk was.x aT.x x.a.bB 0))
def pc0:Pce:=⟨0,0,0,0,⟨0,0,0⟩,⟨0,0,0⟩⟩
def Bl (l:List Pce):Pce:=l.getD (l.length-1) pc0
def FD (t:Trk) (c:Pce):Trk:=
 if t.aE≠[]/\c.bD≠0/\(Bl t.aE).bD=c.bD/\(Bl t.aE).aT=c.aT then
  {t with aE:=t.aE.set (t.aE.length-1) {Bl t.aE with aR:=(Bl t.aE).aR+c.aR},length:=t.length+c.aR}
 else{t with aE:=t.aE++[{c with at_:=t.length}],length:=t.length+c.aR}
def AH (l:List Sgm) (i:Nat):Int:=Ay (l.take i)
def CW (x:Ax3) (mv:Int) (a b:Pt) (s aR:Int) (st:Trk×Pt):Trk×Pt:=
 (FD (if CJ x st.2 (D9 st.2 a b mv) > 0 then FD st.1 ⟨0, CJ x st.2 (D9 st.2 a b mv), s, 0, st.2, D9 st.2 a b mv⟩ else st.1)
  ⟨0,aR,s,mv,D9 st.2 a b mv,D9 st.2 a b mv⟩,D9 st.2 a b mv)
def In (p:Pth) (x:Ax3) (mv lo hi:Int) (i:Nat) (s:Trk×Pt):Trk×Pt:=
 if max (AH p.aF i) lo<min (AH p.aF (i+1)) hi then
  CW x mv (Fm p.aQ p.aF i) (sgA p.aF i).to (if mv<0 then min (AH p.aF (i+1)) hi else max (AH p.aF i) lo) (min (AH p.aF (i+1)) hi-max (AH p.aF i) lo) s
 else s
def EC (n:Nat) (mv:Int) (j:Nat):Nat:=if mv<0 then n-1-j else j
def Cw (p:Pth) (x:Ax3) (mv lo hi:Int) (E:Trk×Pt):Nat->Trk×Pt
 |0=>E
 |j+1=>In p x mv lo hi (EC p.aF.length mv j) (Cw p x mv lo hi E j)
def AS (n hi:Int):Int:=max 0 (min n hi)
def AL (p:Pth) (x:Ax3) (d:Pt) (from_ to:Int):Trk:=
 let n:=Ay p.aF
 let f:=AS from_ n
 let t:=AS to n
 (Cw p x (if f>t then-1 else 1) (min f t) (max f t) (⟨[],0,f,d⟩,d) p.aF.length).1
structure Ax3OK (x : Ax3) : Prop where
 a:0<=x.a.bB/\x.a.bB<=1000
 b:0<=x.b.bB/\x.b.bB<=1000
 c:0<=x.c.bB/\x.c.bB<=1000
theorem T_ {x:Ax3} (h:Ax3OK x) (a b:Pt):0<=CJ x a b/\CJ x a b<=1000:=by
 obtain⟨E,G,I⟩:=h;unfold CJ slk
 (repeat' split)<;>omega
structure TB (t : Trk) (n m : Int) : Prop where
 count:(t.aE.length:Int)<=n
 len:0<=t.length/\t.length<=m
 each:∀c∈t.aE,0<=c.aR/\c.aR<=t.length
theorem Qfy {l:List Pce} (h:l≠[]):Bl l∈l:=by
 have G:0<l.length:=by cases l with
  |nil=>exact absurd rfl h
  |cons _ _=>simp
 have E:l.length-1<l.length:=by omega
 unfold Bl;rw[fu,ai E,Option.getD_some];exact bn _
theorem Qsa {n m:Int} (h:TB t n m) {c:Pce} {k:Int} (I:0<=c.aR/\c.aR<=k):TB (FD t c) (n+1) (m+k):=by
 obtain⟨J,M,G⟩:=h;unfold FD;by_cases g:t.aE≠[]/\c.bD≠0/\(Bl t.aE).bD=c.bD/\(Bl t.aE).aT=c.aT
 ·rw[ab g];refine⟨by simp only[jb];omega,by simp only;omega,?_⟩;intro q E;rcases d8 E with E|rfl
  ·have:=G q E;simp only;omega
  ·have:=G _ (Qfy g.1);simp only;omega
 ·rw[aa g];refine⟨by simp only[ay,bj,dg];omega,by simp only;omega,?_⟩;intro q E;rcases bq.1 E with E|E
  ·have:=G q E;simp only;omega
  ·rw[dw]at E;subst E;simp only;omega
theorem Q5y (t:Trk) (c:Pce):(FD t c).aQ=t.aQ/\(FD t c).aT=t.aT:=by
 unfold FD;split<;>exact⟨rfl,rfl⟩
theorem Uk (l:List Sgm):AH l 0=0:=by unfold AH;rw[List.take_zero];rfl
theorem QV {l:List Sgm} (h:i<l.length):AH l (i+1)=AH l i+(sgA l i).len:=by
 unfold AH;rw[jc,ai h,Option.toList_some,Qgs,O4 h]
theorem Q9l (l:List Sgm):AH l l.length=Ay l:=by unfold AH;rw[jx]
theorem Ql5 {l:List Sgm} (h:SegOK l):∀i,i<=l.length->0<=AH l i/\AH l i<=i*268435456
 |0,_=>by rw[Uk];simp
 |i+1,hi=>by
  have:=Ql5 h i (by omega);have:=h.seg _ (Il (show i<l.length by omega));rw[QV (by omega)];omega
theorem Ziv {x:Ax3} {mv lo hi:Int} {s:Trk×Pt} {n m:Int} (I:Ax3OK x) (J:SegOK p.aF) (E:i<p.aF.length) (h:TB s.1 n m):TB (In p x mv lo hi i s).1 (n+2) (m+268436456):=by
 have M:=J.seg _ (Il E);have e:=QV E;unfold In;by_cases c:max (AH p.aF i) lo<min (AH p.aF (i+1)) hi
 ·rw[ab c];unfold CW;have N:=T_ I s.2 (D9 s.2 (Fm p.aQ p.aF i) (sgA p.aF i).to mv);have e1:n+2=n+1+1:=by omega
  have e2:m+268436456=m+1000+268435456:=by omega
  rw[e1,e2];refine Qsa ?_ (by simp only;omega);by_cases G:CJ x s.2 (D9 s.2 (Fm p.aQ p.aF i) (sgA p.aF i).to mv)>0
  ·rw[ab G];exact Qsa h (by simp only;omega)
  ·rw[aa G];exact⟨by have:=h.count;omega,by have:=h.len;omega,h.each⟩
 ·rw[aa c];exact⟨by have:=h.count;omega,by have:=h.len;omega,h.each⟩
theorem Yg {n j:Nat} (mv:Int) (h:j<n):EC n mv j<n:=by unfold EC;split<;>omega
theorem Zu {x:Ax3} {mv lo hi f:Int} {d:Pt} (E:Ax3OK x) (G:SegOK p.aF):∀j,j<=p.aF.length->TB (Cw p x mv lo hi (⟨[],0,f,d⟩,d) j).1 (j*2) (j*268436456)
 |0,_=>⟨by simp[Cw],by simp[Cw],by simp[Cw]⟩
 |j+1,I=>by
  have h:=Ziv (mv:=mv) (lo:=lo) (hi:=hi) E G (Yg mv (show j<p.aF.length by omega)) (Zu (mv:=mv) (lo:=lo) (hi:=hi) (f:=f) (d:=d) E G j (by omega));rw[Cw];have e1:((j+1:Nat):Int)*2=j*2+2:=by omega
  have e2:((j+1:Nat):Int)*268436456=j*268436456+268436456:=by omega
  rw[e1,e2];exact h
theorem Q95 {x:Ax3} (s:Trk×Pt):(In p x a k b i s).1.aQ=s.1.aQ/\(In p x a k b i s).1.aT=s.1.aT:=by
 unfold In;by_cases c:max (AH p.aF i) k<min (AH p.aF (i+1)) b
 ·rw[ab c];unfold CW;simp only[Q5y];by_cases E:CJ x s.2 (D9 s.2 (Fm p.aQ p.aF i) (sgA p.aF i).to a)>0
  ·rw[ab E];simp only[Q5y];exact⟨trivial,trivial⟩
  ·rw[aa E];exact⟨rfl,rfl⟩
 ·rw[aa c];exact⟨rfl,rfl⟩
end Go.Bm
