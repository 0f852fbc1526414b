/- laid together -/
import Derived.Test.YtnnpdlgenmnekaaGreatMx2
import Derived.Test.YtnnpdlgenmnekaaGreatBmTy
set_option linter.unusedVariables false
set_option linter.unusedSimpArgs false
set_option maxRecDepth 100000
open Go.IntKind (wrap)
variable {i A j:Nat} {a b:Go.Bm.Pt} {M Z Y W V S:Go.Bm.Fn} {k u v r d:Int} {l:Go.Bm.Rw} {N:Go.Bm.Lp} {E:Prop} {D:Go.Bm.Itm}
namespace Go.Bm
theorem H1 {x:Int} (h:i64 x):Fj [I x]=some [U (x.natAbs:Int)]:=by
  unfold i64 at h;unfold Fj;rw[Q3c];by_cases D:x<0
  · rw[B6 D,Ae (x:=x+1),Ae (x:=0-(x+1)),BO (x:=0-(x+1)) (by omega),BO (x:=0-(x+1)+1) (by omega)]
    rw[show 0-(x+1)+1=(x.natAbs:Int) by omega]
  · rw[AM D,BO (x:=x) (by omega)]
    rw[show x=(x.natAbs:Int) by omega];simp
theorem Qoz {x:Int} (h:i64 x):LV [I x]=some [U (x.natAbs:Int)]:=by
  unfold i64 at h;unfold LV;rw[Q94];by_cases D:x<0
  · rw[B6 D,Ae (x:=x+1),Ae (x:=0-(x+1)),BO (x:=0-(x+1)) (by omega),BO (x:=0-(x+1)+1) (by omega)]
    rw[show 0-(x+1)+1=(x.natAbs:Int) by omega]
  · rw[AM D,BO (x:=x) (by omega)]
    rw[show x=(x.natAbs:Int) by omega];simp
def sgn (a b:Int):Int:=if a=0 then 0 else if b=0 then 0 else if(a<0↔b<0)then 1 else-1
theorem U5 (a b:Int):Fp [I a,I b]=some [I (sgn a b)]:=by
  unfold Fp;rw[Q60];simp only[go_sem];unfold sgn
  repeat' split
  all_goals rfl
theorem Zuh (a b:Int):KU [I a,I b]=some [I (sgn a b)]:=by
  unfold KU;rw[Znv];simp only[go_sem];unfold sgn
  repeat' split
  all_goals rfl
def Dk (a b:Nat):Int:=if a<b then-1 else if a=b then 0 else 1
def EM (a b:Int):Int:=if a<b then-1 else if a=b then 0 else 1
noncomputable def w64:Nat:=Classical.choose (⟨18446744073709551616,rfl⟩:∃n:Nat,n=18446744073709551616)
theorem A_:w64=18446744073709551616:=dz (⟨18446744073709551616,rfl⟩:∃n:Nat,n=18446744073709551616)
theorem GP {x:Int} (h:i64 x):x.natAbs<w64:=by unfold i64 at h;have:=A_;omega
theorem Qyy {x y:Nat} (E:x<w64) (G:y<w64):FK [U x,U y]=some [U ((x*y/w64:Nat):Int),U ((x*y%w64:Nat):Int)]:=by
  rw[A_]at E G;have I:∀z:Nat,z<18446744073709551616->inU (z:Int)=true:=by
    intro z J;have D:ET=18446744073709551616:=rfl;simp only[inU,D,al,bp];omega
  show PJ (x:Int) (y:Int)=_;unfold PJ;rw[I x E,I y G,A_];rfl
theorem Zi9 {x y:Nat} (D:x<w64) (E:y<w64):DO [U x,U y]=some [U ((x*y/w64:Nat):Int),U ((x*y%w64:Nat):Int)]:=by
  unfold DO;rw[Q8a,Qyy D E];simp only[go_sem]
theorem Qpa (a b c d:Nat) (hb:b<w64) (D:d<w64):GT [U a,U b,U c,U d]=some [I (Dk (a*w64+b) (c*w64+d))]:=by
  unfold GT;rw[Q83];simp only[go_sem,i6];unfold Dk;simp only[A_]at*;by_cases E:a<c
  · rw[aa,aa]
  · rw[ab]
    by_cases G:a=c
    · rw[aa]
      by_cases J:b<d
      · rw[aa,aa]
      · rw[ab]
        by_cases L:b=d
        · rw[aa,ab,aa]
        · rw[ab,ab,ab]
    · rw[ab,ab,ab,ab]
theorem R0 (a b:Int):sgn a b*((a.natAbs*b.natAbs:Nat):Int)=a*b:=by
  unfold sgn;by_cases G:a=0
  · subst G;simp
  · by_cases I:b=0
    · subst I;simp
    · rw[ab G,ab I]
      have e:((a.natAbs*b.natAbs:Nat):Int)=(a.natAbs:Int)*(b.natAbs:Int):=by simp
      rw[e];by_cases D:a<0<;>by_cases E:b<0
      · rw[aa (by simp[D,E]),show(a.natAbs:Int)= -a by omega,show(b.natAbs:Int)= -b by omega,Int.neg_mul_neg,gf]
      · rw[ab (by simp[D,E]),show(a.natAbs:Int)= -a by omega,show(b.natAbs:Int)=b by omega,Int.neg_mul,gf,Int.neg_mul,Int.neg_neg]
      · rw[ab (by simp[D,E]),show(a.natAbs:Int)=a by omega,show(b.natAbs:Int)= -b by omega,Int.mul_neg,Int.neg_mul_neg,gf]
      · rw[aa (by simp[D,E]),show(a.natAbs:Int)=a by omega,show(b.natAbs:Int)=b by omega,gf]
theorem QV (a b:Int):(sgn a b=0/\a*b=0)\/(sgn a b=1/\0<a*b)\/(sgn a b= -1/\a*b<0):=by
  have h:=R0 a b;by_cases D:a=0
  · subst D;left;simp[sgn]
  · by_cases E:b=0
    · subst E;left;simp[sgn]
    · have I:0<a.natAbs*b.natAbs:=Nat.mul_pos (by omega) (by omega)
      generalize a.natAbs*b.natAbs=p at*;generalize a*b=x at*;unfold sgn at h⊢;rw[ab D,ab E]at h⊢;by_cases G:(a<0↔b<0)
      · rw[aa G]at h⊢;right;left;exact⟨rfl,by omega⟩
      · rw[ab G]at h⊢;right;right;exact⟨rfl,by omega⟩
theorem Qzk {a b c d:Int}:(if sgn a b≠sgn c d then(if sgn a b<sgn c d then-1 else 1)else sgn a b*Dk (a.natAbs*b.natAbs) (c.natAbs*d.natAbs))=EM (a*b) (c*d):=by
  have G:=R0 a b;have I:=R0 c d;have D:=QV a b;have E:=QV c d;unfold EM Dk;generalize a.natAbs*b.natAbs=p at*;generalize c.natAbs*d.natAbs=q at*;generalize a*b=x at*;generalize c*d=y at*;generalize sgn a b=u at*;generalize sgn c d=v at*;rcases D with⟨rfl,g1⟩|⟨rfl,g1⟩|⟨rfl,g1⟩<;>rcases E with⟨rfl,g2⟩|⟨rfl,g2⟩|⟨rfl,g2⟩
  · rw[ab (by simp),ab (show¬x<y by omega),aa (show x=y by omega)];exact Int.zero_mul _
  · rw[aa (by simp),aa,aa]
  · rw[aa (by simp),ab,ab,ab]
  · rw[aa (by simp),ab,ab,ab]
  · rw[ab (by simp)]
    have e1:(p:Int)=x:=by omega
    have e2:(q:Int)=y:=by omega
    by_cases h:x<y
    · rw[aa,aa h];rfl
    · rw[ab,ab h]
      by_cases h':x=y
      · rw[aa,aa h'];rfl
      · rw[ab,ab h'];rfl
  · rw[aa (by simp),ab,ab,ab]
  · rw[aa (by simp),aa,aa]
  · rw[aa (by simp),aa,aa]
  · rw[ab (by simp)]
    have e1:(p:Int)= -x:=by omega
    have e2:(q:Int)= -y:=by omega
    by_cases h:x<y
    · rw[ab,ab,aa h];rfl
    · rw[ab h]
      by_cases h':x=y
      · rw[ab,aa,aa h'];rfl
      · rw[aa,ab h'];rfl
theorem Qud (p:Nat):p/w64*w64+p%w64=p:=by have:=em p w64;rw[cg]at this;exact this
theorem Pk:0<w64:=by rw[A_];omega
theorem Qqt (p q:Nat): -1<=Dk p q/\Dk p q<=1:=by unfold Dk;(repeat' split)<;>omega
theorem Qny (a b:Int): -1<=sgn a b/\sgn a b<=1:=by unfold sgn;(repeat' split)<;>omega
theorem Qzu (D: -1<=u/\u<=1) (E: -1<=v/\v<=1): -1<=u*v/\u*v<=1:=by
  have:u= -1\/u=0\/u=1:=by omega
  rcases this with rfl|rfl|rfl<;>omega
theorem Mf {x y:Nat} (G:x<w64) (I:y<w64):∃E D:Nat,DO [U x,U y]=some [U E,U D]/\E*w64+D=x*y/\D<w64:=
  ⟨_,_,Zi9 G I,Qud _,fv _ Pk⟩
theorem Q3m {a b c d:Int} (M L G N:Fn) (D O E S:Nat)
   (T:G [I a]=some [U a.natAbs]) (V:G [I b]=some [U b.natAbs]) (X:G [I c]=some [U c.natAbs]) (Y:G [I d]=some [U d.natAbs])
   (ks:∀a b,N [I a,I b]=some [I (sgn a b)])
   (e1:L [U a.natAbs,U b.natAbs]=some [U D,U O]) (f1:L [U c.natAbs,U d.natAbs]=some [U E,U S])
   (J:M [U D,U O,U E,U S]=some [I (Dk (a.natAbs*b.natAbs) (c.natAbs*d.natAbs))]):Qic M L G N [I a,I b,I c,I d]=some [I (EM (a*b) (c*d))]:=by
  have hm:=Qzu (Qny a b) (Qqt (a.natAbs*b.natAbs) (c.natAbs*d.natAbs));rw[Q3j];simp only[go_sem,ks,T,V,X,Y,e1,f1,J];rw[<-Qzk];rw[Ae];by_cases D:sgn a b≠sgn c d
  · rw[aa D,aa D]
    by_cases E:sgn a b<sgn c d
    · rw[aa E,aa E]
    · rw[ab E,ab E]
  · rw[ab D,ab D]
theorem Zqm {a b c d:Int} (E:i64 a) (hb:i64 b) (G:i64 c) (J:i64 d):Mg [I a,I b,I c,I d]=some [I (EM (a*b) (c*d))]:=by
  obtain⟨L,M,e1,e2,e3⟩:=Mf (GP E) (GP hb);obtain⟨N,O,S,T,U⟩:=Mf (GP G) (GP J);have D:=Qpa L M N O e3 U;rw[e2,T]at D;unfold Mg;exact Q3m _ _ _ _ _ _ _ _ (H1 E) (H1 hb) (H1 G) (H1 J) U5 e1 S D
theorem eB {α β:Type} {a:Option α} {f:α->Option β} {x:α} {r:Option β} (h:a=some x) (g:f x=r):a.bind f=r:=by rw[h];exact g
theorem eT {α:Type} {c:Bool} {a b r:α} (h:c=true) (g:a=r):cond c a b=r:=by rw[h];exact g
theorem eF {α:Type} {c:Bool} {a b r:α} (h:c=false) (g:b=r):cond c a b=r:=by rw[h];exact g
theorem eC {α:Type} {c:Bool} {a b r:α} (h:c=true->a=r) (g:c=false->b=r):cond c a b=r:=by cases c;exact g rfl;exact h rfl
theorem beF (h:k≠u):(k==u)=false:=by simpa using h
theorem bnF (h:k=u):(k !=u)=false:=by simpa using h
theorem bnT (h:k≠u):(k !=u)=true:=by simpa using h
def Out {α:Type} (p:α->Prop) (a:Option α):Prop:=∃o,a=some o/\p o
theorem Out.is {α:Type} {p:α->Prop} {a:Option α} (h:Out p a):a.isSome=true:=by obtain⟨o,h,_⟩:=h;rw[h];rfl
theorem Out.of {α:Type} {a:Option α} (h:a.isSome=true):Out (λ_=>True) a:=by
 cases a with
 |none=>simp at h
 |some o=>exact⟨o,rfl,trivial⟩
theorem Out.bind {α β:Type} {p:α->Prop} {q:β->Prop} {a:Option α} {f:α->Option β} (h:Out p a) (g:∀o,p o->Out q (f o)):Out q (a.bind f):=by
 obtain⟨o,rfl,h⟩:=h;exact g o h
theorem Out.cond {α:Type} {p:α->Prop} {c:Bool} {a b:Option α} (h:c=true->Out p a) (g:c=false->Out p b):Out p (cond c a b):=by
 cases c
 ·exact g rfl
 ·exact h rfl
theorem Out.some {α:Type} {p:α->Prop} {o:α} (h:p o):Out p (some o):=⟨o,rfl,h⟩
theorem Out.mono {α:Type} {p q:α->Prop} {a:Option α} (h:Out p a) (g:∀o,p o->q o):Out q a:=by obtain⟨o,h,D⟩:=h;exact⟨o,h,g o D⟩
theorem Ztw {S:Type} (enc:S->List AC) (Inv:S->Prop) (m:S->Nat) (Q:Nat×List AC->Prop)
  (h:∀s,Inv s->Out (λo=>(o.1=0/\∃E,o.2=enc E/\Inv E/\m E<m s)\/(o.1≠0/\Q o)) (N (enc s))) (s:S) (I:Inv s):Out Q (An N (enc s)):=by
 obtain ⟨o, G, _, D⟩ := Qo8 (step := N) enc Inv m Q (λs I => by
  obtain⟨o,G,D⟩:=h s I;rcases D with⟨D,E,J,L,M⟩|⟨D,J⟩
  ·refine .inl ⟨E,?_,L,M⟩;rw[G,<-J,<-D]
  ·exact .inr ⟨o,G,D,J⟩) s I
 exact⟨o,G,D⟩
theorem Zj0 [Decidable E] (h:decide E=true):E:=of_decide_eq_true h
theorem Q2 [Decidable E] (h:decide E=false): ¬E:=of_decide_eq_false h
theorem inB {n:Nat} (D:0<=k) (E:k<(n:Int)):(decide (0<=k)&&decide (k<(n:Int)))=false->False:=by
 intro h;rcases Bool.and_eq_false_iff.1 h with c|c
 ·exact Q2 c D
 ·exact Q2 c E
theorem Hu (h:i<=A):Nat.ble i A=true:=ef h
theorem Zgn (a b c:Int):LK [I a,I b,I c]=some [B (decide (1<=a/\a<=65536/\2<=b/\b<=65536/\1<=c/\c<=16777216))]:=by
 unfold LK;rw[Zt1];by_cases D:1<=a<;>by_cases E:a<=65536<;>by_cases G:2<=b<;>by_cases J:b<=65536<;>by_cases L:1<=c<;>by_cases M:c<=16777216<;>simp[D,E,G,J,L,M]
theorem Zqz (h:2^(j+1)*i+2^j<w64):wrap .u64 (((BitVec.ofInt IntKind.u64.bits ((2^(j+1)*i:Nat):Int)|||BitVec.ofInt IntKind.u64.bits ((2^j:Nat):Int)).toNat:Nat):Int)=((2^(j+1)*i+2^j:Nat):Int):=by
 rw[A_]at h;have e:(BitVec.ofInt IntKind.u64.bits ((2^(j+1)*i:Nat):Int)|||BitVec.ofInt IntKind.u64.bits ((2^j:Nat):Int)).toNat=2^(j+1)*i+2^j:=by
  rw[BitVec.toNat_or];have e1:∀v:Nat,v<18446744073709551616->(BitVec.ofInt IntKind.u64.bits (v:Int)).toNat=v:=by
   intro v G;simp only[IntKind.bits,fw];omega
  have D:0<2^j:=dw _;generalize E:2^(j+1)*i=A at*;rw[e1 _ (by omega),e1 _ (by omega),<-E];exact(ig (Nat.pow_lt_pow_right (by omega) (by omega)) i).symm
 rw[e,BO (by omega)]
theorem Qkx (k:Nat):((2^(k+1):Nat):Int).fdiv (2^min (Int.toNat 1) IntKind.u64.bits)=((2^k:Nat):Int):=by
 have e:(2^min (Int.toNat 1) IntKind.u64.bits:Int)=2:=rfl;rw[e,dp _ (by omega),dx];omega
theorem Qtd:(1:Int).fdiv (2^min (Int.toNat 1) IntKind.u64.bits)=0:=rfl
theorem Qoa (O:∀x y:Nat,x<w64->y<w64->∃hi D:Nat,Z [U x,U y]=some [U hi,U D]/\hi*w64+D=x*y/\D<w64)
  (S:∀a b c d:Nat,b<w64->d<w64->M [U a,U b,U c,U d]=some [I (Dk (a*w64+b) (c*w64+d))]) {k m hi D:Nat} {bit:Int} (J:D<w64) (hb:((2^k:Nat):Int).fdiv (2^min (Int.toNat 1) IntKind.u64.bits)=bit) (h:2^(k+1)*m+2^k<w64):
  JL M Z [U ((2^(k+1)*m:Nat):Int),U ((2^k:Nat):Int),U hi,U D]=
   some (0,[U (((if(2^(k+1)*m+2^k)*(2^(k+1)*m+2^k)<=hi*w64+D then 2^(k+1)*m+2^k else 2^(k+1)*m):Nat):Int),U bit,U hi,U D]):=by
 obtain⟨G,T,e1,e2,e3⟩:=O _ _ h h;have E:=S G T hi D e3 J;rw[e2]at E;have L:0<2^k:=dw _;rw[Qz5,Zqz h,hb];simp only[go_sem,e1,E];rw[aa];generalize(2^(k+1)*m+2^k)*(2^(k+1)*m+2^k)=q at*;unfold Dk;by_cases G:q<hi*w64+D
 ·rw[aa G,aa,aa]
 ·rw[ab G];by_cases N:q=hi*w64+D
  ·rw[aa N,aa,aa]
  ·rw[ab N,ab,ab]
theorem Yo {N O:Fn} (J:∀x y:Nat,x<w64->y<w64->∃hi lo:Nat,O [U x,U y]=some [U hi,U lo]/\hi*w64+lo=x*y/\lo<w64)
  (L:∀a b c d:Nat,b<w64->d<w64->N [U a,U b,U c,U d]=some [I (Dk (a*w64+b) (c*w64+d))]) {hi lo:Nat} (D:lo<w64):∀(k m:Nat),2^(k+1)*m+2^(k+1)<=w64->
  (2^(k+1)*m)*(2^(k+1)*m)<=hi*w64+lo->hi*w64+lo<(2^(k+1)*m+2^(k+1))*(2^(k+1)*m+2^(k+1))->
  ∃r:Nat,An (JL N O) [U ((2^(k+1)*m:Nat):Int),U ((2^k:Nat):Int),U hi,U lo]=some (1,[U r])/\r*r<=hi*w64+lo/\hi*w64+lo<(r+1)*(r+1)/\r<w64
 |0,m,V,M,S=>by
  have T:=Qoa J L (k:=0) (m:=m) (hi:=hi) (bit:=0) D Qtd (by simp at V⊢;omega);rw[AR T];have E:∀r:Nat,An (JL N O) [U (r:Int),U 0,U hi,U lo]=some (1,[U r]):=by
   intro r;refine AG ?_ (by simp);rw[Qz5];simp only[go_sem];rw[ab]
  simp only[dl,Nat.pow_one,Nat.pow_zero]at*;by_cases h:(2*m+1)*(2*m+1)<=hi*w64+lo
  ·rw[aa h,E];exact⟨_,rfl,h,S,by omega⟩
  ·rw[ab h,E];exact⟨_,rfl,M,by omega,by omega⟩
 |k+1,m,V,M,S=>by
  have e1:2^(k+1+1)*m=2^(k+1)*(2*m):=by rw[dx 2 (k+1),dq]
  have e2:2^(k+1+1)*m+2^(k+1)=2^(k+1)*(2*m+1):=by rw[e1,gw,Nat.mul_one]
  have e3:2^(k+1+1)=2^(k+1)+2^(k+1):=by rw[dx 2 (k+1)];omega
  have X:0<2^(k+1):=dw _;have T:=Qoa J L (k:=k+1) (m:=m) (hi:=hi) (bit:=((2^k:Nat):Int)) D (Qkx k) (by omega);rw[AR T];by_cases h:(2^(k+1+1)*m+2^(k+1))*(2^(k+1+1)*m+2^(k+1))<=hi*w64+lo
  ·rw[aa h,e2];rw[e2]at h;refine Yo J L D k (2*m+1) ?_ h ?_
   ·rw[<-e2];omega
   ·rw[<-e2];rw[show 2^(k+1+1)*m+2^(k+1)+2^(k+1)=2^(k+1+1)*m+2^(k+1+1) by omega];exact S
  ·rw[ab h];have Y:hi*w64+lo<(2^(k+1+1)*m+2^(k+1))*(2^(k+1+1)*m+2^(k+1)):=by omega
   have G:2^(k+1+1)*m+2^(k+1)<=w64:=by omega
   rw[e1]at M Y G⊢;exact Yo J L D k (2*m) G M Y
theorem Zit (L:∀x y:Nat,x<w64->y<w64->∃hi lo:Nat,Z [U x,U y]=some [U hi,U lo]/\hi*w64+lo=x*y/\lo<w64)
  (O:∀a b c d:Nat,b<w64->d<w64->M [U a,U b,U c,U d]=some [I (Dk (a*w64+b) (c*w64+d))]) {hi lo:Nat} (D:hi<w64) (E:lo<w64):
  ∃r:Nat,XY M Z (An (JL M Z)) [U hi,U lo]=some [U r]/\r*r<=hi*w64+lo/\hi*w64+lo<(r+1)*(r+1)/\r<w64:=by
 have hb:hi*w64+lo<w64*w64:=by
  have:hi*w64+w64<=w64*w64:=by rw[<-fu];exact be _ D
  omega
 obtain⟨r,J,S,T,V⟩:=Yo L O (hi:=hi) (lo:=lo) E 63 0 (by rw[A_];omega) (by simp) (by rw[Nat.mul_zero,dl,show 2^(63+1)=w64 by rw[A_]];exact hb);refine⟨r,?_,S,T,V⟩;rw[Nat.mul_zero]at J;generalize An (JL M Z)=N at*;have G:N [AC.int IntKind.u64 0,AC.int IntKind.u64 9223372036854775808,AC.int IntKind.u64 hi,AC.int IntKind.u64 lo]=some (1,[U r]):=J;rw[Zsm,G];simp only[go_sem]
theorem Q21 {hi lo:Nat} (D:hi<w64) (E:lo<w64):∃r:Nat,Id [U hi,U lo]=some [U r]/\r*r<=hi*w64+lo/\hi*w64+lo<(r+1)*(r+1)/\r<w64:=
 Zit (λ_ _ G I=>Mf G I) Qpa D E
theorem Z3 {n:Nat} (h:n<9223372036854775808):Eu [U n,B false]=some [I n,B true]:=by
 unfold Eu;rw[Q1h];simp only[go_sem];rw[ab (by simp),aa (by simp),aa,Ae]
theorem Zfm {x y b:Nat} (G:x<w64) (I:y<w64) (hb:b=0\/b=1):G4 [U x,U y,U b]=some [U (((x:Int)-y-b)%ET),U (if x<y+b then 1 else 0)]:=by
 rw[A_]at G I;have D:ET=18446744073709551616:=rfl;have J:∀z:Nat,z<18446744073709551616->inU (z:Int)=true:=by
  intro z L;simp only[inU,D,al,bp];omega
 have E:(decide ((b:Int)=0)||decide ((b:Int)=1))=true:=by
  rcases hb with rfl|rfl<;>simp
 unfold G4;simp only[E0,IT,IF,ER,gA,jA,wA,bA];rw[J x G,J y I,E];by_cases h:x<y+b
 ·rw[aa h,B6 (p:=(x:Int)<y+b) (by omega)];simp
 ·rw[ab h,AM (p:=(x:Int)<y+b) (by omega)];simp
theorem Qt7 {x y:Nat} (E:x<w64) (G:y<=x):G4 [U x,U y,U 0]=some [U ((x-y:Nat):Int),U 0]:=by
 have:=Zfm (x:=x) (y:=y) (b:=0) E (by omega) (.inl rfl);have D:ET=18446744073709551616:=rfl;rw[A_]at E;rw[ab,D,show((x:Int)-y-((0:Nat):Int))%18446744073709551616=((x-y:Nat):Int) by omega]at this;exact this
theorem Zgu {n r:Nat} (V:n<9223372036854775807) (L:r*r<=n) (N:W [U 0,U n]=some [U r]) (O:Y [U r,U r]=some [U 0,U ((r*r:Nat):Int)]) (E:Z [U n,U ((r*r:Nat):Int),U 0]=some [U ((n-r*r:Nat):Int),U 0])
  (G:Z [U 0,U 0,U 0]=some [U 0,U 0]) (J:∀k:Nat,k<9223372036854775808->M [U k,B false]=some [I k,B true]) (D:u=1\/u=2):
  UQ M Z Y W [U 0,U n,I u]=some [I ((if(u=1/\r*r<n)\/(u=2/\r*r+r<n)then r+1 else r:Nat):Int),B true]:=by
 have S:r<=r*r:=by
  rcases dn r with h|h
  ·subst h;simp
  ·exact Nat.le_mul_of_pos_left r h
 have T:wrap .u64 ((r:Int)+1)=((r+1:Nat):Int):=by rw[BO (by omega)];omega
 have s1:=J r (by omega);have s2:=J (r+1) (by omega);rw[Zll];simp only[go_sem,N,O,E,G,T,s1,s2];rcases D with rfl|rfl
 ·rw[aa rfl,ab];by_cases h:r*r<n
  ·rw[aa,aa]
  ·rw[ab,ab,ab]
 ·rw[ab,aa rfl,ab];by_cases h:r*r+r<n
  ·rw[aa,aa]
  ·rw[ab,ab]
theorem Q7k {n:Nat} (J:n<9223372036854775807) (D:Z [I u]=some [B true]) (E:M [U 0,U n,I u]=some [I k,B true]):Wy M Z [I n,I u]=some [I k,B true]:=by
 have G:wrap .u64 (n:Int)=(n:Int):=BO (by omega);rw[Zn7];simp only[go_sem,D,G,E];rw[ab,ab (by simp)]
theorem Qc9 (h:k=0\/k=1\/k=2):Fm [I k]=some [B true]:=by
 unfold Fm;rw[Zji];rcases h with rfl|rfl|rfl<;>rfl
theorem Qoy {n:Nat} {mode:Int} (O:n<9223372036854775807) (D:mode=1\/mode=2):
  ∃r:Nat,Ht [I n,I mode]=some [I ((if(mode=1/\r*r<n)\/(mode=2/\r*r+r<n)then r+1 else r:Nat):Int),B true]/\r*r<=n/\n<(r+1)*(r+1):=by
 have E:n<w64:=by rw[A_];omega
 obtain⟨r,V,L,S,T⟩:=Q21 (hi:=0) (lo:=n) Pk E;rw[gc,dl]at L S;obtain⟨G,J,e1,e2,e3⟩:∃G J:Nat,FK [U r,U r]=some [U G,U J]/\G*w64+J=r*r/\J<w64:=⟨_,_,Qyy T T,Qud _,fv _ Pk⟩;have M:G=0:=by
  rcases dn G with h|h
  ·exact h
  ·have:=be w64 h;omega
 subst M;have N:J=r*r:=by omega
 subst N;have z:=Qt7 (x:=0) (y:=0) Pk (cq _);refine⟨r,?_,L,S⟩;exact Q7k O (Qc9 (.inr D)) (Zgu O L V e1 (Qt7 E L) z (λk X=>Z3 X) D)
def C9 (a b:Int):Int:=(2*a+b)/(2*b)
theorem JC (hb:0<v) (D:k*(2*v)<=2*u+v) (E:2*u+v<(k+1)*(2*v)):C9 u v=k:=by
 unfold C9;have g1:k<=(2*u+v)/(2*v):=(Int.le_ediv_iff_mul_le (by omega)).2 D;have g2:(2*u+v)/(2*v)<k+1:=(Int.ediv_lt_iff_lt_mul (by omega)).2 E;omega
theorem Qyx (hb:0<v/\v<=1152921504606846976) (D:u.natAbs<=2305843009213693952):E2 [I u,I v]=some [I (C9 u v)]:=by
 unfold E2;rw[Q69,Ae (x:=2*u),Ae (x:=2*u+v),Ae (x:=2*v)];have E:=Int.tmod_add_mul_tdiv (2*u+v) (2*v);have G:=Int.tmod_lt_of_pos (2*u+v) (show 0<2*v by omega);have J:=Int.lt_tmod_of_pos (2*u+v) (show 0<2*v by omega);have L:((2*u+v).tdiv (2*v)).natAbs<=(2*u+v).natAbs:=by rw[Int.natAbs_tdiv];exact f0 _ _
 generalize M:(2*u+v).tdiv (2*v)=q at*;generalize(2*u+v).tmod (2*v)=r at*;have e1:2*v*q=q*(2*v):=iv _ _;rw[AM (by omega),AM (by omega),Ae (x:=q)];by_cases h:r<0
 ·rw[B6 h,Ae,JC (k:=q-1) hb.1]
  ·rw[Int.sub_mul];omega
  ·rw[Int.sub_add_cancel];omega
 ·rw[AM h,JC (k:=q) hb.1]
  ·omega
  ·rw[il];omega
theorem Qzp {p c:Nat} (D:p<w64) (I:0<c):FG [U 0,U p,U c]=some [U ((p/c:Nat):Int),U ((p%c:Nat):Int)]:=by
 rw[A_]at D;have E:(p:Int).tdiv (c:Int)=((p/c:Nat):Int):=by rw[dh (by omega)];simp
 have G:(p:Int).tmod (c:Int)=((p%c:Nat):Int):=by rw[gi (by omega)];simp
 have J:p/c<=p:=f0 _ _;unfold FG;generalize Ge=M;generalize RG=L;generalize Qa1=N;rw[Qr0];rw[Es (by simp;omega),AM (by omega),Dv (by simp),AM (by omega),AM (by omega),E,G];generalize p/c=q at*;rw[BO (by omega)]
theorem Q08 (more:Int) (some_ neg:Bool):Hl [I 2,I more,B some_,B neg]=some [B (if more>0 then true else if more=0 then !neg else false)]:=by
 unfold Hl;rw[Zga];simp only[go_sem];rw[ab,ab]
 repeat' split
 all_goals rfl
theorem Qn3 {n:Nat} (h:n<=9223372036854775808):Eu [U n,B true]=some [I (-(n:Int)),B true]:=by
 unfold Eu;rw[Q1h];simp only[go_sem];rw[aa,Jq,Qrc];have:((0-(n:Int))%18446744073709551616+9223372036854775808)%18446744073709551616-9223372036854775808= -(n:Int):=by omega
 rw[this]
def F6 (q r c:Nat) (neg:Bool):Nat:=if r>c-r then q+1 else if r<c-r then q else if neg then q else q+1
theorem Zuu {M1 M2 M3 M4 M5 M6 M7:Fn} {a b s:Int} {A C p q r c:Nat} (L:0<c) (M:c<9223372036854775808) (hr:r<c) (hq:q<9223372036854775807)
  (N:M7 [I 2]=some [B true]) (O:M6 [I a]=some [U A]) (S:M6 [I b]=some [U C]) (T:M6 [I c]=some [U c]) (V:M5 [U A,U C]=some [U 0,U p]) (X:M4 [U 0,U p,U c]=some [U q,U r]) (Y:M3 [I a,I b]=some [I s])
  (k8:∀(more:Int) (some_ neg:Bool),M2 [I 2,I more,B some_,B neg]=some [B (if more>0 then true else if more=0 then !neg else false)])
  (G:∀k:Nat,k<9223372036854775808->M1 [U k,B false]=some [I k,B true]) (D:∀k:Nat,k<9223372036854775808->M1 [U k,B true]=some [I (-(k:Int)),B true]):
  XQ M1 M2 M3 M4 M5 M6 M7 [I a,I b,I c,I 2]=some [I (if s<0 then-(F6 q r c true:Int)else(F6 q r c false:Int)),B true]:=by
 have w1:wrap .u64 ((c:Int)-(r:Int))=((c-r:Nat):Int):=by rw[BO (by omega)];omega
 have w2:wrap .u64 ((q:Int)+1)=((q+1:Nat):Int):=by rw[BO (by omega)];omega
 have n1:=G q (by omega);have n2:=G (q+1) (by omega);rw[Zq0];simp only[go_sem,N,O,S,T,V,X,Y,k8,w1,w2,n1,n2];rw[ab,ab (by simp),ab];by_cases J:s<0
 ·rw[aa J];rw[aa (show¬(s<0↔(c:Int)<0) by omega)];have E:(s !=0)=true:=by simp;omega
  rw[E];unfold F6;by_cases g1:r>c-r
  ·rw[aa g1];rw[aa (show(r:Int)>((c-r:Nat):Int) by omega),aa (by decide),ab (show¬((q+1:Nat):Int)=0 by omega),D (q+1) (by omega)];simp only[go_sem]
  ·rw[ab g1];rw[ab (show¬(r:Int)>((c-r:Nat):Int) by omega)];by_cases g2:r<c-r
   ·rw[aa g2];rw[aa (show(r:Int)<((c-r:Nat):Int) by omega),ab (by decide),D q (by omega)];simp only[go_sem]
   ·rw[ab g2,aa rfl];rw[ab (show¬(r:Int)<((c-r:Nat):Int) by omega),ab (by decide),D q (by omega)];simp only[go_sem]
 ·rw[ab J];rw[ab (show¬¬(s<0↔(c:Int)<0) by omega)];unfold F6;by_cases g1:r>c-r
  ·rw[aa g1,aa (show(r:Int)>((c-r:Nat):Int) by omega),aa (by decide),ab (show¬((q+1:Nat):Int)=0 by omega)]
  ·rw[ab g1,ab (show¬(r:Int)>((c-r:Nat):Int) by omega)];by_cases g2:r<c-r
   ·rw[aa g2,aa (show(r:Int)<((c-r:Nat):Int) by omega),ab (by decide)]
   ·rw[ab g2,ab (show¬(r:Int)<((c-r:Nat):Int) by omega),aa (by decide),ab (show¬((q+1:Nat):Int)=0 by omega),ab (by decide)]
theorem Zq5 (q r c:Nat):F6 q r c false=if r<c-r then q else q+1:=by
 unfold F6;by_cases E:r>c-r
 ·rw[aa E,ab]
 ·rw[ab E];by_cases D:r<c-r
  ·rw[aa D,aa D]
  ·rw[ab D,ab D,ab (by simp)]
theorem Zvg (q r c:Nat):F6 q r c true=if r>c-r then q+1 else q:=by
 unfold F6;by_cases D:r>c-r
 ·rw[aa D,aa D]
 ·rw[ab D,ab D];by_cases E:r<c-r
  ·rw[aa E]
  ·rw[ab E,aa rfl]
theorem Qxx {p q r c:Nat} (I:0<c) (h:p=c*q+r) (J:r<c):C9 p c=F6 q r c false:=by
 have e:(p:Int)=(c:Int)*q+r:=by rw[h];simp
 have e3:(q:Int)*(2*c)=2*((c:Int)*q):=by grind
 have D:((q+1:Nat):Int)*(2*c)=2*((c:Int)*q)+2*c:=by grind
 have E:((q:Int)+1)*(2*c)=2*((c:Int)*q)+2*c:=by grind
 have G:(((q+1:Nat):Int)+1)*(2*c)=2*((c:Int)*q)+4*c:=by grind
 rw[Zq5];by_cases g:r<c-r
 ·rw[aa g];exact JC (by omega) (by rw[e3];omega) (by rw[E];omega)
 ·rw[ab g];exact JC (by omega) (by rw[D];omega) (by rw[G];omega)
theorem Zfp {p q r c:Nat} (I:0<c) (h:p=c*q+r) (J:r<c):C9 (-(p:Int)) c= -(F6 q r c true:Int):=by
 have e:(p:Int)=(c:Int)*q+r:=by rw[h];simp
 have e3: -(q:Int)*(2*c)= -(2*((c:Int)*q)):=by grind
 have D: -((q+1:Nat):Int)*(2*c)= -(2*((c:Int)*q))-2*c:=by grind
 have E:(-(q:Int)+1)*(2*c)= -(2*((c:Int)*q))+2*c:=by grind
 have G:(-((q+1:Nat):Int)+1)*(2*c)= -(2*((c:Int)*q)):=by grind
 rw[Zvg];by_cases g:r>c-r
 ·rw[aa g];exact JC (by omega) (by rw[D];omega) (by rw[G];omega)
 ·rw[ab g];exact JC (by omega) (by rw[e3];omega) (by rw[E];omega)
theorem Y8 {a b c:Int} (T:i64 a) (hb:i64 b) (hc:0<c/\c<9223372036854775808) (hp:a.natAbs*b.natAbs<9223372036854775807):Ee [I a,I b,I c,I 2]=some [I (C9 (a*b) c),B true]:=by
 obtain⟨U,E,e1,e2,e3⟩:=Mf (GP T) (GP hb);have M:=R0 a b;have X:=QV a b;have Y:a*b=0->a.natAbs*b.natAbs=0:=λh=>by rw[<-Int.natAbs_mul,h];rfl
 generalize a.natAbs*b.natAbs=p at*;have N:U=0:=by
  rcases dn U with h|h
  ·exact h
  ·have:=be w64 h;have:=A_;omega
 subst N;have O:E=p:=by omega
 subst O;obtain⟨n,rfl⟩:=bj (show 0<=c by omega);have G:0<n:=by omega
 have S:=em E n;have L:=fv E G;have h3:E/n<=E:=f0 _ _;have hd:=Qzp e3 G;have J:=H1 (x:=(n:Int)) (by unfold i64;omega);rw[gq]at J;generalize E/n=q at*;generalize E%n=r at*;have D:=Zuu (M1:=Eu) (M2:=Hl) (M3:=Fp) (M4:=FG) (M5:=DO) (M6:=Fj) (M7:=Fm) G (by omega) L (by omega)
  (Qc9 (.inr (.inr rfl))) (H1 T) (H1 hb) J e1 hd (U5 a b) Q08 (λk V=>Z3 V) (λk V=>Qn3 (by omega))
 have hv:(if sgn a b<0 then-(F6 q r n true:Int)else(F6 q r n false:Int))=C9 (a*b) n:=by
  rcases X with⟨g1,g2⟩|⟨g1,g2⟩|⟨g1,g2⟩
  ·rw[ab,g2];rw[g1]at M;have:E=0:=Y g2;rw[<-Qxx G S.symm L,this];rfl
  ·rw[ab,<-Qxx G S.symm L,<-M,g1,gf]
  ·rw[aa,<-Zfp G S.symm L,<-M,g1,Int.neg_mul,gf]
 rw[hv]at D;exact D
abbrev uR (n:Nat):List AC:=[U n]
abbrev kUs:List Kd:=[kU]
def val:List Nat->Nat
 |[]=>0
 |d::l=>d+65536*val l
def Dig (l:List Nat):Prop:=∀d∈l,d<65536
def Cut (l:List Nat):Prop:=∀h:l≠[],l.getLast h≠0
theorem Qxk (v:Nat) (h:v<w64):wrap .u64 (((BitVec.ofInt IntKind.u64.bits (v:Int)&&&BitVec.ofInt IntKind.u64.bits 65535).toNat:Nat):Int)=((v%65536:Nat):Int):=by
 rw[A_]at h;have e:(BitVec.ofInt IntKind.u64.bits (v:Int)&&&BitVec.ofInt IntKind.u64.bits 65535).toNat=v%65536:=by
  rw[BitVec.toNat_and];have e1:(BitVec.ofInt IntKind.u64.bits (v:Int)).toNat=v:=by
   simp only[IntKind.bits,fw];omega
  have e2:(BitVec.ofInt IntKind.u64.bits 65535).toNat=2^16-1:=by
   simp only[IntKind.bits,fw];rfl
  rw[e1,e2,Nat.and_two_pow_sub_one_eq_mod]
 rw[e,BO (by omega)]
theorem Qq8 (v:Nat):(v:Int).fdiv (2^min (Int.toNat 16) IntKind.u64.bits)=((v/65536:Nat):Int):=by
 have e:(2^min (Int.toNat 16) IntKind.u64.bits:Int)=65536:=rfl;rw[e,dp _ (by omega)];omega
def FJ (n:Nat):List Nat:=if h:n=0 then []else n%65536::FJ (n/65536)
termination_by n
decreasing_by omega
theorem Nz:FJ 0=[]:=by unfold FJ;simp
theorem Rd {n:Nat} (h:n≠0):FJ n=n%65536::FJ (n/65536):=by rw[FJ,dif_neg h]
theorem Qld (n:Nat):val (FJ n)=n:=by
 induction n using Nat.strongRecOn with
 |_ n D=>
  by_cases h:n=0
  ·subst h;rw[Nz];rfl
  ·rw[Rd h,val,D _ (by omega)];omega
theorem Qnn (n:Nat):Dig (FJ n):=by
 induction n using Nat.strongRecOn with
 |_ n E=>
  by_cases h:n=0
  ·subst h;rw[Nz];intro d D;simp at D
  ·rw[Rd h];intro d D;simp only[az]at D;rcases D with rfl|D
   ·omega
   ·exact E _ (by omega) d D
theorem Qjk (k:Nat):∀n,n<65536^k->(FJ n).length<=k:=by
 induction k with
 |zero=>intro n h;simp at h;subst h;rw[Nz];simp
 |succ k E=>
  intro n h;by_cases D:n=0
  ·subst D;rw[Nz];simp
  ·rw[Rd D];have:=E (n/65536) (by rw[dx]at h;exact Nat.div_lt_of_lt_mul (by rw[cg];exact h));simp;omega
theorem Zoz (l:List Nat) (d:Nat):l.map uR++[[AC.int IntKind.u64 (d:Int)]]=(l++[d]).map uR:=by simp
theorem Zsx (n:Nat):∀(acc:List Nat),n<w64->acc.length+(FJ n).length<=1000->Oo [.vC kUs (acc.map uR),U n]=some (1,[.vC kUs ((acc++FJ n).map uR)]):=by
 induction n using Nat.strongRecOn with
 |_ n G=>
  intro acc I E;unfold Oo;by_cases h:n=0
  ·subst h;rw[Nz,List.append_nil];refine AG ?_ (by simp);rw[Qyc];simp
  ·rw[Rd h]at E⊢;have D:Yk [.vC kUs (acc.map uR),U n]=some (0,[.vC kUs ((acc++[n%65536]).map uR),U ((n/65536:Nat):Int)]):=by
    rw[Qyc,Qxk n I,Qq8];simp only[go_sem];rw[aa,Zoz,aa (by simp at E⊢;omega)]
   rw[AR D];have:=G (n/65536) (by omega) (acc++[n%65536]) (by omega) (by simp at E⊢;omega);unfold Oo at this;rw[this,f6];rfl
theorem Qhh:w64=65536^4:=by rw[A_]
theorem Qzi {n:Nat} (h:n<w64):K1 [U n]=some [.vC kUs ((FJ n).map uR)]:=by
 have D:=Qjk 4 n (by rw[<-Qhh];exact h);have:=Zsx n [] h (by simp;omega);unfold K1;rw[Q32];simp only[cm,ay]at this;rw[this];rfl
theorem WX:∀(a b:List Nat),val (a++b)=val a+65536^a.length*val b
 |[],b=>by simp[val]
 |d::a,b=>by
  simp only[aq,val,bf,dx,WX a b];rw[gw,cg (65536^a.length) 65536,dq];omega
theorem Uv:∀{l:List Nat},Dig l->val l<65536^l.length
 |[],_=>by simp[val]
 |d::l,h=>by
  have E:=h d (by simp);have G:=Uv (l:=l) λx D=>h x (by simp[D]);simp only[val,bf,dx];omega
theorem Qo5:∀{l:List Nat},Cut l->(h:l≠[])->65536^(l.length-1)<=val l
 |[],_,h=>absurd rfl h
 |[d],D,_=>by have:=D (by simp);simp[val]at this⊢;omega
 |d::e::l,D,_=>by
  have:=Qo5 (l:=e::l) (λh=>by have:=D (by simp);rw[List.getLast_cons h]at this;exact this) (by simp);simp only[val,bf]at this⊢;simp only[Nat.add_sub_cancel]at this⊢;rw[dx];omega
theorem Dig.sub {l m:List Nat} (h:Dig l) (D:∀d∈m,d∈l):Dig m:=λd E=>h d (D d E)
theorem Qla:∀(n:Nat) (l:List Nat),l.length=n->n<=1000->Dig l->∃c:List Nat,LG [.vC kUs (l.map uR)]=some (1,[.vC kUs (c.map uR)])/\val c=val l/\Dig c/\Cut c/\c.length<=l.length
 |0,l,M,_,J=>by
  have:l=[]:=cz M;subst this;refine⟨[],?_,rfl,J,λh=>absurd rfl h,cq _⟩;unfold LG;refine AG ?_ (by simp);rw[Q1z];simp
 |n+1,l,M,Y,J=>by
  have S:O ((l.map uR).length-1:Int)=(n:Int):=by rw[Ae (by simp;omega)];simp;omega
  have G:nth [] (l.map uR) n=uR (l[n]'(by omega)):=DF uR [] l n (by omega);have E:l=l.take n++[l[n]'(by omega)]:=by
   have:=List.take_append_drop n l;rw[L0 l n (by omega),du (by omega)]at this;exact this.symm
  have D:Qfa [.vC kUs (l.map uR)]=if l[n]'(by omega)=0 then some (0,[.vC kUs ((l.take n).map uR)])else some (1,[.vC kUs (l.map uR)]):=by
   rw[Q1z,S];simp only[ag,G];simp only[go_sem,i7];rw[aa (by simp;omega),aa (by simp;omega)];by_cases I:l[n]'(by omega)=0
   ·rw[aa,aa (by simp;omega),aa I]
   ·rw[ab,ab I]
  by_cases I:l[n]'(by omega)=0
  ·rw[aa I]at D;obtain⟨c,N,T,U,V,X⟩:=Qla n (l.take n) (by simp;omega) (by omega) (J.sub λd h=>d7 h);refine⟨c,?_,?_,U,V,by simp at X;omega⟩
   ·unfold LG at N⊢;rw[AR D];exact N
   ·rw[T]
    conv=>rhs;rw[E,WX,I]
    simp[val]
  ·rw[ab I]at D;refine⟨l,?_,rfl,J,λL=> ?_,cq _⟩
   ·unfold LG;exact AG D (by simp)
   ·have:l.getLast L=l[n]'(by omega):=by rw[List.getLast_eq_getElem];congr 1;omega
    rw[this];exact I
theorem Zp3 {l:List Nat} (D:l.length<=1000) (E:Dig l):∃c:List Nat,IP [.vC kUs (l.map uR)]=some [.vC kUs (c.map uR)]/\val c=val l/\Dig c/\Cut c/\c.length<=l.length:=by
 obtain⟨c,G,I⟩:=Qla _ l rfl D E;refine⟨c,?_,I⟩;unfold IP;rw[Q9a,G];rfl
theorem Qf (l:List Nat) (k:Nat) (h:k<l.length):val (l.take (k+1))=val (l.take k)+65536^k*l[k]:=by
 rw[List.take_succ_eq_append_getElem h,WX];simp[val,Nat.min_eq_left (Nat.le_of_lt h)]
theorem Qo0 {l:List Nat} (D:Dig l) (k:Nat) (h:k<=l.length):val (l.take k)<65536^k:=by
 have:=Uv (D.sub (m:=l.take k) λd h=>d7 h);simpa [Nat.min_eq_left h]using this
theorem Q1d {p q a b P:Nat} (G:p<P) (D:a<b):p+P*a<q+P*b:=by
 have E:P*(a+1)<=P*b:=ii P D;rw[gw]at E;omega
theorem Qtl {a b:List Nat} (J:a.length=b.length) (M:Dig a) (hb:Dig b) (S:a.length<=1000):∀k,k<=a.length->
  OG [.vC kUs (a.map uR), .vC kUs (b.map uR),I ((k:Int)-1)]=if val (a.take k)=val (b.take k)then some (2,[])else some (1,[I (Dk (val (a.take k)) (val (b.take k)))])
 |0,_=>by
  unfold OG;rw[aa (by simp)];refine AG ?_ (by simp);rw[Q05];simp only[go_sem];rw[ab]
 |k+1,X=>by
  have e1:nth [] (a.map uR) k=uR (a[k]'(by omega)):=DF uR [] a k (by omega);have e2:nth [] (b.map uR) k=uR (b[k]'(by omega)):=DF uR [] b k (by omega);have D:Sh [.vC kUs (a.map uR), .vC kUs (b.map uR),I (((k+1:Nat):Int)-1)]=
    if a[k]'(by omega)<b[k]'(by omega)then some (1,[I (-1)])else if a[k]'(by omega)>b[k]'(by omega)then some (1,[I 1])else some (0,[.vC kUs (a.map uR), .vC kUs (b.map uR),I ((k:Int)-1)]):=by
   rw[show(((k+1:Nat):Int)-1)=(k:Int) by omega,Q05];simp only[ag,e1,e2];simp only[go_sem];rw[aa,aa (by simp;omega),aa (by simp;omega),Ae];by_cases E:a[k]'(by omega)<b[k]'(by omega)
   ·rw[aa,aa E]
   ·rw[ab,ab E,aa (by simp;omega),aa (by simp;omega)];by_cases G:a[k]'(by omega)>b[k]'(by omega)
    ·rw[aa,aa G]
    ·rw[ab,ab G]
  have N:=Qtl J M hb S k (by omega);unfold OG at N⊢;rw[Qf a k (by omega),Qf b k (by omega)];have T:=Qo0 M k (by omega);have U:=Qo0 hb k (by omega);by_cases E:a[k]'(by omega)<b[k]'(by omega)
  ·rw[aa E]at D;have:=Q1d (q:=val (b.take k)) T E;rw[AG D (by simp),ab];unfold Dk;rw[aa this]
  ·rw[ab E]at D;by_cases G:a[k]'(by omega)>b[k]'(by omega)
   ·rw[aa G]at D;have:=Q1d (q:=val (a.take k)) U G;rw[AG D (by simp),ab];unfold Dk;rw[ab,ab]
   ·rw[ab G]at D;have V:a[k]'(by omega)=b[k]'(by omega):=by omega
    rw[AR D,N,V];by_cases L:val (a.take k)=val (b.take k)
    ·rw[aa L,aa]
    ·rw[ab L,ab];unfold Dk;by_cases O:val (a.take k)<val (b.take k)
     ·rw[aa O,aa]
     ·rw[ab O,ab L,ab,ab]
theorem Zcc {a b:List Nat} (E:Dig a) (hb:Dig b) (J:Cut a) (G:Cut b) (L:a.length<=1000):
  Kt [.vC kUs (a.map uR), .vC kUs (b.map uR)]=some [I (Dk (val a) (val b))]:=by
 unfold Kt;rw[Zhh];by_cases D:a.length=b.length
 ·have:=Qtl D E hb L a.length (cq _);rw[fo,D,fo]at this;have M:O (((a.map uR).length:Int)-1)=(b.length:Int)-1:=by rw[Ae (by simp;omega)];simp;omega
  rw[M,this];simp only[go_sem];rw[ab (by simp;omega)];by_cases h:val a=val b
  ·rw[aa h];simp[Dk,h]
  ·rw[ab h];simp only[go_sem,dc]
 ·simp only[go_sem];rw[aa (by simp;omega)];have key:∀{a b:List Nat},Dig a->Cut b->a.length<b.length->val a<val b:=by
   intro a b E G h;have N:=Uv E;have S:=Qo5 G (by intro e;subst e;simp at h);have T:65536^a.length<=65536^(b.length-1):=Nat.pow_le_pow_right (by omega) (by omega);omega
  unfold Dk;by_cases h:a.length<b.length
  ·have:=key E G h;rw[aa (by simp;omega),aa this]
  ·have:=key hb J (by omega);rw[ab (by simp;omega),ab,ab]
theorem SP:∀(l:List Nat) (j:Nat) (h:j<l.length) (d:Nat),val (l.set j d)+65536^j*l[j]=val l+65536^j*d
 |[],j,h,d=>by simp at h
 |x::l,0,h,d=>by simp[val];omega
 |x::l,j+1,h,d=>by
  have:=SP l j (by simpa using h) d;simp only[List.set_cons_succ,val,gb,dx];have e:∀z,65536^j*65536*z=65536*(65536^j*z):=λz=>by rw[cg (65536^j) 65536,dq]
  rw[e,e];omega
theorem Dig.set {l:List Nat} (h:Dig l) (j d:Nat) (D:d<65536):Dig (l.set j d):=by
 intro x E;rcases d8 E with h'|rfl
 ·exact h x h'
 ·exact D
theorem Qns (l:List Nat) (j d:Nat):(l.map uR).set j [AC.int IntKind.u64 (d:Int)]=(l.set j d).map uR:=by rw[List.map_set]
theorem Za8 {out a b:List Nat} {i k c:Nat} (E:Dig out) (G:Dig a) (hb:Dig b) (T:c<65536) (J:i<a.length) (L:k<b.length) (V:out.length=a.length+b.length) (X:a.length+b.length<=1000):
  Gi M [.vC kUs (out.map uR), .vC kUs (a.map uR), .vC kUs (b.map uR),I i,U c,I k]=
   some (0,[.vC kUs ((out.set (i+k) ((out[i+k]'(by omega)+a[i]*b[k]+c)%65536)).map uR), .vC kUs (a.map uR), .vC kUs (b.map uR),I i,U (((out[i+k]'(by omega)+a[i]*b[k]+c)/65536:Nat):Int),I ((k+1:Nat):Int)]):=by
 have Y:=E (out[i+k]'(by omega)) (bv _);have h2:=G a[i] (bv _);have h3:=hb b[k] (bv _);have e1:nth [] (out.map uR) (i+k)=uR (out[i+k]'(by omega)):=DF uR [] out _ (by omega);have e2:nth [] (a.map uR) i=uR a[i]:=DF uR [] a _ J;have e3:nth [] (b.map uR) k=uR b[k]:=DF uR [] b _ L;have h4:a[i]*b[k]<=65535*65535:=cx (by omega) (by omega);have N:O ((i:Int)+(k:Int))=((i+k:Nat):Int):=by rw[Ae];omega
 have S:wrap .u64 (wrap .u64 ((out[i+k]'(by omega):Int)+wrap .u64 ((a[i]:Int)*(b[k]:Int)))+(c:Int))=((out[i+k]'(by omega)+a[i]*b[k]+c:Nat):Int):=by
  have e:((a[i]:Int)*(b[k]:Int))=((a[i]*b[k]:Nat):Int):=by simp
  rw[e];generalize a[i]*b[k]=p at*;rw[BO (x:=(p:Int)) (by omega),BO (x:=(out[i+k]'(by omega):Int)+(p:Int)) (by omega),BO (by omega)];omega
 rw[Qnk,N];simp only[ag,e1,e2,e3];have D:∀n:Nat,Ah (nth AC.dead (uR n) 0)=(n:Int):=λn=>rfl;rw[D,D,D,S,Qxk _ (by rw[A_];omega),Qq8];simp only[go_sem];rw[aa (by simp;omega),aa (by simp;omega),aa (by simp;omega),aa (by simp;omega),aa (by simp;omega),Ae,Qns];rfl
theorem Qrt {M:Fn} {a b:List Nat} {i:Nat} (L:Dig a) (hb:Dig b) (Y:i<a.length) (hn:a.length+b.length<=1000) (P:Nat):∀(m k:Nat) (out:List Nat) (c:Nat),m=b.length-k->k<=b.length->Dig out->c<65536->out.length=a.length+b.length->
  (∀j (h:j<out.length),i+b.length<=j->out[j]=0)->val out+c*65536^(i+k)=P+a[i]*65536^i*val (b.take k)->
  ∃(D:List Nat) (c':Nat),An (Gi M) [.vC kUs (out.map uR), .vC kUs (a.map uR), .vC kUs (b.map uR),I i,U c,I k]=some (1,[.vC kUs (D.map uR), .vC kUs (a.map uR), .vC kUs (b.map uR),I i,U c'])/\
   Dig D/\c'<65536/\D.length=a.length+b.length/\(∀j (h:j<D.length),i+b.length<=j->D[j]=0)/\val D+c'*65536^(i+b.length)=P+a[i]*65536^i*val b
 |0,k,out,c,hm,hk,G,N,J,O,S=>by
  have E:k=b.length:=by omega
  subst E;rw[fo]at S;refine⟨out,c,?_,G,N,J,O,S⟩;refine AG ?_ (by simp);rw[Qnk];simp only[go_sem];rw[ab (by simp)]
 |m+1,k,out,c,hm,hk,G,N,J,O,S=>by
  have E:k<b.length:=by omega
  rw[AR (Za8 G L hb N Y E J hn)];have h1:=G (out[i+k]'(by omega)) (bv _);have h2:=L a[i] (bv _);have h3:=hb b[k] (bv _);have h4:a[i]*b[k]<=65535*65535:=cx (by omega) (by omega);refine Qrt L hb Y hn P m (k+1) _ _ (by omega) (by omega) (G.set _ _ (fv _ (by omega))) (by generalize a[i]*b[k]=p at*;omega) (by simpa using J) ?_ ?_
  ·intro j hj T;rw[List.getElem_set_ne (by omega)];exact O j (by simpa using hj) T
  ·have hs:=SP out (i+k) (by omega) ((out[i+k]'(by omega)+a[i]*b[k]+c)%65536);rw[Qf b k E];have X:=em (out[i+k]'(by omega)+a[i]*b[k]+c) 65536;generalize(out[i+k]'(by omega)+a[i]*b[k]+c)%65536=r at*;generalize(out[i+k]'(by omega)+a[i]*b[k]+c)/65536=q at*;generalize val (out.set (i+k) r)=V at*;generalize out[i+k]'(by omega)=x at*;have e1:65536^(i+(k+1))=65536^(i+k)*65536:=by rw[<-de,dx]
   have e2:a[i]*65536^i*(val (b.take k)+65536^k*b[k])=a[i]*65536^i*val (b.take k)+65536^(i+k)*(a[i]*b[k]):=by
    rw[gw,Nat.pow_add];congr 1;rw[cg a[i],dq,dq];congr 1;rw[<-dq,cg a[i],dq]
   rw[e1,e2];generalize a[i]*65536^i*val (b.take k)=A at*;generalize a[i]*b[k]=p at*;generalize 65536^(i+k)=B at*;have h5:B*(x+p+c)=B*(65536*q+r):=by rw[X]
   simp only[gw]at h5;have h6:q*(B*65536)=B*(65536*q):=by rw[cg q,dq]
   have h7:c*B=B*c:=cg _ _;omega
theorem Qxs {M:Fn} {a b:List Nat} (X:Dig a) (hb:Dig b) (Y:a.length+b.length<=1000):∀(m i:Nat) (out:List Nat),m=a.length-i->i<=a.length->Dig out->out.length=a.length+b.length->
  (∀j (h:j<out.length),i+b.length<=j->out[j]=0)->val out=val (a.take i)*val b->
  ∃E:List Nat,An (Ks M (An (Gi M))) [.vC kUs (out.map uR), .vC kUs (a.map uR), .vC kUs (b.map uR),I i]=some (1,[.vC kUs (E.map uR)])/\
   Dig E/\E.length=a.length+b.length/\val E=val a*val b
 |0,i,out,hm,hi,U,V,hz,T=>by
  have G:i=a.length:=by omega
  subst G;rw[fo]at T;refine⟨out,?_,U,V,T⟩;refine AG ?_ (by simp);rw[Qs3];simp only[go_sem];rw[ab (by simp)]
 |m+1,i,out,hm,hi,U,V,hz,T=>by
  have G:i<a.length:=by omega
  obtain⟨D,L,h1,h2,h3,h4,h5,h6⟩:=Qrt (M:=M) X hb G Y (val out) b.length 0 out 0 (by omega) (by omega) U (by omega) V hz (by simp[val]);have S:=h5 (i+b.length) (by omega) (cq _);have e1:nth [] (D.map uR) (i+b.length)=uR (D[i+b.length]'(by omega)):=DF uR [] D _ (by omega);have J:Ks M (An (Gi M)) [.vC kUs (out.map uR), .vC kUs (a.map uR), .vC kUs (b.map uR),I i]=
    some (0,[.vC kUs ((D.set (i+b.length) L).map uR), .vC kUs (a.map uR), .vC kUs (b.map uR),I ((i+1:Nat):Int)]):=by
   generalize An (Gi M)=N at*;rw[Qs3];rw[show(N [AC.vC [Kd.int IntKind.u64] (out.map uR),AC.vC [Kd.int IntKind.u64] (a.map uR),AC.vC [Kd.int IntKind.u64] (b.map uR),AC.int IntKind.i64 (i:Int),AC.int IntKind.u64 0,AC.int IntKind.i64 0])=_ from h1];have hw:O ((i:Int)+((b.map uR).length:Int))=((i+b.length:Nat):Int):=by rw[Ae (by simp;omega)];simp
   simp only[go_sem,hw,ag,e1,S];rw[aa (by simp;omega),aa (by simp;omega),aa (by simp;omega),Ae];have:wrap .u64 (((0:Nat):Int)+(L:Int))=(L:Int):=by rw[BO (by omega)];simp
   rw[this,Qns];rfl
  rw[AR J];refine Qxs X hb Y m (i+1) _ (by omega) (by omega) (h2.set _ _ h3) (by simpa using h4) ?_ ?_
  ·intro j hj a0;rw[List.getElem_set_ne (by omega)];exact h5 j (by simpa using hj) (by omega)
  ·have hs:=SP D (i+b.length) (by omega) L;rw[S]at hs;rw[Qf a i G,cy,<-T];have e2:a[i]*65536^i*val b=65536^i*a[i]*val b:=by rw[cg a[i]]
   have e3:L*65536^(i+b.length)=65536^(i+b.length)*L:=cg _ _;omega
theorem Q9p (G:∀l:List Nat,l.length<=1000->Dig l->∃c:List Nat,M [.vC kUs (l.map uR)]=some [.vC kUs (c.map uR)]/\val c=val l/\Dig c/\Cut c/\c.length<=l.length)
  {a b:List Nat} (I:Dig a) (hb:Dig b) (J:a.length+b.length<=1000):
  ∃c:List Nat,Qcl M (An (Gi M)) (An (Ks M (An (Gi M)))) [.vC kUs (a.map uR), .vC kUs (b.map uR)]=some [.vC kUs (c.map uR)]/\val c=val a*val b/\Dig c/\Cut c/\c.length<=a.length+b.length:=by
 have D:∀n,val (List.replicate n 0)=0:=by
  intro n;induction n with
  |zero=>rfl
  |succ n L=>simp[ij,val,L]
 obtain⟨out,N,S,h3,T⟩:=Qxs (M:=M) I hb J a.length 0 (List.replicate (a.length+b.length) 0) (by omega) (by omega) (λd U=>by simp at U;omega) (by simp) (λj h _=>by simp) (by rw[D];simp[val]);obtain⟨c,g1,g2,V,X,g5⟩:=G out (by omega) S;refine⟨c,?_,by rw[g2,T],V,X,by omega⟩;generalize An (Ks M (An (Gi M)))=Y at*;generalize An (Gi M)=N7 at*;rw[Q6k];have hw:O (((a.map uR).length:Int)+((b.map uR).length:Int))=((a.length+b.length:Nat):Int):=by rw[Ae (by simp;omega)];simp
 have E:List.replicate (a.length+b.length) [AC.int IntKind.u64 0]=(List.replicate (a.length+b.length) 0).map uR:=by simp
 simp only[hw,ag,E];rw[show(Y [AC.vC [Kd.int IntKind.u64] ((List.replicate (a.length+b.length) 0).map uR),AC.vC [Kd.int IntKind.u64] (a.map uR),AC.vC [Kd.int IntKind.u64] (b.map uR),AC.int IntKind.i64 0])=_ from N];simp only[go_sem];rw[aa,show M [AC.vC [Kd.int IntKind.u64] (out.map uR)]=_ from g1];simp only[go_sem]
theorem Zef {a b:List Nat} (D:Dig a) (hb:Dig b) (E:a.length+b.length<=1000):
  ∃c:List Nat,NW [.vC kUs (a.map uR), .vC kUs (b.map uR)]=some [.vC kUs (c.map uR)]/\val c=val a*val b/\Dig c/\Cut c/\c.length<=a.length+b.length:=
 Q9p (λ_ G I=>Zp3 G I) D hb E
theorem Ziv {x y:Int} {a b c:List Nat} (D:Y [I x]=some [U x.natAbs]) (E:Y [I y]=some [U y.natAbs]) (G:Z [U x.natAbs]=some [.vC kUs (a.map uR)]) (J:Z [U y.natAbs]=some [.vC kUs (b.map uR)])
  (L:M [.vC kUs (a.map uR), .vC kUs (b.map uR)]=some [.vC kUs (c.map uR)]):V3 M Z Y [I x,I y]=some [.vC kUs (c.map uR)]:=by
 rw[Q54];simp only[go_sem,D,E,G,J,L]
theorem Q1o {x y:Int} (D:i64 x) (E:i64 y):∃c:List Nat,Ok [I x,I y]=some [.vC kUs (c.map uR)]/\val c=x.natAbs*y.natAbs/\Dig c/\Cut c/\c.length<=8:=by
 have N:=Qjk 4 x.natAbs (by rw[<-Qhh];exact GP D);have O:=Qjk 4 y.natAbs (by rw[<-Qhh];exact GP E);obtain⟨c,J,G,L,M,S⟩:=Zef (Qnn x.natAbs) (Qnn y.natAbs) (by omega);rw[Qld,Qld]at G;exact⟨c,Ziv (Qoz D) (Qoz E) (Qzi (GP D)) (Qzi (GP E)) J,G,L,M,by omega⟩
theorem Zd1 {a b c d:Int} {p q:List Nat} (ks:∀a b,Y [I a,I b]=some [I (sgn a b)]) (D:Z [I a,I b]=some [.vC kUs (p.map uR)]) (E:Z [I c,I d]=some [.vC kUs (q.map uR)])
  (G:M [.vC kUs (p.map uR), .vC kUs (q.map uR)]=some [I (Dk (a.natAbs*b.natAbs) (c.natAbs*d.natAbs))]):Vc M Z Y [I a,I b,I c,I d]=some [I (EM (a*b) (c*d))]:=by
 have J:=Qzu (Qny a b) (Qqt (a.natAbs*b.natAbs) (c.natAbs*d.natAbs));rw[Q4o];simp only[go_sem,ks,D,E,G];rw[<-Qzk,Ae];by_cases g1:sgn a b<sgn c d
 ·rw[aa g1,aa,aa g1]
 ·rw[ab g1];by_cases g2:sgn a b>sgn c d
  ·rw[aa g2,aa,ab g1]
  ·rw[ab g2,ab]
theorem Zj1 {a b c d:Int} (D:i64 a) (hb:i64 b) (E:i64 c) (G:i64 d):Ot [I a,I b,I c,I d]=some [I (EM (a*b) (c*d))]:=by
 obtain⟨p,J,L,M,N,V⟩:=Q1o D hb;obtain⟨q,O,S,T,U,X⟩:=Q1o E G;refine Zd1 Zuh J O ?_;rw[<-L,<-S];exact Zcc M T N U (by omega)
def bd (A:Nat) (p:Pt):Prop:=p.x.natAbs<=A/\p.y.natAbs<=A/\p.z.natAbs<=A
def Hj (a b:Pt):Int:=a.x*b.x+a.y*b.y+a.z*b.z
def BX (a b:Pt):Pt:=⟨a.x-b.x,a.y-b.y,a.z-b.z⟩
theorem D6 {x y:Int} {A B:Nat} (D:x.natAbs<=A) (E:y.natAbs<=B):(x*y).natAbs<=A*B:=by rw[Int.natAbs_mul];exact cx D E
theorem Qmc {A B:Nat} (D:bd A a) (hb:bd B b):bd (A+B) (BX a b):=by
 obtain⟨E,G,I⟩:=D;obtain⟨g1,g2,J⟩:=hb;refine⟨?_,?_,?_⟩<;>simp only[BX]<;>omega
theorem AP {A B:Nat} (h:bd A a) (D:A<=B):bd B a:=⟨bn h.1 D,bn h.2.1 D,bn h.2.2 D⟩
theorem Zhv (D:bd 33554432 a) (hb:bd 33554432 b):O (a.x-b.x)=(BX a b).x/\O (a.y-b.y)=(BX a b).y/\O (a.z-b.z)=(BX a b).z:=by
 obtain⟨E,G,I⟩:=D;obtain⟨g1,g2,J⟩:=hb;refine⟨?_,?_,?_⟩<;>rw[Ae]<;>rfl
theorem Zqe (D:bd 33554432 a) (hb:bd 33554432 b):Jr [I a.x,I a.y,I a.z,I b.x,I b.y,I b.z]=some (ptR (BX a b)):=by
 unfold Jr;obtain⟨E,G,J⟩:=Zhv D hb;rw[Q6b,E,G,J]
theorem Zrw (a b:Pt):Hj (BX a b) (BX a b)=Hj (BX b a) (BX b a):=by
 simp only[Hj,BX];have h:∀x y:Int,(x-y)*(x-y)=(y-x)*(y-x):=by intro x y;rw[<-Int.neg_mul_neg,Int.neg_sub]
 rw[h a.x,h a.y,h a.z]
theorem Qwn {x y:Int}:EM x y<=0↔x<=y:=by
 unfold EM;by_cases h:x<y
 ·rw[aa h];omega
 ·rw[ab h];by_cases h':x=y
  ·rw[aa h'];omega
  ·rw[ab h'];omega
theorem Lw (v:Nat) (h:v<w64):wrap .u64 (((BitVec.ofInt IntKind.u64.bits (v:Int)&&&BitVec.ofInt IntKind.u64.bits 4294967295).toNat:Nat):Int)=((v%4294967296:Nat):Int):=by
 rw[A_]at h;have e:(BitVec.ofInt IntKind.u64.bits (v:Int)&&&BitVec.ofInt IntKind.u64.bits 4294967295).toNat=v%4294967296:=by
  rw[BitVec.toNat_and];have e1:(BitVec.ofInt IntKind.u64.bits (v:Int)).toNat=v:=by
   simp only[IntKind.bits,fw];omega
  have e2:(BitVec.ofInt IntKind.u64.bits 4294967295).toNat=2^32-1:=by
   simp only[IntKind.bits,fw];rfl
  rw[e1,e2,Nat.and_two_pow_sub_one_eq_mod]
 rw[e,BO (by omega)]
theorem JA (v:Nat):(v:Int).fdiv (2^min (Int.toNat 32) IntKind.u64.bits)=((v/4294967296:Nat):Int):=by
 have e:(2^min (Int.toNat 32) IntKind.u64.bits:Int)=4294967296:=rfl;rw[e,dp _ (by omega)];omega
theorem Zpm (u v:Nat) (E:u<4294967296) (D:v<4294967296):wrap .u64 (((BitVec.ofInt IntKind.u64.bits ((u*4294967296:Nat):Int)|||BitVec.ofInt IntKind.u64.bits (v:Int)).toNat:Nat):Int)=((u*4294967296+v:Nat):Int):=by
 have e:(BitVec.ofInt IntKind.u64.bits ((u*4294967296:Nat):Int)|||BitVec.ofInt IntKind.u64.bits (v:Int)).toNat=u*4294967296+v:=by
  rw[BitVec.toNat_or];have e1:∀v:Nat,v<18446744073709551616->(BitVec.ofInt IntKind.u64.bits (v:Int)).toNat=v:=by
   intro v D;simp only[IntKind.bits,fw];omega
  rw[e1 _ (by omega),e1 _ (by omega)];have:=ig (i:=32) (b:=v) (by omega) u;rw[show(2:Nat)^32=4294967296 from rfl,cg]at this;exact this.symm
 rw[e,BO (by omega)]
theorem Q7y (v:Nat) (h:v<w64):wrap .u64 ((v:Int)*2^min (Int.toNat 32) IntKind.u64.bits)=((v%4294967296*4294967296:Nat):Int):=by
 have e:(2^min (Int.toNat 32) IntKind.u64.bits:Int)=4294967296:=rfl;rw[A_]at h;rw[e,Jq];omega
theorem Pv (D:i<4294967296) (hb:A<4294967296):i*A<=18446744065119617025:=by
 have:=cx (show i<=4294967295 by omega) (show A<=4294967295 by omega);omega
theorem Zg2 {x y:Nat} (O:x<w64) (V:y<w64):∃X M:Nat,Lu [U x,U y]=some [U X,U M]/\X*w64+M=x*y/\M<w64:=by
 unfold Lu;rw[Ze8,Lw x O,Lw y V,JA x,JA y];rw[A_]at O V;have Y:x=x/4294967296*4294967296+x%4294967296:=by omega
 have ey:y=y/4294967296*4294967296+y%4294967296:=by omega
 have G:x/4294967296<4294967296:=by omega
 have I:x%4294967296<4294967296:=by omega
 have J:y/4294967296<4294967296:=by omega
 have L:y%4294967296<4294967296:=by omega
 generalize x/4294967296=a at*;generalize x%4294967296=b at*;generalize y/4294967296=c at*;generalize y%4294967296=d at*;have N:x*y=(a*c)*18446744073709551616+(a*d)*4294967296+(b*c)*4294967296+b*d:=by
  rw[Y,ey];have:(18446744073709551616:Nat)=4294967296*4294967296:=rfl;rw[this];generalize(4294967296:Nat)=H
  grind
 rw[N];have h1:=Pv G J;have h2:=Pv G L;have h3:=Pv I J;have h4:=Pv I L;have m1:∀p q:Nat,(p:Int)*(q:Int)=((p*q:Nat):Int):=λp q=>by simp
 have E:∀v:Nat,v<=18446744073709551615->wrap .u64 (v:Int)=(v:Int):=λv hv=>BO (by omega);simp only[m1];generalize a*c=P at*;generalize a*d=Q at*;generalize b*c=S at*;generalize b*d=T at*;have D:∀v:Nat,v<=18446744073709551615->v<w64:=λv hv=>by rw[A_];omega
 have a1:∀p q:Nat,(p:Int)+(q:Int)=((p+q:Nat):Int):=λp q=>by simp
 rw[E T (by omega),E Q (by omega),E S (by omega),E P (by omega),JA T,a1,E (Q+T/4294967296) (by omega)];rw[Lw _ (D (Q+T/4294967296) (by omega)),JA (Q+T/4294967296),Lw _ (D T (by omega)),a1 S,E (S+_) (by omega),JA (S+_),a1 P,E (P+_) (by omega),a1 _ ((S+_)/_),E (P+_+_) (by omega),
  Q7y _ (D (S+(Q+T/4294967296)%4294967296) (by omega)),Zpm _ _ (by omega) (by omega)]
 refine⟨_,_,rfl,?_,?_⟩
 ·rw[A_];omega
 ·rw[A_];omega
theorem Q9c (J:∀{x y:Nat},x<w64->y<w64->∃L E:Nat,M [U x,U y]=some [U L,U E]/\L*w64+E=x*y/\E<w64) {a b c d:Nat} (S:a<w64) (hb:b<w64) (T:c<w64) (V:d<w64) (s:Bool):
  Qa0 M [U a,U b,U c,U d,B s]=some [B (if s=true then decide (a*b<c*d)else decide (a*b<=c*d))]:=by
 obtain⟨G,N,e1,X,g1⟩:=J S hb;obtain⟨I,O,e2,Y,g2⟩:=J T V;rw[Q5u];simp only[go_sem,e1,e2];rw[<-X,<-Y];have key:∀p q:Nat,p<q->p*w64+w64<=q*w64:=λp q h=>by rw[<-fu];exact be _ h
 by_cases c1:G<I
 ·rw[aa];have:=key _ _ c1;by_cases D:s=true
  ·rw[aa D,ah (by omega)]
  ·rw[ab D,ah (by omega)]
 ·rw[ab];by_cases c2:G=I
  ·subst c2;rw[aa rfl];by_cases c3:N<O
   ·rw[aa];by_cases D:s=true
    ·rw[aa D,ah (by omega)]
    ·rw[ab D,ah (by omega)]
   ·rw[ab];by_cases c4:N=O
    ·subst c4;rw[aa rfl];by_cases D:s=true
     ·rw[aa D,aj (by omega),D];rfl
     ·rw[ab D,ah (by omega)];simp at D;rw[D];rfl
    ·rw[ab];by_cases D:s=true
     ·rw[aa D,aj (by omega)]
     ·rw[ab D,aj (by omega)]
  ·rw[ab];have:=key I G (by omega);by_cases D:s=true
   ·rw[aa D,aj (by omega)]
   ·rw[ab D,aj (by omega)]
theorem Zib {a b c d:Nat} (D:a<w64) (hb:b<w64) (E:c<w64) (G:d<w64) (s:Bool):
  LO [U a,U b,U c,U d,B s]=some [B (if s=true then decide (a*b<c*d)else decide (a*b<=c*d))]:=
 Q9c Zg2 D hb E G s
def DT (a n:Nat) (down:Bool) (j:Nat):Prop:=
 (j=0\/if down=true then(2*j-1)*(2*j-1)*n<4*(a*a)else(2*j-1)*(2*j-1)*n<=4*(a*a))/\
 (if down=true then 4*(a*a)<=(2*j+1)*(2*j+1)*n else 4*(a*a)<(2*j+1)*(2*j+1)*n)
theorem OO {p q n:Nat} (h:p<=q):p*p*n<=q*q*n:=be _ (cx h h)
theorem Q6z {a n:Nat} {down:Bool} (G:DT a n down i) (I:DT a n down j):i=j:=by
 have key:∀{i j:Nat},DT a n down i->DT a n down j-> ¬i<j:=by
  rintro i j ⟨-,E⟩ ⟨D,-⟩ L;have M:=OO (n:=n) (show 2*i+1<=2*j-1 by omega);rcases D with D|D
  ·omega
  ·by_cases J:down=true
   ·rw[aa J]at E D;omega
   ·rw[ab J]at E D;omega
 have N:=key G I;have E:=key I G;omega
open Classical in
noncomputable def rnd (a n:Nat) (down:Bool):Nat:=if h:∃j,DT a n down j then Classical.choose h else 0
theorem Nx {a n:Nat} {down:Bool} (h:DT a n down j):rnd a n down=j:=by
 have D:∃j,DT a n down j:=⟨j,h⟩;unfold rnd;rw[dif_pos D];exact Q6z (dz D) h
noncomputable def Bd (x r n:Int):Int:=if x<0 then-(rnd (x.natAbs*r.natAbs) n.natAbs true:Int)else(rnd (x.natAbs*r.natAbs) n.natAbs false:Int)
theorem Qm4 {X R n j:Nat} {down:Bool} (E:0<n) (G:X*X<=n) (h:DT (X*R) n down j):j<=R:=by
 by_cases c:j<=R
 ·exact c
 exfalso;have e:4*(X*R*(X*R))=(2*R)*(2*R)*(X*X):=by grind
 have I:(2*R)*(2*R)*(X*X)<=(2*R)*(2*R)*n:=ii _ G;have J:(2*R)*(2*R)*n<(2*R+1)*(2*R+1)*n:=dy (fy (by omega)) E;have L:(2*R+1)*(2*R+1)*n<=(2*j-1)*(2*j-1)*n:=OO (by omega);obtain⟨D,-⟩:=h;rcases D with D|D
 ·omega
 ·split at D<;>omega
theorem Zdd {X R n j:Nat} {down:Bool} (D:0<n) (E:R*R<=n) (h:DT (X*R) n down j):j<=X:=by
 rw[cg]at h;exact Qm4 D E h
theorem Qz0 (D:∀{a b c d:Nat},a<w64->b<w64->c<w64->d<w64->∀s:Bool,M [U a,U b,U c,U d,B s]=some [B (if s=true then decide (a*b<c*d)else decide (a*b<=c*d))])
  {x:Int} {a d q b:Nat} {bit:Int} (N:a<36028797018963968) (E:d<w64) (O:q+b<268435456+1) (G:0<b) (hb:((b:Nat):Int).fdiv (2^min (Int.toNat 1) IntKind.u64.bits)=bit):
  J8 M [I x,U a,U d,U q,U b]=some (0,[I x,U a,U d,U (((if(q+b)*(q+b)*d<=a*a then q+b else q):Nat):Int),U bit]):=by
 have S:(q+b)*(q+b)<=268435456*268435456:=cx (by omega) (by omega);have J:wrap .u64 ((q:Int)+(b:Int))=((q+b:Nat):Int):=by rw[BO (by omega)];omega
 have L:wrap .u64 (((q+b:Nat):Int)*((q+b:Nat):Int))=(((q+b)*(q+b):Nat):Int):=by
  rw[show((q+b:Nat):Int)*((q+b:Nat):Int)=(((q+b)*(q+b):Nat):Int) by simp,BO (by omega)]
 rw[Qn8,J,L,hb];generalize(q+b)*(q+b)=s at*;have h:=D (a:=s) (b:=d) (c:=a) (d:=a) (by rw[A_];omega) E (by rw[A_];omega) (by rw[A_];omega) false;rw[ab (by simp)]at h;simp only[go_sem,h];rw[aa];by_cases c:s*d<=a*a
 ·rw[aa c,aa c]
 ·rw[ab c,ab c]
theorem ZS {M:Fn} (G:∀{a b c d:Nat},a<w64->b<w64->c<w64->d<w64->∀s:Bool,M [U a,U b,U c,U d,B s]=some [B (if s=true then decide (a*b<c*d)else decide (a*b<=c*d))])
  {x:Int} {a d:Nat} (J:a<36028797018963968) (L:d<w64):∀(k q:Nat),q+2^(k+1)<=268435456->q*q*d<=a*a->a*a<(q+2^(k+1))*(q+2^(k+1))*d->
  ∃r:Nat,An (J8 M) [I x,U a,U d,U q,U ((2^k:Nat):Int)]=some (1,[I x,U a,U d,U r])/\r*r*d<=a*a/\a*a<(r+1)*(r+1)*d/\r<268435456
 |0,q,T,N,O=>by
  have S:=Qz0 G (x:=x) (q:=q) (b:=2^0) (bit:=0) J L (by simp at T⊢;omega) (by simp) Qtd;rw[AR S];have D:∀r:Nat,An (J8 M) [I x,U a,U d,U r,U 0]=some (1,[I x,U a,U d,U r]):=by
   intro r;refine AG ?_ (by simp);rw[Qn8];simp only[go_sem];rw[ab]
  simp only[dl,Nat.pow_one,Nat.pow_zero]at*;by_cases h:(q+1)*(q+1)*d<=a*a
  ·rw[aa h,D];exact⟨_,rfl,h,O,by omega⟩
  ·rw[ab h,D];exact⟨_,rfl,N,by omega,by omega⟩
 |k+1,q,T,N,O=>by
  have e3:2^(k+1+1)=2^(k+1)+2^(k+1):=by rw[dx 2 (k+1)];omega
  have E:0<2^(k+1):=dw _;have S:=Qz0 G (x:=x) (q:=q) (b:=2^(k+1)) (bit:=((2^k:Nat):Int)) J L (by omega) E (Qkx k);rw[AR S];by_cases h:(q+2^(k+1))*(q+2^(k+1))*d<=a*a
  ·rw[aa h];refine ZS G J L k _ (by omega) h ?_;rw[show q+2^(k+1)+2^(k+1)=q+2^(k+1+1) by omega];exact O
  ·rw[ab h];exact ZS G J L k q (by omega) N (by omega)
theorem Zl8 {a n q:Nat} (down:Bool) (E:q*q*n<=a*a) (G:a*a<(q+1)*(q+1)*n):
  DT a n down (if(if down=true then(2*q+1)*(2*q+1)*n<2*a*(2*a)else(2*q+1)*(2*q+1)*n<=2*a*(2*a))then q+1 else q):=by
 have I:2*a*(2*a)=4*(a*a):=by grind
 rw[I];have e1:4*(q*q*n)<=4*(a*a):=ii _ E;have e2:4*(a*a)<4*((q+1)*(q+1)*n):=by omega
 have L:(2*q-1)*(2*q-1)*n<=(2*q)*(2*q)*n:=OO (by omega);have M:(2*q)*(2*q)*n=4*(q*q*n):=by grind
 have N:(2*(q+1))*(2*(q+1))*n=4*((q+1)*(q+1)*n):=by grind
 have O:(2*(q+1))*(2*(q+1))*n<=(2*(q+1)+1)*(2*(q+1)+1)*n:=OO (by omega);have S:n=0\/q=0\/(2*q-1)*(2*q-1)*n<(2*q)*(2*q)*n:=by
  by_cases D:n=0
  ·exact .inl D
  ·by_cases J:q=0
   ·exact .inr (.inl J)
   ·right;right;refine dy ?_ (by omega);exact fy (by omega)
 have D:n≠0:=by rintro rfl;simp at G
 unfold DT;cases down
 ·simp only[cv,ez];by_cases c:(2*q+1)*(2*q+1)*n<=4*(a*a)
  ·rw[aa c];refine⟨.inr ?_,by omega⟩;rw[show 2*(q+1)-1=2*q+1 by omega];exact c
  ·rw[ab c];exact⟨by omega,by omega⟩
 ·simp only[dc];by_cases c:(2*q+1)*(2*q+1)*n<4*(a*a)
  ·rw[aa c];refine⟨.inr ?_,by omega⟩;rw[show 2*(q+1)-1=2*q+1 by omega];exact c
  ·rw[ab c];exact⟨by omega,by omega⟩
theorem Znq (X:∀{a b c d:Nat},a<w64->b<w64->c<w64->d<w64->∀s:Bool,M [U a,U b,U c,U d,B s]=some [B (if s=true then decide (a*b<c*d)else decide (a*b<=c*d))])
  {x r n:Int} (hx:x.natAbs<=33554432*4) (G:0<=r/\r<=33554432*4) (hn:0<n/\n<=4611686018427387904) (a0:x*x<=n):
  Qfx M (An (J8 M)) [I x,I r,I n]=some [I (Bd x r n)]/\(Bd x r n).natAbs<=268435456/\DT (x.natAbs*r.natAbs) n.natAbs (decide (x<0)) (Bd x r n).natAbs:=by
 obtain⟨R,rfl⟩:=bj G.1;obtain⟨N,rfl⟩:=bj (show 0<=n by omega);have J:mx x (O (0-x))=(x.natAbs:Int):=by
  rw[Ae];unfold mx;split<;>omega
 have hA:x.natAbs*R<=(33554432*4)*(33554432*4):=cx hx (by omega);have e1:(x.natAbs:Int)*(R:Int)=((x.natAbs*R:Nat):Int):=by simp
 have L:x.natAbs*x.natAbs<=N:=by
  have:((x.natAbs*x.natAbs:Nat):Int)=x*x:=by rw[fc]
  omega
 have S:(x.natAbs*R)*(x.natAbs*R)<268435456*268435456*N:=by
  have e:(x.natAbs*R)*(x.natAbs*R)=(R*R)*(x.natAbs*x.natAbs):=by grind
  rw[e];have h1:R*R<=(33554432*4)*(33554432*4):=cx (by omega) (by omega);have h2:(R*R)*(x.natAbs*x.natAbs)<=((33554432*4)*(33554432*4))*N:=cx h1 L;omega
 simp only[Bd,gq];generalize a1:x.natAbs*R=A at*;have T:A<36028797018963968:=by omega
 have Y:N<w64:=by rw[A_];omega
 rw[Q9i,J,e1,Ae (x:=(A:Int)),BO (x:=(A:Int)) (by omega),BO (x:=(N:Int)) (by omega)];obtain⟨q,l1,l2,l3,l4⟩:=ZS X (x:=x) (a:=A) (d:=N) T Y 27 0 (by decide) (by simp) (by rw[dl];exact S);have V:An (J8 M) [I x,U A,U N,AC.int IntKind.u64 0,AC.int IntKind.u64 134217728]=some (1,[I x,U A,U N,U q]):=l1;rw[V];have a2:(2*q+1)*(2*q+1)<=536870911*536870911:=cx (by omega) (by omega);have w1:wrap .u64 (wrap .u64 (2*(q:Int))+1)=((2*q+1:Nat):Int):=by rw[BO (x:=2*(q:Int)) (by omega),BO (by omega)];omega
 have w2:wrap .u64 (((2*q+1:Nat):Int)*((2*q+1:Nat):Int))=(((2*q+1)*(2*q+1):Nat):Int):=by
  rw[show((2*q+1:Nat):Int)*((2*q+1:Nat):Int)=(((2*q+1)*(2*q+1):Nat):Int)from(bz _ _).symm,BO (by omega)]
 have w3:wrap .u64 (2*(A:Int))=((2*A:Nat):Int):=by rw[BO (by omega)];omega
 have w4:O (wrap .u64 ((q:Int)+1))=((q+1:Nat):Int):=by rw[BO (by omega),Ae];omega
 have w5:O (q:Int)=(q:Int):=Ae;have h:=X (a:=(2*q+1)*(2*q+1)) (b:=N) (c:=2*A) (d:=2*A) (by rw[A_];omega) Y (by rw[A_];omega) (by rw[A_];omega) (decide (x<0));have E:=Zl8 (decide (x<0)) l2 l3;simp only[go_sem,w1,w2,w3,h,w4,w5];generalize(2*q+1)*(2*q+1)=s at*;by_cases D:x<0
 ·rw[show(if x<0 then-(rnd A N true:Int)else(rnd A N false:Int))= -(rnd A N true:Int)from aa D];rw[ah D]at E⊢;simp only[dc]at E⊢;have G:=Nx E;by_cases c:s*N<2*A*(2*A)
  ·rw[aa c]at E G;rw[aa D,aa (ah c),aa D,G,Ae];refine⟨?_,by omega,?_⟩
   ·rw[Int.zero_sub]
   ·rw[Int.natAbs_neg,gq];exact E
  ·rw[ab c]at E G;rw[aa D,ab (by simpa using c),aa D,G,Ae];refine⟨?_,by omega,?_⟩
   ·rw[Int.zero_sub]
   ·rw[Int.natAbs_neg,gq];exact E
 ·rw[show(if x<0 then-(rnd A N true:Int)else(rnd A N false:Int))=(rnd A N false:Int)from ab D];rw[aj D]at E⊢;simp only[cv,ez]at E⊢;have G:=Nx E;by_cases c:s*N<=2*A*(2*A)
  ·rw[aa c]at E G;rw[ab D,aa (ah c),ab D,G];exact⟨rfl,by omega,E⟩
  ·rw[ab c]at E G;rw[ab D,ab (by simpa using c),ab D,G];exact⟨rfl,by omega,E⟩
theorem Ov {x r n:Int} (E:x.natAbs<=33554432*4) (G:0<=r/\r<=33554432*4) (J:0<n/\n<=4611686018427387904) (D:x*x<=n):
  Gz [I x,I r,I n]=some [I (Bd x r n)]/\(Bd x r n).natAbs<=268435456/\DT (x.natAbs*r.natAbs) n.natAbs (decide (x<0)) (Bd x r n).natAbs:=
 Znq Zib E G J D
def GB (n k:Int):Prop:=0<=k/\n<=k*k/\(k=0\/(k-1)*(k-1)<n)
theorem Q4z {n i j:Int} (E:GB n i) (G:GB n j):i=j:=by
 have key:∀{i j:Int},GB n i->GB n j-> ¬i<j:=by
  rintro i j ⟨I,J,-⟩ ⟨M,N,D⟩ L;rcases D with D|D
  ·omega
  ·have:=f8 I (show i<=j-1 by omega);omega
 have I:=key E G;have J:=key G E;omega
open Classical in
noncomputable def upR (n:Int):Int:=if h:∃j,GB n j then Classical.choose h else 0
theorem Q2m {n k:Int} (h:GB n k):upR n=k:=by
 have D:∃j,GB n j:=⟨k,h⟩;unfold upR;rw[dif_pos D];exact Q4z (dz D) h
theorem Qt9 {n r:Nat} (D:r*r<=n) (E:n<(r+1)*(r+1)):GB n (if r*r<n then r+1 else r:Nat):=by
 unfold GB;by_cases c:r*r<n
 ·rw[aa c];have e1:((r+1:Nat):Int)*((r+1:Nat):Int)=(((r+1)*(r+1):Nat):Int):=(bz _ _).symm;have e2:(((r+1:Nat):Int)-1)*(((r+1:Nat):Int)-1)=((r*r:Nat):Int):=by
   rw[show((r+1:Nat):Int)-1=(r:Int) by omega];exact(bz _ _).symm
  rw[e1,e2];generalize(r+1)*(r+1)=A at*;generalize r*r=B at*;exact⟨by omega,by omega, .inr (by omega)⟩
 ·rw[ab c];have e1:(r:Int)*(r:Int)=((r*r:Nat):Int):=(bz _ _).symm;rw[e1];refine⟨by omega,by omega,?_⟩;rcases dn r with h|h
  ·left;omega
  ·right;have e2:((r:Int)-1)*((r:Int)-1)=(((r-1)*(r-1):Nat):Int):=by
    rw[show(r:Int)-1=((r-1:Nat):Int) by omega];exact(bz _ _).symm
   have:=fy (show r-1<r by omega);rw[e2];omega
theorem Tx (k:Nat):((2^(k+1):Nat):Int).fdiv (2^min (Int.toNat 1) IntKind.i64.bits)=((2^k:Nat):Int):=by
 have e:(2^min (Int.toNat 1) IntKind.i64.bits:Int)=2:=rfl;rw[e,dp _ (by omega),dx];omega
theorem Qhu:(1:Int).fdiv (2^min (Int.toNat 1) IntKind.i64.bits)=0:=rfl
theorem Qv8 {n q b:Nat} {bit:Int} (D:q+b<=2147483648) (E:0<b) (hb:((b:Nat):Int).fdiv (2^min (Int.toNat 1) IntKind.i64.bits)=bit):
  J0 [I n,I q,I b]=some (0,[I n,I (((if(q+b)*(q+b)<=n then q+b else q):Nat):Int),I bit]):=by
 have L:(q+b)*(q+b)<=2147483648*2147483648:=cx D D;have G:O ((q:Int)+(b:Int))=((q+b:Nat):Int):=by rw[Ae];omega
 have J:O (((q+b:Nat):Int)*((q+b:Nat):Int))=(((q+b)*(q+b):Nat):Int):=by
  rw[show((q+b:Nat):Int)*((q+b:Nat):Int)=(((q+b)*(q+b):Nat):Int)from(bz _ _).symm,Ae]
 rw[Qtq,G,J,hb];generalize(q+b)*(q+b)=s at*;simp only[go_sem];rw[aa];by_cases c:s<=n
 ·rw[aa,aa c]
 ·rw[ab,ab c]
theorem Ti {n:Nat}:∀(k q:Nat),q+2^(k+1)<=2147483648->q*q<=n->n<(q+2^(k+1))*(q+2^(k+1))->
  ∃r:Nat,An J0 [I n,I q,I ((2^k:Nat):Int)]=some (1,[I r])/\r*r<=n/\n<(r+1)*(r+1)/\r<2147483648
 |0,q,M,G,J=>by
  have L:=Qv8 (n:=n) (q:=q) (b:=2^0) (bit:=0) (by simp at M⊢;omega) (by simp) Qhu;rw[AR L];have D:∀r:Nat,An J0 [I n,I r,I 0]=some (1,[I r]):=by
   intro r;refine AG ?_ (by simp);rw[Qtq];simp only[go_sem];rw[ab]
  simp only[dl,Nat.pow_one,Nat.pow_zero]at*;by_cases h:(q+1)*(q+1)<=n
  ·rw[aa h,D];exact⟨_,rfl,h,J,by omega⟩
  ·rw[ab h,D];exact⟨_,rfl,G,by omega,by omega⟩
 |k+1,q,M,G,J=>by
  have e3:2^(k+1+1)=2^(k+1)+2^(k+1):=by rw[dx 2 (k+1)];omega
  have E:0<2^(k+1):=dw _;have L:=Qv8 (n:=n) (q:=q) (b:=2^(k+1)) (bit:=((2^k:Nat):Int)) (by omega) E (Tx k);rw[AR L];by_cases h:(q+2^(k+1))*(q+2^(k+1))<=n
  ·rw[aa h];refine Ti k _ (by omega) h ?_;rw[show q+2^(k+1)+2^(k+1)=q+2^(k+1+1) by omega];exact J
  ·rw[ab h];exact Ti k q (by omega) G (by omega)
theorem RW {n:Nat} (E:n<4611686018427387904):∃r:Nat,HR [I n]=some [I r]/\r*r<=n/\n<(r+1)*(r+1)/\r<2147483648:=by
 obtain⟨r,G,J,L,M⟩:=Ti (n:=n) 30 0 (by decide) (by simp) (by rw[dl];exact E);refine⟨r,?_,J,L,M⟩;have D:An J0 [I n,AC.int IntKind.i64 0,AC.int IntKind.i64 1073741824]=some (1,[I r]):=G;show Z2 (An J0) [I n]=_;rw[Zd0,D];simp only[go_sem]
def sqD (a b:Pt):Int:=Hj (BX a b) (BX a b)
theorem KW (a b:Pt):0<=sqD a b:=by
 unfold sqD Hj;have h:∀u:Int,0<=u*u:=λu=>by rw[<-fc];omega
 have:=h (BX a b).x;have:=h (BX a b).y;have:=h (BX a b).z;omega
theorem CN {x:Int} (h:x.natAbs<=A):0<=x*x/\x*x<=((A*A:Nat):Int):=by
 have:=cx h h;rw[<-fc];omega
theorem KN (D:bd A a) (hb:bd A b) (E:A<=67108864):sqD a b<=54043195528445952:=by
 have h:∀x y:Int,x.natAbs<=A->y.natAbs<=A->(x-y)*(x-y)<=18014398509481984:=by
  intro x y G I;exact(CN (x:=x-y) (A:=134217728) (by omega)).2
 have J:=h _ _ D.1 hb.1;have L:=h _ _ D.2.1 hb.2.1;have M:=h _ _ D.2.2 hb.2.2;unfold sqD Hj BX;simp only;omega
theorem Qi4 (D:bd 67108864 a) (hb:bd 67108864 b):FY [I a.x,I a.y,I a.z,I b.x,I b.y,I b.z]=some [I (sqD a b)]:=by
 have h:∀x y:Int,x.natAbs<=67108864->y.natAbs<=67108864->0<=(x-y)*(x-y)/\(x-y)*(x-y)<=18014398509481984:=by
  intro x y E G;exact CN (x:=x-y) (A:=134217728) (by omega)
 have J:=h _ _ D.1 hb.1;have L:=h _ _ D.2.1 hb.2.1;have M:=h _ _ D.2.2 hb.2.2;obtain⟨a1,a2,a3⟩:=D;obtain⟨b1,b2,b3⟩:=hb;unfold FY;rw[Zrb,Ae (x:=a.x-b.x),Ae (x:=a.y-b.y),Ae (x:=a.z-b.z)];unfold sqD Hj BX;simp only;generalize(a.x-b.x)*(a.x-b.x)=u at*;generalize(a.y-b.y)*(a.y-b.y)=v at*;generalize(a.z-b.z)*(a.z-b.z)=w at*;rw[Ae (x:=u),Ae (x:=0+u),Ae (x:=v),Ae (x:=0+u+v),Ae (x:=w),Ae,Int.zero_add]
noncomputable def Au (a b:Pt):Int:=upR (sqD a b)
theorem Zi5 (E:Z [I a.x,I a.y,I a.z,I b.x,I b.y,I b.z]=some [I i]) (S:i<4611686018427387904)
  (G:∃r:Nat,M [I i]=some [I r]/\r*r<=i/\i<(r+1)*(r+1)/\r<2147483648):Vv M Z [I a.x,I a.y,I a.z,I b.x,I b.y,I b.z]=some [I (upR i)]/\GB i (upR i):=by
 obtain⟨r,J,L,N,T⟩:=G;have D:=Qt9 L N;rw[Q2m D];refine⟨?_,D⟩;rw[Q7m];have O:r*r<=2147483648*2147483648:=cx (by omega) (by omega);have e1:(r:Int)*(r:Int)=((r*r:Nat):Int):=(bz _ _).symm;simp only[go_sem,E,J,e1];rw[Ae (x:=((r*r:Nat):Int)),Ae];by_cases c:r*r<i
 ·rw[aa,aa c];rfl
 ·rw[ab,ab c]
theorem KV (D:bd 67108864 a) (hb:bd 67108864 b):Fd [I a.x,I a.y,I a.z,I b.x,I b.y,I b.z]=some [I (Au a b)]/\GB (sqD a b) (Au a b):=by
 have J:=KW a b;have L:=KN D hb (cq _);obtain⟨d,E⟩:=bj J;have G:=Qi4 D hb;unfold Au;rw[E]at G;rw[E];exact Zi5 G (by omega) (RW (by omega))
theorem FM (E:bd 67108864 a) (hb:bd 67108864 b):0<=Au a b/\Au a b<=268435456:=by
 obtain⟨-,G,I,D⟩:=KV E hb;have J:=KN E hb (cq _);refine⟨G,?_⟩;rcases D with D|D
 ·omega
 ·by_cases c:Au a b<=268435456
  ·exact c
  ·have:=f8 (a:=268435456) (b:=Au a b-1) (by omega) (by omega);omega
def HZ (n k:Int):Prop:=0<=k/\n<=k*(k+1)/\(k=0\/(k-1)*k<n)
theorem D8 {x:Int} (h:x.natAbs<=A) (D:A<=9223372036854775807):O x=x:=Ae
theorem ES {x y:Int} {A B:Nat} (D:x.natAbs<=A) (E:y.natAbs<=B):(x-y).natAbs<=A+B:=by omega
theorem LE {x y:Int} {A B:Nat} (D:x.natAbs<=A) (E:y.natAbs<=B):(x+y).natAbs<=A+B:=by omega
theorem TF {c u x:Int} (D:c.natAbs<=A) (E:(c+x).natAbs<=A) (h:(0<=x->0<=u/\u<=x)/\(x<=0->x<=u/\u<=0)):(c+u).natAbs<=A:=by
 rcases Int.le_total 0 x with g|g
 ·have:=h.1 g;omega
 ·have:=h.2 g;omega
theorem V7 (a b:Pt):sqD a b=(a.x-b.x)*(a.x-b.x)+(a.y-b.y)*(a.y-b.y)+(a.z-b.z)*(a.z-b.z):=rfl
theorem Ec (u:Int):0<=u*u:=by rw[<-fc];omega
theorem OB:sqD a b=0↔a=b:=by
 rw[V7];obtain⟨a1,a2,a3⟩:=a;obtain⟨b1,b2,b3⟩:=b;have J:=Ec (a1-b1);have L:=Ec (a2-b2);have M:=Ec (a3-b3);constructor
 ·intro h;simp only at h;have e1:(a1-b1)*(a1-b1)=0:=by omega
  have e2:(a2-b2)*(a2-b2)=0:=by omega
  have e3:(a3-b3)*(a3-b3)=0:=by omega
  have z:∀u:Int,u*u=0->u=0:=λu D=>by
   rcases Int.mul_eq_zero.1 D with h|h<;>exact h
  have:=z _ e1;have:=z _ e2;have:=z _ e3;rw[Pt.mk.injEq];omega
 ·intro h;injection h with E G I;subst E G I;simp
theorem Qgq (a b:Pt):(a.x-b.x)*(a.x-b.x)<=sqD a b/\(a.y-b.y)*(a.y-b.y)<=sqD a b/\(a.z-b.z)*(a.z-b.z)<=sqD a b:=by
 rw[V7];have D:=Ec (a.x-b.x);have E:=Ec (a.y-b.y);have G:=Ec (a.z-b.z);omega
noncomputable def Ba (c a:Pt) (d:Int):Pt:=⟨c.x+Bd (a.x-c.x) d (sqD a c),c.y+Bd (a.y-c.y) d (sqD a c),c.z+Bd (a.z-c.z) d (sqD a c)⟩
abbrev B24:Nat:=16777216
theorem SQ {x r n:Int} (G:x.natAbs<=33554432*4) (I:0<=r/\r<=33554432*4) (J:0<n/\n<=4611686018427387904) (D:x*x<=n) (L:r*r<=n):
  (0<=x->0<=Bd x r n/\Bd x r n<=x)/\(x<=0->x<=Bd x r n/\Bd x r n<=0):=by
 obtain⟨-,N,M⟩:=Ov G I J D;have E := Zdd (by omega) (by
  have:((r.natAbs*r.natAbs:Nat):Int)=r*r:=fc;omega) M
 unfold Bd at*;constructor
 ·intro h;rw[ab]at E⊢;omega
 ·intro h;by_cases c:x<0
  ·rw[aa c]at E⊢;omega
  ·rw[ab c]at E⊢;omega
theorem Zj5 {c a:Pt} (D:bd B24 c) (E:bd B24 a) (G:a≠c) (L:0<=d/\d<=33554432)
  (T:Z [I a.x,I a.y,I a.z,I c.x,I c.y,I c.z]=some [I (sqD a c)]) (J:∀{x:Int},x.natAbs<=33554432*4->x*x<=sqD a c->M [I x,I d,I (sqD a c)]=some [I (Bd x d (sqD a c))]/\(Bd x d (sqD a c)).natAbs<=268435456):
  Xh M Z [I c.x,I c.y,I c.z,I a.x,I a.y,I a.z,I d]=some (ptR (Ba c a d)++[B true]):=by
 have U:sqD a c≠0:=λh=>G (OB.1 h);obtain⟨V,X,Y⟩:=Qgq a c;have N:=ES E.1 D.1;have O:=ES E.2.1 D.2.1;have S:=ES E.2.2 D.2.2;obtain⟨n1,b1⟩:=J (x:=a.x-c.x) (bn N (by decide)) V;obtain⟨n2,b2⟩:=J (x:=a.y-c.y) (bn O (by decide)) X;obtain⟨n3,b3⟩:=J (x:=a.z-c.z) (bn S (by decide)) Y;have h6: ¬d<0:=gm.2 L.1;have h7: ¬d>33554432:=gm.2 L.2;rw[Zhc];simp only[go_sem,T];rw[ab U,ab h6,ab h7,D8 N (by decide),D8 O (by decide),D8 S (by decide)];simp only[go_sem,n1,n2,n3];rw[D8 (LE D.1 b1) (by decide),D8 (LE D.2.1 b2) (by decide),D8 (LE D.2.2 b3) (by decide)];rfl
theorem QR {c a:Pt} (E:bd B24 c) (G:bd B24 a) (D:a≠c) (J:0<=d/\d<=33554432):
  Gp [I c.x,I c.y,I c.z,I a.x,I a.y,I a.z,I d]=some (ptR (Ba c a d)++[B true]):=by
 have N:sqD a c≠0:=λh=>D (OB.1 h);have O:=KW a c;have S:=KN (AP G (by decide)) (AP E (by decide)) (show 67108864<=67108864 by omega);refine Zj5 E G D J (Qi4 (AP G (by decide)) (AP E (by decide))) λL M=> ?_;obtain⟨g1,g2,-⟩:=Ov L (r:=d) (by omega) (n:=sqD a c) (by omega) M;exact⟨g1,g2⟩
theorem Q8f (D:bd B24 a) (hb:bd B24 b):sqD a b<=3377699720527872:=by
 have h:∀x y:Int,x.natAbs<=B24->y.natAbs<=B24->(x-y)*(x-y)<=1125899906842624:=by
  intro x y E G;unfold B24 at*;exact(CN (x:=x-y) (A:=33554432) (by omega)).2
 have I:=h _ _ D.1 hb.1;have J:=h _ _ D.2.1 hb.2.1;have L:=h _ _ D.2.2 hb.2.2;rw[V7];omega
theorem Ga {c a:Pt} (D:bd B24 c) (E:bd B24 a) (J:a≠c) (N:0<=d/\d<Au a c):bd B24 (Ba c a d):=by
 have O:sqD a c≠0:=λh=>J (OB.1 h);have S:=KW a c;have T:=KN (AP E (by decide)) (AP D (by decide)) (show 67108864<=67108864 by omega);obtain⟨-,g1,g2,g3⟩:=KV (AP E (show B24<=67108864 by decide)) (AP D (show B24<=67108864 by decide));have hl:=FM (AP E (show B24<=67108864 by decide)) (AP D (show B24<=67108864 by decide));have G:d*d<=sqD a c:=by
  have:=f8 N.1 (show d<=Au a c-1 by omega);omega
 have L:d<=33554432*4:=by
  by_cases U:d<=33554432*4
  ·exact U
  ·exfalso;have h3:=f8 (a:=33554432*4+1) (b:=d) (by omega) (by omega);have h4:=Q8f E D;omega
 obtain⟨V,X,Y⟩:=Qgq a c;have M:0<sqD a c/\sqD a c<=4611686018427387904:=⟨Int.lt_iff_le_and_ne.2 ⟨S,λh=>O h.symm⟩,Int.le_trans T (by decide)⟩;have I:0<=d/\d<=33554432*4:=⟨N.1,L⟩;have k1:=SQ (x:=a.x-c.x) (r:=d) (n:=sqD a c) (bn (ES E.1 D.1) (by decide)) I M V G;have k2:=SQ (x:=a.y-c.y) (r:=d) (n:=sqD a c) (bn (ES E.2.1 D.2.1) (by decide)) I M X G;have k3:=SQ (x:=a.z-c.z) (r:=d) (n:=sqD a c) (bn (ES E.2.2 D.2.2) (by decide)) I M Y G;have e:∀x y:Int,x+(y-x)=y:=λx y=>by omega
 exact⟨TF D.1 (by rw[e];exact E.1) k1,TF D.2.1 (by rw[e];exact E.2.1) k2,TF D.2.2 (by rw[e];exact E.2.2) k3⟩
def Dx (p c q:Pt):Pt:=⟨p.x-c.x+(q.x-c.x),p.y-c.y+(q.y-c.y),p.z-c.z+(q.z-c.z)⟩
def Cz (p c q:Pt):Int:=Hj (Dx p c q) (Dx p c q)
theorem Qru {p c q:Pt} (D:bd B24 p) (E:bd B24 c) (G:bd B24 q):bd 67108864 (Dx p c q):=by
 unfold bd B24 Dx at*;simp only;omega
theorem Qrx (D:bd B24 a) (hb:bd B24 b):Jr [I a.x,I a.y,I a.z,I b.x,I b.y,I b.z]=some (ptR (BX a b)):=Zqe (AP D (by decide)) (AP hb (by decide))
theorem Zpx (D:bd 67108864 a) (hb:bd 67108864 b):K4 [I a.x,I a.y,I a.z,I b.x,I b.y,I b.z]=some (ptR ⟨a.x+b.x,a.y+b.y,a.z+b.z⟩):=by
 unfold K4;unfold bd at*;rw[Q36,Ae (x:=a.x+b.x),Ae (x:=a.y+b.y),Ae (x:=a.z+b.z)]
theorem Znj {p c q:Pt} (D:Y [I p.x,I p.y,I p.z,I c.x,I c.y,I c.z]=some (ptR (BX p c))) (E:Y [I q.x,I q.y,I q.z,I c.x,I c.y,I c.z]=some (ptR (BX q c)))
  (G:Z [I (BX p c).x,I (BX p c).y,I (BX p c).z,I (BX q c).x,I (BX q c).y,I (BX q c).z]=some (ptR (Dx p c q))) (J:M [I (Dx p c q).x,I (Dx p c q).y,I (Dx p c q).z,I 0,I 0,I 0]=some [I (Cz p c q)]):
  W9 M Z Y [I p.x,I p.y,I p.z,I c.x,I c.y,I c.z,I q.x,I q.y,I q.z]=some [I (Cz p c q)]:=by
 rw[Zus];simp only[go_sem,D,E,G,J]
theorem Q0z {p c q:Pt} (E:bd B24 p) (D:bd B24 c) (G:bd B24 q):Hk [I p.x,I p.y,I p.z,I c.x,I c.y,I c.z,I q.x,I q.y,I q.z]=some [I (Cz p c q)]:=by
 refine Znj (Qrx E D) (Qrx G D) (Zpx (AP (Qmc E D) (by decide)) (AP (Qmc G D) (by decide))) ?_;have h:=Qi4 (a:=Dx p c q) (b:=⟨0,0,0⟩) (Qru E D G) (by unfold bd;simp);have e:sqD (Dx p c q) ⟨0,0,0⟩=Cz p c q:=by unfold sqD BX Cz;simp
 rw[e]at h;exact h
def Cu (a c b:Pt) (D d:Int):Prop:=d<=mn (Au a c) (Au c b)-2/\Cz (Ba c a d) c (Ba c b d)<=16*D*D
theorem MY (x y:Int):mn x y<=x/\mn x y<=y:=by unfold mn;split<;>omega
theorem Q6i (a b:Pt):sqD a b=sqD b a:=by
 unfold sqD;exact Zrw a b
theorem Lc (a b:Pt):Au a b=Au b a:=by unfold Au;rw[Q6i]
open Classical in
theorem Zez {a c b:Pt} (T:bd B24 a) (N:bd B24 c) (hb:bd B24 b) (E:a≠c) (G:b≠c) (hd:0<=d/\d<=33554432) (J:0<=k/\k<=16000)
  (U:Y [I a.x,I a.y,I a.z,I c.x,I c.y,I c.z]=some [I (Au a c)]) (V:Y [I c.x,I c.y,I c.z,I b.x,I b.y,I b.z]=some [I (Au c b)])
  (l3:0<=Au a c/\Au a c<=268435456) (l4:0<=Au c b/\Au c b<=268435456)
  (O:Z [I c.x,I c.y,I c.z,I a.x,I a.y,I a.z,I d]=some (ptR (Ba c a d)++[B true])) (S:Z [I c.x,I c.y,I c.z,I b.x,I b.y,I b.z,I d]=some (ptR (Ba c b d)++[B true]))
  (X:∀{p q:Pt},bd B24 p->bd B24 q->M [I p.x,I p.y,I p.z,I c.x,I c.y,I c.z,I q.x,I q.y,I q.z]=some [I (Cz p c q)]):
  W5 M Z Y [I a.x,I a.y,I a.z,I c.x,I c.y,I c.z,I b.x,I b.y,I b.z,I k,I d]=some [B (decide (Cu a c b k d))]:=by
 rw[Zhl];obtain⟨m1,m2⟩:=MY (Au a c) (Au c b);have m3:0<=mn (Au a c) (Au c b):=by unfold mn;split<;>omega
 simp only[go_sem,U,V];rw[Ae];have a0:0<=16*k*k/\16*k*k<=4096000000:=by
  have:=d6 (show 16*k<=256000 by omega) J.2 J.1 (by omega);exact⟨ga (by omega) J.1,by omega⟩
 by_cases h:d>mn (Au a c) (Au c b)-2
 ·rw[aa h,aj (λL:Cu a c b k d=>by have:=L.1;omega)]
 ·rw[ab h];have k1:bd B24 (Ba c a d):=Ga N T E (by omega);have k2:bd B24 (Ba c b d):=Ga N hb G (by rw[Lc b c];omega);simp only[aq,ay,ptR]at O S;simp only[O,S,go_sem,X k1 k2];rw[Ae (x:=16*k),Ae (x:=16*k*k)];by_cases D:Cz (Ba c a d) c (Ba c b d)<=16*k*k
  ·rw[ah D,ah (show Cu a c b k d from⟨by omega,D⟩)]
  ·rw[aj D,aj (λL:Cu a c b k d=>D L.2)]
open Classical in
theorem Zac {a c b:Pt} (L:bd B24 a) (E:bd B24 c) (hb:bd B24 b) (G:a≠c) (J:b≠c) (M:0<=d/\d<=33554432) (N:0<=k/\k<=16000):
  HH [I a.x,I a.y,I a.z,I c.x,I c.y,I c.z,I b.x,I b.y,I b.z,I k,I d]=some [B (decide (Cu a c b k d))]:=
 have A:=AP L (show B24<=67108864 by decide);have C:=AP E (show B24<=67108864 by decide);have D:=AP hb (show B24<=67108864 by decide)
 Zez L E hb G J M N (KV A C).1 (KV C D).1 (FM A C) (FM C D) (QR E L G M) (QR E hb J M) λO S=>Q0z O E S
open Classical in
noncomputable def DY (P:Int->Prop):Nat->Int->Int
 |0,d=>if P (d+1)then d+1 else d
 |k+1,d=>DY P k (if P (d+((2^(k+1):Nat):Int))then d+((2^(k+1):Nat):Int)else d)
open Classical in
theorem Qta {P:Int->Prop}:∀(k:Nat) (d:Int),d<=DY P k d/\DY P k d<d+((2^(k+1):Nat):Int)/\(DY P k d=d\/P (DY P k d))
 |0,d=>by
  have e:((2^(0+1):Nat):Int)=2:=rfl;rw[e];unfold DY;split
  ·rename_i h;exact⟨by omega,by omega, .inr h⟩
  ·exact⟨by omega,by omega, .inl rfl⟩
 |k+1,d=>by
  unfold DY;have J:0<2^(k+1):=dw _;have e3:2^(k+1+1)=2^(k+1)+2^(k+1):=by rw[dx 2 (k+1)];omega
  rw[e3];have D:(if P (d+((2^(k+1):Nat):Int))then d+((2^(k+1):Nat):Int)else d)=d\/((if P (d+((2^(k+1):Nat):Int))then d+((2^(k+1):Nat):Int)else d)=d+((2^(k+1):Nat):Int)/\P (if P (d+((2^(k+1):Nat):Int))then d+((2^(k+1):Nat):Int)else d)):=by
   split
   ·rename_i h;exact .inr ⟨rfl,h⟩
   ·exact .inl rfl
  generalize(if P (d+((2^(k+1):Nat):Int))then d+((2^(k+1):Nat):Int)else d)=G at*;obtain⟨L,M,E⟩:=Qta (P:=P) k G;generalize DY P k G=x at*;generalize 2^(k+1)=m at*;rcases D with D|⟨D,I⟩
  ·subst D;exact⟨by omega,by omega,E⟩
  ·refine⟨by omega,by omega, .inr ?_⟩;rcases E with E|E
   ·rw[E];exact I
   ·exact E
open Classical in
theorem Q1k {M:Fn} {a c b:Pt} {tol:Int} (E:∀{d:Int},0<=d/\d<=33554432->M [I a.x,I a.y,I a.z,I c.x,I c.y,I c.z,I b.x,I b.y,I b.z,I tol,I d]=some [B (decide (Cu a c b tol d))]):
  ∀(k:Nat) (d:Int),0<=d/\d+((2^(k+1):Nat):Int)<=33554432->
  An (Ir M) [I tol,I d,I ((2^k:Nat):Int),I a.x,I a.y,I a.z,I c.x,I c.y,I c.z,I b.x,I b.y,I b.z]=some (1,[I (DY (Cu a c b tol) k d)])
 |0,d,J=>by
  simp only[dl,Nat.pow_one]at J;have D:∀d:Int,An (Ir M) [I tol,I d,I 0,I a.x,I a.y,I a.z,I c.x,I c.y,I c.z,I b.x,I b.y,I b.z]=some (1,[I d]):=by
   intro d;refine AG ?_ (by simp);rw[Th];simp only[go_sem];rw[ab]
  have G:Ir M [I tol,I d,I ((2^0:Nat):Int),I a.x,I a.y,I a.z,I c.x,I c.y,I c.z,I b.x,I b.y,I b.z]=some (0,[I tol,I (if Cu a c b tol (d+1)then d+1 else d),I 0,I a.x,I a.y,I a.z,I c.x,I c.y,I c.z,I b.x,I b.y,I b.z]):=by
   rw[Th];have e:((2^0:Nat):Int)=1:=rfl;rw[e,Ae (x:=d+1),Qhu];simp only[go_sem,E (d:=d+1) (by omega)];rw[aa];by_cases h:Cu a c b tol (d+1)
   ·rw[aa h,aa h]
   ·rw[ab h,ab h]
  rw[AR G,D];rfl
 |k+1,d,J=>by
  have L:0<2^(k+1):=dw _;have e3:2^(k+1+1)=2^(k+1)+2^(k+1):=by rw[dx 2 (k+1)];omega
  have G:Ir M [I tol,I d,I ((2^(k+1):Nat):Int),I a.x,I a.y,I a.z,I c.x,I c.y,I c.z,I b.x,I b.y,I b.z]=
    some (0,[I tol,I (if Cu a c b tol (d+((2^(k+1):Nat):Int))then d+((2^(k+1):Nat):Int)else d),I ((2^k:Nat):Int),I a.x,I a.y,I a.z,I c.x,I c.y,I c.z,I b.x,I b.y,I b.z]):=by
   rw[Th,Ae (x:=d+((2^(k+1):Nat):Int)) (by omega),Tx];simp only[go_sem,E (d:=d+((2^(k+1):Nat):Int)) (by omega)];rw[aa];by_cases h:Cu a c b tol (d+((2^(k+1):Nat):Int))
   ·rw[aa h,aa h]
   ·rw[ab h,ab h]
  rw[AR G];refine(Q1k E k _ ?_).trans rfl;split<;>omega
open Classical in
noncomputable def Ca (a c b:Pt) (D:Int):Int:=if a=c\/b=c then 0 else if DY (Cu a c b D) 24 0<16 then 0 else DY (Cu a c b D) 24 0
theorem RR {a c b:Pt} (h:Ca a c b k≠0):a≠c/\b≠c/\16<=Ca a c b k/\Ca a c b k<33554432/\Cu a c b k (Ca a c b k):=by
 unfold Ca at*;split at h
 ·exact absurd rfl h
 ·rename_i E;rw[ab E];split at h
  ·exact absurd rfl h
  ·rename_i G;rw[ab G];obtain⟨J,I,D⟩:=Qta (P:=Cu a c b k) 24 0;have e:((2^(24+1):Nat):Int)=33554432:=rfl;rw[e]at I;refine⟨λh=>E (.inl h),λh=>E (.inr h),by omega,by omega,?_⟩;rcases D with D|D
   ·omega
   ·exact D
theorem BU:a=b↔a.x=b.x/\a.y=b.y/\a.z=b.z:=by
 obtain⟨a1,a2,a3⟩:=a;obtain⟨b1,b2,b3⟩:=b;simp
theorem Zpb {a c b:Pt} (L:bd B24 a) (N:bd B24 c) (hb:bd B24 b) (O:0<=k/\k<=16000):
  Jc [I a.x,I a.y,I a.z,I c.x,I c.y,I c.z,I b.x,I b.y,I b.z,I k]=some [I (Ca a c b k)]:=by
 show Qdi _ (An (Ir _)) _=_;rw[Zpc];unfold Ca;by_cases G:a=c
 ·rw[aa (.inl G)];have D:=BU.1 G;simp only[go_sem];rw[aa ⟨D.1,D.2.1,D.2.2,trivial⟩]
 ·by_cases D:b=c
  ·rw[aa (.inr D)];have E:=BU.1 D;simp only[go_sem];rw[ab (λh=>G (BU.2 ⟨h.1,h.2.1,h.2.2.1⟩)),aa ⟨E.1,E.2.1,E.2.2,trivial⟩]
  ·have S:=Q1k (M:=HH) (a:=a) (c:=c) (b:=b) (tol:=k) (λT=>Zac L N hb G D T O) 24 0 (by decide);have J:An (Ir HH) [I k,I 0,AC.int IntKind.i64 16777216,I a.x,I a.y,I a.z,I c.x,I c.y,I c.z,I b.x,I b.y,I b.z]=some (1,[I (DY (Cu a c b k) 24 0)]):=S;generalize HH=M at*;simp only[go_sem,J];rw[ab (λh=>G (BU.2 ⟨h.1,h.2.1,h.2.2.1⟩)),ab (λh=>D (BU.2 ⟨h.1,h.2.1,h.2.2.1⟩)),ab (show¬(a=c\/b=c)from λh=>h.elim G D)];by_cases E:DY (Cu a c b k) 24 0<16
   ·rw[aa E,aa E]
   ·rw[ab E,ab E]
def Je (D:Int):Nat->Int->Int
 |0,n=>n
 |k+1,n=>if n<64/\D>16*n*n*n*n*4*4 then Je D k (n*2)else n
def GW (n:Int):Prop:=n=2\/n=4\/n=8\/n=16\/n=32\/n=64
theorem Q33 {p c q:Pt} (T:M [I p.x,I p.y,I p.z,I c.x,I c.y,I c.z,I q.x,I q.y,I q.z]=some [I (Cz p c q)]):
  ∀(k:Nat) (n:Int),GW n->64<=n*2^k->An (NH M) [I n,I p.x,I p.y,I p.z,I c.x,I c.y,I c.z,I q.x,I q.y,I q.z]=some (1,[I (Je (Cz p c q) k n)])/\GW (Je (Cz p c q) k n):=by
 have G:∀n:Int,GW n->NH M [I n,I p.x,I p.y,I p.z,I c.x,I c.y,I c.z,I q.x,I q.y,I q.z]=if n<64/\Cz p c q>16*n*n*n*n*4*4 then some (0,[I (n*2),I p.x,I p.y,I p.z,I c.x,I c.y,I c.z,I q.x,I q.y,I q.z])else some (1,[I n]):=by
  intro n D;rw[Q92];simp only[go_sem,T];have N:O (O (O (O (O (O (16*n)*n)*n)*n)*4)*4)=16*n*n*n*n*4*4/\O (n*2)=n*2:=by
   rcases D with rfl|rfl|rfl|rfl|rfl|rfl<;>decide
  rw[N.1,N.2];by_cases J:n<64
  ·rw[aa J];by_cases L:Cz p c q>16*n*n*n*n*4*4
   ·rw[aa L,aa ⟨J,L⟩]
   ·rw[ab L,ab (λh=>L h.2)]
  ·rw[ab J,ab (λh=>J h.1)]
 intro k;induction k with
 |zero=>
  intro n D E;have:n=64:=by rcases D with rfl|rfl|rfl|rfl|rfl|rfl<;>simp at E⊢
  subst this;refine⟨AG ?_ (by simp),D⟩;rw[G _ D,ab];rfl
 |succ k U=>
  intro n D E;unfold Je;by_cases h:n<64/\Cz p c q>16*n*n*n*n*4*4
  ·rw[aa h];have S:=G n D;rw[aa h]at S;rw[AR S];refine U (n*2) ?_ ?_
   ·rcases D with rfl|rfl|rfl|rfl|rfl|rfl<;>simp[GW]at h⊢
   ·rw[Int.pow_succ]at E;rw[Int.mul_assoc,iv 2];exact E
  ·rw[ab h];refine⟨AG ?_ (by simp),D⟩;rw[G _ D,ab h]
def HD (p c q:Pt):Int:=Je (Cz p c q) 5 2
theorem Pw {p c q:Pt} (D:bd B24 p) (E:bd B24 c) (G:bd B24 q):Ib [I p.x,I p.y,I p.z,I c.x,I c.y,I c.z,I q.x,I q.y,I q.z]=some [I (HD p c q)]/\GW (HD p c q):=by
 obtain⟨J,L⟩:=Q33 (Q0z D E G) 5 2 (.inl rfl) (by decide);refine⟨?_,L⟩;show Un _ (An (NH _)) _=_;generalize Hk=M at*;rw[Zko];simp only[go_sem,J];rfl
def JT (n i p c q:Int):Int:=c+C9 ((n-i)*(n-i)*(p-c)+i*i*(q-c)) (n*n)
def EV (n i:Int) (p c q:Pt):Pt:=⟨JT n i p.x c.x q.x,JT n i p.y c.y q.y,JT n i p.z c.z q.z⟩
theorem Qm5 {a b n:Int} (D:0<n) (h:a<=b):C9 a n<=C9 b n:=by
 unfold C9;exact Int.ediv_le_ediv (by omega) (by omega)
theorem Qx8 {k n:Int} (D:0<n):C9 (k*n) n=k:=JC D (by rw[show k*(2*n)=2*(k*n) by grind];omega) (by rw[show(k+1)*(2*n)=2*(k*n)+2*n by grind];omega)
theorem HA {n i p c q:Int} (G:0<n) (I:0<=i/\i<=n) (X:p.natAbs<=A) (Y:c.natAbs<=A) (hq:q.natAbs<=A):(JT n i p c q).natAbs<=A:=by
 have D:0<n*n:=Int.mul_pos G G;have J:0<=(n-i)*(n-i):=Ec _;have L:0<=i*i:=Ec _;have M:(n-i)*(n-i)+i*i<=n*n:=by
  have:n*n-((n-i)*(n-i)+i*i)=2*(i*(n-i)):=by grind
  have:0<=i*(n-i):=ga I.1 (by omega);omega
 have key:∀s:Int,(s=1\/s= -1)->s*((n-i)*(n-i)*(p-c)+i*i*(q-c))<=(A-s*c)*(n*n):=by
  intro s E;have N:s*p<=A:=by rcases E with rfl|rfl<;>omega
  have O:s*c<=A:=by rcases E with rfl|rfl<;>omega
  have S:s*q<=A:=by rcases E with rfl|rfl<;>omega
  have g1:(n-i)*(n-i)*(s*p-s*c)<=(n-i)*(n-i)*(A-s*c):=Int.mul_le_mul_of_nonneg_left (by omega) J;have g2:i*i*(s*q-s*c)<=i*i*(A-s*c):=Int.mul_le_mul_of_nonneg_left (by omega) L;have g3:((n-i)*(n-i)+i*i)*(A-s*c)<=n*n*(A-s*c):=Int.mul_le_mul_of_nonneg_right M (by omega);have e1:s*((n-i)*(n-i)*(p-c)+i*i*(q-c))=(n-i)*(n-i)*(s*p-s*c)+i*i*(s*q-s*c):=by grind
  have e2:((n-i)*(n-i)+i*i)*(A-s*c)=(n-i)*(n-i)*(A-s*c)+i*i*(A-s*c):=il ..;have e3:(A-s*c)*(n*n)=n*n*(A-s*c):=iv ..;omega
 unfold JT;have T:=Qm5 D (key 1 (.inl rfl)|>λh=>(by rw[gf,gf]at h;exact h));rw[Qx8 D]at T;have k2:=key (-1) (.inr rfl);have U:(-(A:Int)-c)*(n*n)<=(n-i)*(n-i)*(p-c)+i*i*(q-c):=by
  have e:(-(A:Int)-c)*(n*n)= -((A- -1*c)*(n*n)):=by grind
  omega
 have V:=Qm5 D U;rw[Qx8 D]at V;omega
noncomputable def Ez (a c b:Pt) (D:Int):List Pt:=
 if Ca a c b D=0 then [c]
 else(List.range ((HD (Ba c a (Ca a c b D)) c (Ba c b (Ca a c b D))).toNat+1)).map fun(i:Nat)=>EV (HD (Ba c a (Ca a c b D)) c (Ba c b (Ca a c b D))) i (Ba c a (Ca a c b D)) c (Ba c b (Ca a c b D))
theorem Qsa {a c b:Pt} (J:bd B24 a) (D:bd B24 c) (hb:bd B24 b):(∀p∈Ez a c b k,bd B24 p)/\1<=(Ez a c b k).length/\(Ez a c b k).length<=65:=by
 unfold Ez;by_cases h:Ca a c b k=0
 ·rw[aa h];simp;exact D
 ·rw[ab h];obtain⟨L,M,O,S,T,-⟩:=RR h;obtain⟨m1,m2⟩:=MY (Au a c) (Au c b);generalize Ca a c b k=d at*;have E:bd B24 (Ba c a d):=Ga D J L (by omega);have G:bd B24 (Ba c b d):=Ga D hb M (by rw[Lc b c];omega);have N:=(Pw E D G).2;generalize HD (Ba c a d) c (Ba c b d)=n at*;have U:2<=n/\n<=64:=by rcases N with rfl|rfl|rfl|rfl|rfl|rfl<;>omega
  refine⟨?_,by simp,by simp;omega⟩;intro p I;simp only[av,List.mem_range]at I;obtain⟨i,V,rfl⟩:=I;exact⟨HA (by omega) (by omega) E.1 D.1 G.1,HA (by omega) (by omega) E.2.1 D.2.1 G.2.1,HA (by omega) (by omega) E.2.2 D.2.2 G.2.2⟩
theorem Zoo {n i p c q:Int} (D:2<=n/\n<=64) (E:0<=i/\i<=n) (G:p.natAbs<=B24) (J:c.natAbs<=B24) (L:q.natAbs<=B24):
  E2 [I (O (O (O (O (n-i)*O (n-i))*O (p-c))+O (O (i*i)*O (q-c)))),I (O (n*n))]=some [I (C9 ((n-i)*(n-i)*(p-c)+i*i*(q-c)) (n*n))]:=by
 have M:0<n*n/\n*n<=4096:=⟨Int.mul_pos (by omega) (by omega),by have:=d6 D.2 D.2 (by omega) (by omega);omega⟩;have N:0<=(n-i)*(n-i)/\(n-i)*(n-i)<=4096:=⟨Ec _,by have:=d6 (show n-i<=64 by omega) (show n-i<=64 by omega) (by omega) (by omega);omega⟩;have S:0<=i*i/\i*i<=4096:=⟨Ec _,by have:=d6 (show i<=64 by omega) (show i<=64 by omega) (by omega) (by omega);omega⟩;unfold B24 at*;rw[Ae (x:=n-i),Ae (x:=(n-i)*(n-i)),Ae (x:=p-c),Ae (x:=i*i),Ae (x:=q-c),Ae (x:=n*n)];have m1:=D6 (x:=(n-i)*(n-i)) (y:=p-c) (A:=4096) (B:=33554432) (by omega) (by omega);have m2:=D6 (x:=i*i) (y:=q-c) (A:=4096) (B:=33554432) (by omega) (by omega);generalize(n-i)*(n-i)*(p-c)=u at*;generalize i*i*(q-c)=v at*;rw[Ae (x:=u),Ae (x:=v),Ae];exact Qyx (by omega) (by omega)
theorem Qvt {MR MP MT MC:Fn} {p c q:Pt} {N:Nat} (M:2<=N/\N<=64) (D:bd B24 p) (E:bd B24 c) (G:bd B24 q)
  (L:∀{i p c q:Int},(0<=i/\i<=N)->p.natAbs<=B24->c.natAbs<=B24->q.natAbs<=B24->MR [I (O (O (O (O ((N:Int)-i)*O ((N:Int)-i))*O (p-c))+O (O (i*i)*O (q-c)))),I (O ((N:Int)*(N:Int)))]=some [I (C9 (((N:Int)-i)*((N:Int)-i)*(p-c)+i*i*(q-c)) ((N:Int)*(N:Int)))]):
  ∀(k i:Nat),i+k=N+1->An (KI MR MP MT MC) [.vC kPt (((List.range i).map fun(i:Nat)=>EV N i p c q).map ptR),I N,I i,I c.x,I c.y,I c.z,I p.x,I p.y,I p.z,I q.x,I q.y,I q.z]=
   some (1,[.vC kPt (((List.range (N+1)).map fun(i:Nat)=>EV N i p c q).map ptR)])
 |0,i,S=>by
  obtain rfl:i=N+1:=by omega
  refine AG ?_ (by simp);rw[Qus];simp only[go_sem];rw[ab]
 |k+1,i,S=>by
  have b1:=HA (n:=N) (i:=i) (A:=B24) (by omega) (by omega) D.1 E.1 G.1;have b2:=HA (n:=N) (i:=i) (A:=B24) (by omega) (by omega) D.2.1 E.2.1 G.2.1;have b3:=HA (n:=N) (i:=i) (A:=B24) (by omega) (by omega) D.2.2 E.2.2 G.2.2;have T:=L (i:=i) (by omega) D.1 E.1 G.1;have U:=L (i:=i) (by omega) D.2.1 E.2.1 G.2.1;have V:=L (i:=i) (by omega) D.2.2 E.2.2 G.2.2;have X:KI MR MP MT MC [.vC kPt (((List.range i).map fun(i:Nat)=>EV N i p c q).map ptR),I N,I i,I c.x,I c.y,I c.z,I p.x,I p.y,I p.z,I q.x,I q.y,I q.z]=
    some (0,[.vC kPt (((List.range (i+1)).map fun(i:Nat)=>EV N i p c q).map ptR),I N,I (i+1:Nat),I c.x,I c.y,I c.z,I p.x,I p.y,I p.z,I q.x,I q.y,I q.z]):=by
   rw[Qus];simp only[go_sem,T,U,V];rw[aa];unfold JT B24 at b1 b2 b3;rw[Ae (x:=c.x+_),Ae (x:=c.y+_),Ae (x:=c.z+_),Ae (x:=(i:Int)+1)];have J:((List.range i++[i]).map fun(i:Nat)=>EV N i p c q).map ptR=((List.range i).map fun(i:Nat)=>EV N i p c q).map ptR++[ptR (EV N i p c q)]:=by simp
   rw[J,aa (by simp only[am,af,List.length_range,bf,bm];omega)];rfl
  rw[AR X];exact Qvt M D E G L k (i+1) (by omega)
theorem Q35 {a c b:Pt} (E:bd B24 a) (D:bd B24 c) (hb:bd B24 b) (X:0<=k/\k<=16000):
  NN [I a.x,I a.y,I a.z,I c.x,I c.y,I c.z,I b.x,I b.y,I b.z,I k]=some [.vC kPt ((Ez a c b k).map ptR)]:=by
 show Qdh _ _ _ _ (An (KI _ _ _ _)) _=_;have e1:=Zpb E D hb X;have Y:= @Zoo;generalize Jc=J at*;unfold Ez;by_cases h:Ca a c b k=0
 ·rw[aa h];rw[Qm8];simp only[go_sem,e1];rw[aa h];rfl
 ·rw[ab h];obtain⟨L,M,h3,h4,h5,-⟩:=RR h;obtain⟨m1,m2⟩:=MY (Au a c) (Au c b);have h0: ¬Ca a c b k=0:=h;generalize Ca a c b k=d at*;have O:bd B24 (Ba c a d):=Ga D E L (by omega);have S:bd B24 (Ba c b d):=Ga D hb M (by rw[Lc b c];omega);have T:=QR D E L (d:=d) (by omega);have U:=QR D hb M (d:=d) (by omega);obtain⟨p1,V⟩:=Pw O D S;generalize HD (Ba c a d) c (Ba c b d)=n at*;obtain⟨N,rfl⟩:∃N:Nat,n=N:=⟨n.toNat,by rcases V with rfl|rfl|rfl|rfl|rfl|rfl<;>rfl⟩;have hN:2<=N/\N<=64:=by unfold GW at V;omega
  have hl:=Qvt (MR:=E2) (MP:=Ib) (MT:=Gp) (MC:=J) hN O D S (λhi hp D hq=>Y (by omega) hi hp D hq) (N+1) 0 (by omega);generalize E2=MR at*;generalize Ib=MP at*;generalize Gp=MT at*;generalize Ba c a d=p at*;generalize Ba c b d=q at*;rw[Qm8];simp only[aq,ay,ptR]at T U;have G:An (KI MR MP MT J) [.vC kPt [],I N,I 0,I c.x,I c.y,I c.z,I p.x,I p.y,I p.z,I q.x,I q.y,I q.z]=some (1,[.vC kPt (((List.range (N+1)).map fun(i:Nat)=>EV N i p c q).map ptR)]):=hl;simp only[go_sem,e1,T,U,p1,G];rw[ab h0,ag]
theorem Q5o (p:Pt) (l:Int) (N:0<=l/\l<=1000000000):∃r,LQ [I p.x,I p.y,I p.z,I l]=some [B r]/\(r=true↔bd l.toNat p):=by
 unfold LQ;rw[Zby];simp only[go_sem];rw[Ae];unfold bd;by_cases D:p.x<0-l
 ·rw[aa D];exact⟨_,rfl,by simp;omega⟩
 rw[ab D];by_cases E:p.x>l
 ·rw[aa E];exact⟨_,rfl,by simp;omega⟩
 rw[ab E];by_cases G:p.y<0-l
 ·rw[aa G];exact⟨_,rfl,by simp;omega⟩
 rw[ab G];by_cases J:p.y>l
 ·rw[aa J];exact⟨_,rfl,by simp;omega⟩
 rw[ab J];by_cases L:p.z<0-l
 ·rw[aa L];exact⟨_,rfl,by simp;omega⟩
 rw[ab L];by_cases M:p.z>l
 ·rw[aa M];exact⟨_,rfl,by simp;omega⟩
 rw[ab M];exact⟨_,rfl,by simp;omega⟩
theorem Q8 {v n:Int} (_:i64 v) (D:0<n/\n<=4611686018427387904):GS [I v,I n]=some [I (v%n)]:=by
 unfold GS;rw[Zgj,AM (by omega),AM (by omega)];have L: -n<v.tmod n/\v.tmod n<n:=by
  have a1:=Int.tmod_lt_of_pos v D.1;have a2:=Int.lt_tmod_of_pos v D.1;omega
 rw[Ae];have E:(v.tmod n+n).tmod n=v%n:=by
  rw[gi (by omega),Int.add_emod_right];have G:=Int.tmod_add_mul_tdiv v n;have J:v%n=(v.tmod n+n*v.tdiv n)%n:=by rw[G]
  rw[J,Int.add_mul_emod_self_left]
 rw[E]
def Src (l:Rw):Prop:=l.length<=9223372036854775807/\∀c∈l,i64 (Ah (nth .dead c 0))
theorem Zfq (h:i<l.length):nth [] l i∈l:=by rw[LY [] l i h];exact bv h
theorem Zk9 (G:∀v n:Int,i64 v->0<n/\n<=4611686018427387904->M [I v,I n]=some [I (v%n)]) {l:Rw} (E:Src l) {k:Nat} {n:Int} (D:0<n/\n<=4611686018427387904):
  ∃(v:Int) (k':Nat),Qhe M [I n, .vC Aa l,I k]=some [I v, .vC Aa l,I k']/\0<=v/\v<n/\k<=k'/\(k<l.length->k'=k+1)/\(l.length<=k->k'=k):=by
 have J:=E.1;rw[Zkk];by_cases h:k<l.length
 ·have L:=G _ n (E.2 _ (Zfq h)) D;simp only[go_sem,ag,L];rw[ab,aa,Ae];exact⟨_,k+1,rfl,Int.emod_nonneg _ (by omega),Int.emod_lt_of_pos _ D.1,by omega,λ_=>rfl,by omega⟩
 ·simp only[go_sem];rw[aa];exact⟨0,k,rfl,by omega,D.1,by omega,by omega,λ_=>rfl⟩
theorem Zs5 (E:Src l) (k:Nat) {n:Int} (D:0<n/\n<=4611686018427387904):
  ∃(v:Int) (k':Nat),Cc [I n, .vC Aa l,I k]=some [I v, .vC Aa l,I k']/\0<=v/\v<n/\k<=k'/\(k<l.length->k'=k+1)/\(l.length<=k->k'=k):=
 Zk9 (λ_ _ G D=>Q8 G D) E D
theorem Q62 (l:Rw) (k:Nat):Ik [.vC Aa l,I k]=some [B (decide (k<l.length)), .vC Aa l,I k]:=by
 unfold Ik;rw[Q5m];congr 3;simp
theorem Qv (l:Rw):Dj [.vC Aa l]=some [.vC Aa l,I 0]:=by
 unfold Dj;rw[Zd7]
def AW (r:Int) (k:Int):Int:=if k%4=0 then r else if k%4=2 then-r else 0
def AX (r:Int) (k:Int):Int:=if k%4=1 then r else if k%4=3 then-r else 0
theorem Zur (G:0<=r/\r<=1000000) (D:0<=k/\k<=1000):Me [I r,I k]=some [I (AW r k),I (AX r k)]:=by
 unfold Me;rw[Zjq,Ae,gi D.1];have E:k%4=0\/k%4=1\/k%4=2\/k%4=3:=by omega
 unfold AW AX;rcases E with h|h|h|h<;>rw[h]<;>simp[nth,Ah]
def plU (pl:Int) (p:Pt):Int:=if pl=17 then p.x else if pl=18 then p.z else p.y
def plW (pl:Int) (p:Pt):Int:=if pl=17 then p.y else if pl=18 then p.x else p.z
def plH (pl:Int) (p:Pt):Int:=if pl=17 then p.z else if pl=18 then p.y else p.x
def spP (pl u w h:Int):Pt:=if pl=17 then⟨u,w,h⟩else if pl=18 then⟨w,h,u⟩else⟨h,u,w⟩
def BL (pl:Int):Prop:=pl=17\/pl=18\/pl=19
theorem Qbz (h:BL k):Ff [I a.x,I a.y,I a.z,I k]=some [I (plU k a),I (plW k a),I (plH k a)]:=by
 unfold Ff;rw[Zdt];rcases h with rfl|rfl|rfl<;>rfl
theorem Q10 {u w h pl:Int} (D:BL pl):Hd [I u,I w,I h,I pl]=some (ptR (spP pl u w h)):=by
 unfold Hd;rw[Zsp];rcases D with rfl|rfl|rfl<;>rfl
theorem Lj {pl u w h:Int} (D:BL pl):plU pl (spP pl u w h)=u/\plW pl (spP pl u w h)=w/\plH pl (spP pl u w h)=h:=by
 rcases D with rfl|rfl|rfl<;>exact⟨rfl,rfl,rfl⟩
structure ArcMade (size : Int) (it : Itm) : Prop where
 aP:it.aP=3
 aG:BL it.aG
 dir:it.dir=1\/it.dir= -1
 ends:∃r k t g h:Int,8<=r/\r<8+size/\0<=k/\k<=3/\0<=t/\t<=3/\0<=g/\g<=4/\(h=0\/h=7\/h= -12)/\(t=0->g=0)/\it.bG=decide (t=0)/\
  it.ce=spP it.aG (plU it.aG it.fr-AW r k) (plW it.aG it.fr-AX r k) (plH it.aG it.fr)/\
  it.to=spP it.aG (plU it.aG it.fr-AW r k+AW (r+g) (k+t)) (plW it.aG it.fr-AX r k+AX (r+g) (k+t)) (plH it.aG it.fr+h)
theorem Nk (D:0<=r):(-r<=AW r k/\AW r k<=r)/\(-r<=AX r k/\AX r k<=r):=by
 unfold AW AX;constructor<;>constructor<;>split<;>(try split)<;>omega
theorem Q3d (G:1<=r) (k:Int):((AW r k).tdiv r=AW 1 k)/\((AX r k).tdiv r=AX 1 k):=by
 have D:r.tdiv r=1:=Int.tdiv_self (by omega);have E:(-r).tdiv r= -1:=by rw[Int.neg_tdiv,D]
 unfold AW AX;constructor<;>split<;>(try split)<;>simp[D,E]
theorem Zr7 (r k e f:Int):∃g,(g=e\/g=f)/\AW r k+AW 1 k*e=AW (r+g) k/\AX r k+AX 1 k*f=AX (r+g) k:=by
 unfold AW AX;by_cases h:k%4=0\/k%4=2
 ·refine⟨e, .inl rfl,?_,?_⟩
  ·rcases h with h|h<;>simp[h]<;>omega
  ·rcases h with h|h<;>simp[h]
 ·have D:k%4=1\/k%4=3:=by omega
  refine⟨f, .inr rfl,?_,?_⟩
  ·rcases D with h|h<;>simp[h]
  ·rcases D with h|h<;>simp[h]<;>omega
theorem EC {pl:Int} (h:bd i a):(plU pl a).natAbs<=i/\(plW pl a).natAbs<=i/\(plH pl a).natAbs<=i:=by
 obtain⟨D,E,G⟩:=h;unfold plU plW plH;refine⟨?_,?_,?_⟩<;>split<;>(try split)<;>assumption
def GZ (l:Rw) (M:Fn):Prop:=∀(k:Nat) {n:Int},0<n/\n<=4611686018427387904->
  ∃(v:Int) (k':Nat),M [I n, .vC Aa l,I k]=some [I v, .vC Aa l,I k']/\0<=v/\v<n/\k<=k'/\(k<l.length->k'=k+1)/\(l.length<=k->k'=k)
abbrev EY (it:Itm):Prop:=it.block=0/\it.side=0/\it.radius=0/\it.aS=0/\it.on=false
theorem Zpz (h:0<=v/\v<3):Ah (nth .dead (nth [] [[I 17],[I 18],[I 19]] v.toNat) 0)=17+v:=by
 have D:v=0\/v=1\/v=2:=by omega
 rcases D with rfl|rfl|rfl<;>rfl
theorem Quz (h:0<=v/\v<4):∃x,Ah (nth .dead (nth [] [[I 0],[I 0],[I 7],[I (-12)]] v.toNat) 0)=x/\(x=0\/x=7\/x= -12):=by
 have D:v=0\/v=1\/v=2\/v=3:=by omega
 rcases D with rfl|rfl|rfl|rfl<;>exact⟨_,rfl,by decide⟩
theorem Q4m (N:GZ l W)
  (hP:∀{p:Pt} {pl:Int},BL pl->Y [I p.x,I p.y,I p.z,I pl]=some [I (plU pl p),I (plW pl p),I (plH pl p)])
  (hS:∀{u w h pl:Int},BL pl->M [I u,I w,I h,I pl]=some (ptR (spP pl u w h)))
  (hT:∀{r k:Int},(0<=r/\r<=1000000)->(0<=k/\k<=1000)->Z [I r,I k]=some [I (AW r k),I (AX r k)])
  {p:Pt} (hp:bd 100000000 p) {size:Int} (hs:0<size/\size<=100000) (k:Nat):
  ∃(it:Itm) (k':Nat),Qdb M Z Y W [I p.x,I p.y,I p.z,I size, .vC Aa l,I k]=some (Ag it++[.vC Aa l,I k'])/\k<=k'/\it.fr=p/\ArcMade size it/\
   it.aZ=0/\it.perRev=false/\it.bH=0/\it.n=0/\EY it:=by
 obtain⟨J,k1,e1,a1,b1,c1,-,-⟩:=N k (n:=3) (by omega);obtain⟨V,k2,e2,a2,b2,c2,-,-⟩:=N k1 (n:=2) (by omega);obtain⟨E,k3,e3,a3,b3,c3,-,-⟩:=N k2 (n:=size) (by omega);obtain⟨D,k4,e4,a4,b4,c4,-,-⟩:=N k3 (n:=4) (by omega);obtain⟨G,k5,e5,a5,b5,c5,-,-⟩:=N k4 (n:=4) (by omega);rw[Zlb];simp only[go_sem,e1,e2,e3,e4,e5];rw[aa (by simp;omega)];have X:BL (17+J):=by unfold BL;omega
 have w1:O (8+E)=8+E:=Ae;have w2:O (D+G)=D+G:=Ae;simp only[Zpz ⟨a1,b1⟩,hP X,go_sem,w1,w2,hT (r:=8+E) (k:=D) (by omega) (by omega),hT (r:=8+E) (k:=D+G) (by omega) (by omega),hS X];obtain⟨q1,q2,q3⟩:=EC (pl:=17+J) hp;obtain⟨⟨r1,r2⟩,r3,r4⟩:=Nk (r:=8+E) (k:=D) (by omega);obtain⟨⟨r5,r6⟩,r7,r8⟩:=Nk (r:=8+E) (k:=D+G) (by omega);obtain⟨d1,d2⟩:=Q3d (r:=8+E) (by omega) (D+G);obtain⟨⟨r9,f3⟩,f4,g0⟩:=Nk (r:=1) (k:=D+G) (by omega);have w3:O (plU (17+J) p-AW (8+E) D)=plU (17+J) p-AW (8+E) D:=Ae;have w4:O (plW (17+J) p-AX (8+E) D)=plW (17+J) p-AX (8+E) D:=Ae;have w5:O (1-O (V*2))=1-V*2:=by rw[Ae (x:=V*2),Ae]
 have w6:O (plU (17+J) p-AW (8+E) D+AW (8+E) (D+G))=plU (17+J) p-AW (8+E) D+AW (8+E) (D+G):=Ae;have w7:O (plW (17+J) p-AX (8+E) D+AX (8+E) (D+G))=plW (17+J) p-AX (8+E) D+AX (8+E) (D+G):=Ae;rw[w3,w4,w5,w6,w7];have c0:1-V*2=1\/1-V*2= -1:=by omega
 have fin:∀(g:Int) (u w:Int) (k8:Nat),k5<=k8->0<=g->g<=4->(G=0->g=0)->u=AW (8+E+g) (D+G)->w=AX (8+E+g) (D+G)->∀L:Int,0<=L/\L<4->
   ∃it:Itm,[I 3,I 0,I p.x,I p.y,I p.z,I (spP (17+J) (plU (17+J) p-AW (8+E) D+u) (plW (17+J) p-AX (8+E) D+w) (plH (17+J) p+Ah (nth .dead (nth [] [[I 0],[I 0],[I 7],[I (-12)]] L.toNat) 0))).x,
    I (spP (17+J) (plU (17+J) p-AW (8+E) D+u) (plW (17+J) p-AX (8+E) D+w) (plH (17+J) p+Ah (nth .dead (nth [] [[I 0],[I 0],[I 7],[I (-12)]] L.toNat) 0))).y,
    I (spP (17+J) (plU (17+J) p-AW (8+E) D+u) (plW (17+J) p-AX (8+E) D+w) (plH (17+J) p+Ah (nth .dead (nth [] [[I 0],[I 0],[I 7],[I (-12)]] L.toNat) 0))).z,
    I (17+J),I (spP (17+J) (plU (17+J) p-AW (8+E) D) (plW (17+J) p-AX (8+E) D) (plH (17+J) p)).x,I (spP (17+J) (plU (17+J) p-AW (8+E) D) (plW (17+J) p-AX (8+E) D) (plH (17+J) p)).y,I (spP (17+J) (plU (17+J) p-AW (8+E) D) (plW (17+J) p-AX (8+E) D) (plH (17+J) p)).z,
    I (1-V*2),B (decide (G=0)),I 0,B false,I 0,I 0,I 0,I 0,I 0,B false, .vC Aa l,I k8]=Ag it++[.vC Aa l,I k8]/\it.fr=p/\ArcMade size it/\it.aZ=0/\it.perRev=false/\it.bH=0/\it.n=0/\EY it:=by
  intro g u w k8 g1 d5 e0 f1 hu hw L a0;obtain⟨x,hx,d0⟩:=Quz a0;rw[hx];refine⟨⟨3,0,p,_,17+J,_,1-V*2,decide (G=0),0,false,0,0,0,0,0,false⟩,rfl,rfl,⟨rfl,X,c0,8+E,D,G,g,x,?_⟩,rfl,rfl,rfl,rfl,rfl,rfl,rfl,rfl,rfl⟩;subst hu hw;exact⟨by omega,by omega,by omega,by omega,by omega,by omega,d5,e0,d0,f1,rfl,rfl,rfl⟩
 have b0:∀L:Int,0<=L/\L<4->O (plH (17+J) p+Ah (nth .dead (nth [] [[I 0],[I 0],[I 7],[I (-12)]] L.toNat) 0))=plH (17+J) p+Ah (nth .dead (nth [] [[I 0],[I 0],[I 7],[I (-12)]] L.toNat) 0):=by
  intro L a0;obtain⟨x,hx,d0⟩:=Quz a0;rw[hx];exact Ae
 have f2:(G==0)=decide (G=0):=rfl;by_cases d3:G>0
 ·rw[aa d3];obtain⟨v6,k6,e6,a6,b6,c6,-,-⟩:=N k5 (n:=3) (by omega);simp only[go_sem,e6];by_cases d4:v6=0
  ·rw[aa d4,ab];obtain⟨v7,k7,e7,a7,b7,c7,-,-⟩:=N k6 (n:=5) (by omega);obtain⟨v8,k8,e8,a8,b8,c8,-,-⟩:=N k7 (n:=5) (by omega);obtain⟨L,S,e9,T,U,c9,-,-⟩:=N k8 (n:=4) (by omega);simp only[go_sem,e7,e8,e9];rw[ab,aa (by simp;omega),b0 L ⟨T,U⟩,d1,d2];obtain⟨g,hg,hu,hw⟩:=Zr7 (8+E) (D+G) v7 v8;have mu: -4<=AW 1 (D+G)*v7/\AW 1 (D+G)*v7<=4:=by
    have hc:AW 1 (D+G)= -1\/AW 1 (D+G)=0\/AW 1 (D+G)=1:=by omega
    rcases hc with h|h|h<;>rw[h]<;>omega
   have mw: -4<=AX 1 (D+G)*v8/\AX 1 (D+G)*v8<=4:=by
    have hc:AX 1 (D+G)= -1\/AX 1 (D+G)=0\/AX 1 (D+G)=1:=by omega
    rcases hc with h|h|h<;>rw[h]<;>omega
   rw[Ae (x:=AW 1 (D+G)),Ae (x:=AX 1 (D+G)),Ae (x:=AW 1 (D+G)*v7),Ae (x:=AX 1 (D+G)*v8),
    Ae (x:=AW (8+E) (D+G)+_),Ae (x:=AX (8+E) (D+G)+_),hu,hw]
   obtain⟨⟨s1,s2⟩,s3,s4⟩:=Nk (r:=8+E+g) (k:=D+G) (by omega);rw[Ae (x:=_+AW (8+E+g) (D+G)),Ae (x:=_+AX (8+E+g) (D+G))];obtain⟨it,h1,h2⟩:=fin g _ _ S (by omega) (by omega) (by omega) (by omega) rfl rfl L ⟨T,U⟩;refine⟨it,S,?_,by omega,h2⟩;exact ie some h1
  ·rw[ab d4];obtain⟨L,S,e9,T,U,c9,-,-⟩:=N k6 (n:=4) (by omega);simp only[go_sem,e9];rw[aa (by simp;omega),b0 L ⟨T,U⟩];obtain⟨it,h1,h2⟩:=fin 0 _ _ S (by omega) (by omega) (by omega) (by omega) (by rw[iw]) (by rw[iw]) L ⟨T,U⟩;refine⟨it,S,?_,by omega,h2⟩;exact ie some h1
 ·rw[ab d3];obtain⟨L,S,e9,T,U,c9,-,-⟩:=N k5 (n:=4) (by omega);simp only[go_sem,e9];rw[aa (by simp;omega),b0 L ⟨T,U⟩];obtain⟨it,h1,h2⟩:=fin 0 _ _ S (by omega) (by omega) (by omega) (by omega) (by rw[iw]) (by rw[iw]) L ⟨T,U⟩;refine⟨it,S,?_,by omega,h2⟩;exact ie some h1
theorem Hr (D:Src l):GZ l Cc:=λk _ E=>Zs5 D k E
theorem Zpp (D:Src l) {p:Pt} (E:bd 100000000 p) {size:Int} (G:0<size/\size<=100000) (k:Nat):
  ∃(it:Itm) (k':Nat),Oc [I p.x,I p.y,I p.z,I size, .vC Aa l,I k]=some (Ag it++[.vC Aa l,I k'])/\k<=k'/\it.fr=p/\ArcMade size it/\
   it.aZ=0/\it.perRev=false/\it.bH=0/\it.n=0/\EY it:=
 Q4m (Hr D) Qbz Q10 Zur E G k
structure Made (it : Itm) : Prop where
 aP:1<=it.aP/\it.aP<=6
 line:it.aP≠3->(it.to.x-it.fr.x).natAbs<=16/\(it.to.y-it.fr.y).natAbs<=16/\(it.to.z-it.fr.z).natAbs<=16
 arc:it.aP=3->ArcMade 8 it
 aZ:it.aP≠1->1<=it.aZ/\it.aZ<=60000000
 bH:0<=it.bH/\it.bH<=9
 sync:it.aP=5\/it.aP=6->it.bH=0/\it.aZ<=60
 free:it.aP<=4->it.perRev=false
 bG:it.aP≠3->it.bG=false
theorem Qze (h:0<=v/\v<5):∃x,Ah (nth .dead (nth [] [[I 300000],[I 1],[I 60000],[I 2000000],[I 60000000]] v.toNat) 0)=x/\1<=x/\x<=60000000:=by
 have D:v=0\/v=1\/v=2\/v=3\/v=4:=by omega
 rcases D with rfl|rfl|rfl|rfl|rfl<;>exact⟨_,rfl,by decide⟩
theorem Qwz (h:0<=v/\v<5):∃x,Ah (nth .dead (nth [] [[I 0],[I 1],[I 2],[I 4],[I 9]] v.toNat) 0)=x/\0<=x/\x<=9:=by
 have D:v=0\/v=1\/v=2\/v=3\/v=4:=by omega
 rcases D with rfl|rfl|rfl|rfl|rfl<;>exact⟨_,rfl,by decide⟩
theorem Zu9 (h:ArcMade k D) (f b:Int) (pr:Bool) (n:Int):ArcMade k {D with aZ:=f,bH:=b,perRev:=pr,n:=n}:=⟨h.aP,h.aG,h.dir,h.ends⟩
theorem Zm2 (D:GZ l Z)
  (hA:∀{p:Pt},bd 100000000 p->∀k:Nat,∃(it:Itm) (k':Nat),M [I p.x,I p.y,I p.z,I 8, .vC Aa l,I k]=some (Ag it++[.vC Aa l,I k'])/\k<=k'/\it.fr=p/\ArcMade 8 it/\it.aZ=0/\it.perRev=false/\it.bH=0/\it.n=0/\EY it)
  {p:Pt} (hp:bd 100000000 p) {aP:Int} (hk:1<=aP/\aP<=6) (k:Nat):
  ∃(it:Itm) (k':Nat),SH Z M [I p.x,I p.y,I p.z,I aP, .vC Aa l,I k]=some (Ag it++[.vC Aa l,I k'])/\k<=k'/\it.fr=p/\it.aP=aP/\Made it/\EY it:=by
 rw[Zm8];obtain⟨c0,d0,d1⟩:=hp;by_cases h3:aP=3
 ·subst h3;obtain⟨it,k1,e1,c1,g1,g2,g3,g4,g5,g6,g7,g8,g9,g10,g11⟩:=hA ⟨c0,d0,d1⟩ k;obtain⟨E,k2,e2,a2,b2,c2,-,-⟩:=D k1 (n:=5) (by omega);obtain⟨G,k3,e3,a3,b3,c3,-,-⟩:=D k2 (n:=5) (by omega);simp only[go_sem,e1,Ag,aq,ay,e2,e3];rw[ab,aa (by simp;omega),aa (by simp;omega),ab,ab,ab];obtain⟨f,hf,V,X⟩:=Qze ⟨a2,b2⟩;obtain⟨b,hb,Y,a0⟩:=Qwz ⟨a3,b3⟩;rw[hf,hb];have J:=g2.aP;refine⟨{it with aZ:=f,bH:=b,perRev:=it.perRev,n:=it.n},k3,rfl,by omega,g1,J,⟨?_,?_,?_,?_,?_,?_,?_,?_⟩,g7,g8,g9,g10,g11⟩
  ·show 1<=it.aP/\it.aP<=6;omega
  ·exact λh=>absurd J h
  ·exact λ_=>Zu9 g2 f b _ _
  ·exact λ_=>⟨V,X⟩
  ·exact⟨Y,a0⟩
  ·intro h;change it.aP=5\/it.aP=6 at h;omega
  ·exact λ_=>g4
  ·exact λh=>absurd J h
 ·simp only[go_sem];rw[ab h3];obtain⟨L,k1,e1,a1,b1,c1,-,-⟩:=D k (n:=25) (by omega);obtain⟨E,k2,e2,a2,b2,c2,-,-⟩:=D k1 (n:=25) (by omega);obtain⟨G,k3,e3,a3,b3,c3,-,-⟩:=D k2 (n:=3) (by omega);obtain⟨v4,k4,e4,a4,b4,c4,-,-⟩:=D k3 (n:=9) (by omega);obtain⟨N,k5,e5,a5,b5,c5,-,-⟩:=D k4 (n:=2) (by omega);simp only[go_sem,e1,e2,e3,e4,e5];have hm:0<=G*v4/\G*v4<=16:=by
   have hc:G=0\/G=1\/G=2:=by omega
   rcases hc with rfl|rfl|rfl<;>omega
  generalize G*v4=m at hm;have w1:O (O (p.x+L)-12)=p.x+L-12:=by rw[Ae (x:=p.x+L),Ae]
  have w2:O (O (p.y+E)-12)=p.y+E-12:=by rw[Ae (x:=p.y+E),Ae]
  have w3:O (O (p.z+O m)-O (8*N))=p.z+m-8*N:=by
   rw[Ae (x:=m),Ae (x:=p.z+m),Ae (x:=8*N),Ae]
  rw[w1,w2,w3]
  have mk:∀(f b n:Int) (pr:Bool),(aP≠1->1<=f/\f<=60000000)->(0<=b/\b<=9)->(aP=5\/aP=6->b=0/\f<=60)->(aP<=4->pr=false)->
    ∃it:Itm,Ag it=[I aP,I 0,I p.x,I p.y,I p.z,I (p.x+L-12),I (p.y+E-12),I (p.z+m-8*N),I 0,I 0,I 0,I 0,I 0,B false,I f,B pr,I 0,I 0,I b,I n,I 0,B false]/\it.fr=p/\it.aP=aP/\Made it/\EY it:=by
   intro f b n pr S h2 T U;refine⟨⟨aP,0,p,⟨p.x+L-12,p.y+E-12,p.z+m-8*N⟩,0,⟨0,0,0⟩,0,false,f,pr,0,0,b,n,0,false⟩,rfl,rfl,rfl,⟨hk,λ_=> ?_,λh=>absurd h h3,S,h2,T,U,λ_=>rfl⟩,rfl,rfl,rfl,rfl,rfl⟩;show(p.x+L-12-p.x).natAbs<=16/\(p.y+E-12-p.y).natAbs<=16/\(p.z+m-8*N-p.z).natAbs<=16;omega
  have en:∀(f b n:Int) (pr:Bool) (k':Nat),k<=k'->(aP≠1->1<=f/\f<=60000000)->(0<=b/\b<=9)->(aP=5\/aP=6->b=0/\f<=60)->(aP<=4->pr=false)->
    ∃(it:Itm) (b0:Nat),some [I aP,I 0,I p.x,I p.y,I p.z,I (p.x+L-12),I (p.y+E-12),I (p.z+m-8*N),I 0,I 0,I 0,I 0,I 0,B false,I f,B pr,I 0,I 0,I b,I n,I 0,B false, .vC Aa l,I k']=some (Ag it++[.vC Aa l,I b0])/\k<=b0/\it.fr=p/\it.aP=aP/\Made it/\EY it:=by
   intro f b n pr k' h0 S h2 T U;obtain⟨it,i1,i2⟩:=mk f b n pr S h2 T U;refine⟨it,k',?_,h0,i2⟩;rw[i1];rfl
  by_cases S:aP=1
  ·rw[aa S];exact en _ _ _ _ _ (by omega) (λh=>absurd S h) (by omega) (by omega) (λ_=>rfl)
  ·rw[ab S];obtain⟨v6,k6,e6,a6,b6,c6,-,-⟩:=D k5 (n:=5) (by omega);obtain⟨v7,k7,e7,a7,b7,c7,-,-⟩:=D k6 (n:=5) (by omega);obtain⟨v8,k8,e8,a8,b8,c8,-,-⟩:=D k7 (n:=60) (by omega);obtain⟨v9,k9,e9,a9,b9,c9,-,-⟩:=D k8 (n:=2) (by omega);simp only[go_sem,e6,e7,e8,e9];rw[aa (by simp;omega),aa (by simp;omega)];obtain⟨f,hf,V,X⟩:=Qze ⟨a6,b6⟩;obtain⟨b,hb,Y,a0⟩:=Qwz ⟨a7,b7⟩;rw[hf,hb,Ae (x:=1+v8),Ae (x:=3+v9)];by_cases U:aP=5
   ·rw[aa U,ab];exact en _ _ _ _ _ (by omega) (by omega) (by omega) (by omega) (by omega)
   ·rw[ab U];by_cases h6:aP=6
    ·rw[aa h6,aa h6];exact en _ _ _ _ _ (by omega) (by omega) (by omega) (by omega) (by omega)
    ·rw[ab h6];by_cases T:aP=4
     ·rw[aa T];exact en _ _ _ _ _ (by omega) (by omega) (by omega) (by omega) (λ_=>rfl)
     ·rw[ab T];exact en _ _ _ _ _ (by omega) (by omega) (by omega) (by omega) (λ_=>rfl)
theorem Zhm (E:Src l) {p:Pt} (D:bd 100000000 p) {aP:Int} (G:1<=aP/\aP<=6) (k:Nat):
  ∃(it:Itm) (k':Nat),I_ [I p.x,I p.y,I p.z,I aP, .vC Aa l,I k]=some (Ag it++[.vC Aa l,I k'])/\k<=k'/\it.fr=p/\it.aP=aP/\Made it/\EY it:=
 Zm2 (Hr E) (λD k=>Zpp E D (by omega) k) D G k
def Qto:Pt->List Itm->Prop
 |_,[]=>True
 |p,it::l=>it.fr=p/\Qto it.to l
structure Motions (B : Nat) (p : Pt) (l : List Itm) : Prop where
 Zb:Qto p l
 made:∀it∈l,Made it/\EY it/\it.aP<=3/\bd B it.fr/\bd B it.to
theorem Qxu (h:ArcMade u D) (L:u<=1000) (hf:bd i D.fr):bd (i+2*(12+u.toNat)) D.to/\bd (i+8+u.toNat) D.ce:=by
 obtain⟨r,k,t,g,x,M,N,O,S,T,U,V,X,Y,I,J,E,G⟩:=h.ends;obtain⟨q1,q2,q3⟩:=EC (pl:=D.aG) hf;obtain⟨⟨r1,r2⟩,r3,r4⟩:=Nk (r:=r) (k:=k) (by omega);obtain⟨⟨r5,r6⟩,r7,r8⟩:=Nk (r:=r+g) (k:=k+t) (by omega);rw[E,G];unfold bd spP;constructor<;>split<;>(try split)<;>refine⟨?_,?_,?_⟩<;>simp only<;>omega
theorem Q6v (h:Made D) (hf:bd i D.fr):bd (i+40) D.to:=by
 by_cases E:D.aP=3
 ·exact AP (Qxu (h.arc E) (by omega) hf).1 (by omega)
 ·obtain⟨G,I,J⟩:=h.line E;obtain⟨g1,g2,L⟩:=hf;exact⟨by omega,by omega,by omega⟩
instance (pl:Int):Decidable (BL pl):=by unfold BL;infer_instance
instance (A:Nat) (p:Pt):Decidable (bd A p):=by unfold bd;infer_instance
def dU (it:Itm) (p:Pt):Int:=plU it.aG p-plU it.aG it.ce
def dW (it:Itm) (p:Pt):Int:=plW it.aG p-plW it.aG it.ce
def sq2 (u w:Int):Int:=u*u+w*w
def crs (u w x y:Int):Int:=u*y-w*x
def dt2 (u w x y:Int):Int:=u*x+w*y
def qA (it:Itm):Int:=sq2 (dU it it.fr) (dW it it.fr)
def qB (it:Itm):Int:=sq2 (dU it it.to) (dW it it.to)
def cAB (it:Itm):Int:=crs (dU it it.fr) (dW it it.fr) (dU it it.to) (dW it it.to)
def dAB (it:Itm):Int:=dt2 (dU it it.fr) (dW it it.fr) (dU it it.to) (dW it it.to)
def Er (X Y:Int):Prop:=X+Y-16<=0\/(X+Y-16)*(X+Y-16)<=4*X*Y
def Qb1 (it:Itm):Prop:=64<=qA it/\64<=qB it/\Er (qA it) (qB it)/\(it.bG=true->dU it it.fr=dU it it.to/\dW it it.fr=dW it it.to)/\(it.bG=false->cAB it≠0\/dAB it<0)
def Zeb (it:Itm):Prop:=BL it.aG/\(it.dir=1\/it.dir= -1)/\bd 1048576 it.ce/\Qb1 it
def By (it:Itm):Prop:=(1<=it.aP/\it.aP<=6)/\bd 1048576 it.fr/\bd 1048576 it.to/\(it.aP=3->Zeb it)
theorem Lh {it:Itm} {b c:Nat} (D:bd c it.ce) (h:bd b a):(dU it a).natAbs<=b+c/\(dW it a).natAbs<=b+c:=by
 obtain⟨E,G,I⟩:=EC (pl:=it.aG) h;obtain⟨g1,g2,J⟩:=EC (pl:=it.aG) D;unfold dU dW;omega
theorem Qva (x:Int) {b:Nat} (h:x.natAbs<=b):0<=x*x/\x*x<=((b*b:Nat):Int):=by
 have D:=D6 h h;have E:0<=x*x:=by rw[<-fc];omega
 omega
theorem Sb {u w:Int} (D:u.natAbs<=i) (E:w.natAbs<=i):0<=sq2 u w/\sq2 u w<=((2*(i*i):Nat):Int):=by
 have G:=Qva u D;have I:=Qva w E;unfold sq2;omega
theorem QX {u w x y:Int} {b c:Nat} (D:u.natAbs<=b) (E:w.natAbs<=b) (G:x.natAbs<=c) (I:y.natAbs<=c):(dt2 u w x y).natAbs<=2*(b*c)/\(crs u w x y).natAbs<=2*(b*c):=by
 have J:=D6 D G;have L:=D6 E I;have M:=D6 D I;have N:=D6 E G;unfold dt2 crs;omega
theorem Q49 (D:64<=k) (E:64<=u):Er k u↔(max k u-min k u-16<=0\/(max k u-min k u-16)*(max k u-min k u-16)<=64*min k u):=by
 unfold Er;have key:∀M m:Int,64<=M->64<=m->m<=M->((M+m-16<=0\/(M+m-16)*(M+m-16)<=4*M*m)↔(M-m-16<=0\/(M-m-16)*(M-m-16)<=64*m)):=by
  intro M m I J L;have e:(M-m-16)*(M-m-16)-64*m=(M+m-16)*(M+m-16)-4*M*m:=by grind
  by_cases G:M-m-16<=0
  ·refine fj (.inr ?_) (.inl G);have N:(16-(M-m))*(M-m+16)>=0:=ga (by omega) (by omega);have O:(M+m-16)*(M+m-16)-4*M*m=512-(16-(M-m))*(M-m+16)-32*(M+m):=by grind
   omega
  ·constructor
   ·rintro(h|h)
    ·omega
    ·exact .inr (by omega)
   ·rintro(h|h)
    ·omega
    ·exact .inr (by omega)
 by_cases h:k<=u
 ·rw[Int.max_eq_right h,Int.min_eq_left h,<-key u k E D h];have e1:k+u-16=u+k-16:=by omega
  have e2:4*k*u=4*u*k:=by grind
  rw[e1,e2]
 ·rw[Int.max_eq_left (by omega),Int.min_eq_right (by omega),<-key k u D E (by omega)]
theorem O4 (k:Int):Ct [I k]=some [B (decide (1<=k/\k<=6))]:=by
 unfold Ct;rw[Ztr];simp only[go_sem];by_cases h:k>=1
 ·rw[aa h];congr 3;simp;omega
 ·rw[ab h];congr 3;simp;omega
theorem Q30 {r:Bool} (h:M [I a.x,I a.y,I a.z,I 1048576]=some [B r]) (D:r=true↔bd 1048576 a):Wb M [I a.x,I a.y,I a.z]=some [B (decide (bd 1048576 a))]:=by
 rw[Zjw];simp only[go_sem,h];congr 3;rw[Bool.eq_iff_iff,D];simp
theorem Zkb (p:Pt):ND [I p.x,I p.y,I p.z]=some [B (decide (bd 1048576 p))]:=by
 obtain⟨r,D,E⟩:=Q5o p 1048576 (by omega);exact Q30 D E
theorem Qet {u w r h x y s g:Int} (D:u.natAbs<=1000000000) (E:w.natAbs<=1000000000) (G:x.natAbs<=1000000000) (J:y.natAbs<=1000000000):E7 [I u,I w,I r,I h,I x,I y,I s,I g]=some [I (dt2 u w x y)]:=by
 unfold E7;rw[Q9x];have L:=D6 D G;have M:=D6 E J;unfold dt2;rw[Ae (x:=u*x),Ae (x:=w*y),Ae]
theorem YE {u w r h x y s g:Int} (D:u.natAbs<=1000000000) (E:w.natAbs<=1000000000) (G:x.natAbs<=1000000000) (J:y.natAbs<=1000000000):Fy [I u,I w,I r,I h,I x,I y,I s,I g]=some [I (crs u w x y)]:=by
 unfold Fy;rw[Ztv];have L:=D6 D J;have M:=D6 E G;unfold crs;rw[Ae (x:=u*y),Ae (x:=w*x),Ae]
theorem Zpj (E:∀p:Pt,M [I p.x,I p.y,I p.z,I D.aG]=some [I (plU D.aG p),I (plW D.aG p),I (plH D.aG p)]) {b:Nat} (hb:b<=1000000000) (G:bd b D.fr) (J:bd b D.to) (L:bd b D.ce):
  Uz M (Ag D)=some [I (dU D D.fr),I (dW D D.fr),I 0,I (plH D.aG D.fr),I (dU D D.to),I (dW D D.to),I 0,I (plH D.aG D.to)]:=by
 rw[Q4u];simp only[E,go_sem];obtain⟨N,O,S⟩:=EC (pl:=D.aG) G;obtain⟨T,U,V⟩:=EC (pl:=D.aG) J;obtain⟨X,Y,q9⟩:=EC (pl:=D.aG) L;unfold dU dW;rw[Ae,Ae,Ae,Ae]
theorem Qo4 (E:BL D.aG) {b:Nat} (hb:b<=1000000000) (G:bd b D.fr) (J:bd b D.to) (L:bd b D.ce):
  IC (Ag D)=some [I (dU D D.fr),I (dW D D.fr),I 0,I (plH D.aG D.fr),I (dU D D.to),I (dW D D.to),I 0,I (plH D.aG D.to)]:=
 Zpj (λ_=>Qbz E) hb G J L
theorem Q4j {X Y C D I M J N:Int} {bG:Bool} (V:0<=X/\X<=1000000000000000) (hY:0<=Y/\Y<=1000000000000000):
  ∃ v, (if X < 64 then some [B false] else if Y < 64 then some [B false] else if O (O (X + Y) - 16) > 0 then
   if EM (O (O (X+Y)-16)*O (O (X+Y)-16)) (O (4*X)*Y)>0 then some [B false]else if bG=true then if I=J then some [B (M==N)]else some [B false]else if C≠0 then some [B true]else some [B (decide (D<0))]
   else if bG=true then if I=J then some [B (M==N)]else some [B false]else if C≠0 then some [B true]else some [B (decide (D<0))])=some [B v]/\
   (v=true↔64<=X/\64<=Y/\Er X Y/\(bG=true->I=J/\M=N)/\(bG=false->C≠0\/D<0)):=by
 rw[Ae (x:=X+Y),Ae (x:=X+Y-16),Ae (x:=4*X)];by_cases S:X<64
 ·rw[aa S];exact⟨_,rfl,df (by simp) λh=>by omega⟩
 rw[ab S];by_cases T:Y<64
 ·rw[aa T];exact⟨_,rfl,df (by simp) λh=>by omega⟩
 rw[ab T,aa];have U:Er X Y↔ ¬EM ((X+Y-16)*(X+Y-16)) (4*X*Y)>0:=by
  have:= @Qwn ((X+Y-16)*(X+Y-16)) (4*X*Y);unfold Er;omega
 by_cases L:EM ((X+Y-16)*(X+Y-16)) (4*X*Y)>0
 ·rw[aa L];exact⟨_,rfl,df (by simp) λh=>U.1 h.2.2.1 L⟩
 rw[ab L];have G:=U.2 L;cases bG with
 |true=>
  rw[aa rfl];by_cases E:I=J
  ·rw[aa E];refine⟨_,rfl,?_⟩;simp only[beq_iff_eq];exact⟨λh=>⟨by omega,by omega,G,λ_=>⟨E,h⟩,λh=>by simp at h⟩,λh=>(h.2.2.2.1 trivial).2⟩
  ·rw[ab E];exact⟨_,rfl,df (by simp) λh=>E (h.2.2.2.1 rfl).1⟩
 |false=>
  rw[ab (by simp)];by_cases E:C≠0
  ·rw[aa E];exact⟨_,rfl,fj rfl ⟨by omega,by omega,G,λh=>by simp at h,λ_=> .inl E⟩⟩
  ·rw[ab E];refine⟨_,rfl,?_⟩;simp only[bp];exact⟨λh=>⟨by omega,by omega,G,λh=>by simp at h,λ_=> .inr h⟩,λh=>(h.2.2.2.2 trivial).resolve_left E⟩
theorem Zm5 (hM:∀k:Int,S [I k]=some [B (decide (1<=k/\k<=6))]) (hW:∀p:Pt,V [I p.x,I p.y,I p.z]=some [B (decide (bd 1048576 p))])
  {it:Itm} (hE:BL it.aG->bd 1048576 it.fr->bd 1048576 it.to->bd 1048576 it.ce->W (Ag it)=some [I (dU it it.fr),I (dW it it.fr),I 0,I (plH it.aG it.fr),I (dU it it.to),I (dW it it.to),I 0,I (plH it.aG it.to)])
  (hD:∀{u w r h x y s g:Int},u.natAbs<=1000000000->w.natAbs<=1000000000->x.natAbs<=1000000000->y.natAbs<=1000000000->Y [I u,I w,I r,I h,I x,I y,I s,I g]=some [I (dt2 u w x y)])
  (hX:∀{u w r h x y s g:Int},u.natAbs<=1000000000->w.natAbs<=1000000000->x.natAbs<=1000000000->y.natAbs<=1000000000->Z [I u,I w,I r,I h,I x,I y,I s,I g]=some [I (crs u w x y)])
  (hC:∀{a b c d:Int},i64 a->i64 b->i64 c->i64 d->M [I a,I b,I c,I d]=some [I (EM (a*b) (c*d))]):
  ∃v,ZT Z M Y W V S (Ag it)=some [B v]/\(v=true↔By it):=by
 rw[Q3r];simp only[go_sem,hM,hW];by_cases c1:1<=it.aP/\it.aP<=6
 case neg=>rw[aa (by simpa using c1)];exact⟨_,rfl,df (by simp) λh=>c1 h.1⟩
 rw[ab (by simpa using c1)];by_cases G:bd 1048576 it.fr
 case neg=>rw[aa (by simpa using G)];exact⟨_,rfl,df (by simp) λh=>G h.2.1⟩
 rw[ab (by simpa using G)];by_cases J:bd 1048576 it.to
 case neg=>rw[aa (by simpa using J)];exact⟨_,rfl,df (by simp) λh=>J h.2.2.1⟩
 rw[ab (by simpa using J)];by_cases L:it.aP=3
 case neg=>rw[aa L];exact⟨_,rfl,fj rfl ⟨c1,G,J,λh=>absurd h L⟩⟩
 rw[ab (by simpa using L)];by_cases N:BL it.aG
 case neg=>
  unfold BL at N;rw[aa,aa,aa];exact⟨_,rfl,df (by simp) λh=>N (h.2.2.2 L).1⟩
 by_cases c6:it.dir=1\/it.dir= -1
 case neg=>
  rw[aa (c:=it.dir≠1),aa (c:=it.dir≠-1)];refine⟨false,?_,df (by simp) λh=>c6 (h.2.2.2 L).2.1⟩;split
  ·split
   ·split<;>rfl
   ·rfl
  ·rfl
 by_cases U:bd 1048576 it.ce
 case neg=>
  refine⟨false,?_,df (by simp) λh=>U (h.2.2.2 L).2.2.1⟩;rcases N with h|h|h<;>rcases c6 with g|g<;>simp only[h,g,U,ne_eq,Int.reduceEq,Int.reduceNeg,gu,gv,dc,ez]
 have D:=hE N G J U;obtain⟨b1,b2⟩:=Lh (it:=it) U G;obtain⟨b3,b4⟩:=Lh (it:=it) U J;simp only[Ag]at D;have x1:=Sb b1 b2;have x2:=Sb b3 b4;have core:By it↔64<=qA it/\64<=qB it/\Er (qA it) (qB it)/\(it.bG=true->dU it it.fr=dU it it.to/\dW it it.fr=dW it it.to)/\(it.bG=false->cAB it≠0\/dAB it<0):=
  ⟨λh=>(h.2.2.2 L).2.2.2,λh=>⟨c1,G,J,λ_=>⟨N,c6,U,h⟩⟩⟩
 rw[core];have e1:dt2 (dU it it.fr) (dW it it.fr) (dU it it.fr) (dW it it.fr)=qA it:=rfl;have e2:dt2 (dU it it.to) (dW it it.to) (dU it it.to) (dW it it.to)=qB it:=rfl;have e3:dt2 (dU it it.fr) (dW it it.fr) (dU it it.to) (dW it it.to)=dAB it:=rfl;have e4:crs (dU it it.fr) (dW it it.fr) (dU it it.to) (dW it it.to)=cAB it:=rfl;have a0:0<=qA it/\qA it<=1000000000000000:=⟨x1.1,by unfold qA;omega⟩;have a1:0<=qB it/\qB it<=1000000000000000:=⟨x2.1,by unfold qB;omega⟩;have hY:i64 (qB it):=by unfold i64;omega
 have X:= @hD (dU it it.fr) (dW it it.fr) 0 (plH it.aG it.fr) (dU it it.fr) (dW it it.fr) 0 (plH it.aG it.fr) (by omega) (by omega) (by omega) (by omega);have D2:= @hD (dU it it.to) (dW it it.to) 0 (plH it.aG it.to) (dU it it.to) (dW it it.to) 0 (plH it.aG it.to) (by omega) (by omega) (by omega) (by omega);have D3:= @hD (dU it it.fr) (dW it it.fr) 0 (plH it.aG it.fr) (dU it it.to) (dW it it.to) 0 (plH it.aG it.to) (by omega) (by omega) (by omega) (by omega);have D4:= @hX (dU it it.fr) (dW it it.fr) 0 (plH it.aG it.fr) (dU it it.to) (dW it it.to) 0 (plH it.aG it.to) (by omega) (by omega) (by omega) (by omega);have D5:= @hC (O (O (qA it+qB it)-16)) (O (O (qA it+qB it)-16)) (O (4*qA it)) (qB it) (Xu _) (Xu _) (Xu _) hY;rw[e1]at X;rw[e2]at D2;rw[e3]at D3;rw[e4]at D4;have T:= @Q4j (qA it) (qB it) (cAB it) (dAB it) (dU it it.fr) (dW it it.fr) (dU it it.to) (dW it it.to) it.bG a0 a1;have n7: ¬ ¬bd 1048576 it.ce:=λh=>h U;have fin : ∀ {t : Option (List AC)}, t = (if qA it < 64 then some [B false] else if qB it < 64 then some [B false] else if O (O (qA it + qB it) - 16) > 0 then
   if EM (O (O (qA it+qB it)-16)*O (O (qA it+qB it)-16)) (O (4*qA it)*qB it)>0 then some [B false]else if it.bG=true then if dU it it.fr=dU it it.to then some [B (dW it it.fr==dW it it.to)]else some [B false]else if cAB it≠0 then some [B true]else some [B (decide (dAB it<0))]
   else if it.bG=true then if dU it it.fr=dU it it.to then some [B (dW it it.fr==dW it it.to)]else some [B false]else if cAB it≠0 then some [B true]else some [B (decide (dAB it<0))])->
   ∃v,t=some [B v]/\(v=true↔64<=qA it/\64<=qB it/\Er (qA it) (qB it)/\(it.bG=true->dU it it.fr=dU it it.to/\dW it it.fr=dW it it.to)/\(it.bG=false->cAB it≠0\/dAB it<0)):=by
  intro t ht;rw[ht];exact T
 have a2:BL it.aG:=N;rcases N with h|h|h
 ·rw[ab (c:=it.aG≠17)];by_cases E:it.dir=1
  ·rw[ab (c:=it.dir≠1) (λh=>h E),ab (c:= ¬bd 1048576 it.ce) n7];apply fin;simp only[D,go_sem,X,D2,D3,D4,D5]
  ·rw[aa (c:=it.dir≠1) E,ab (c:=it.dir≠-1),ab (c:= ¬bd 1048576 it.ce) n7];apply fin;simp only[D,go_sem,X,D2,D3,D4,D5]
 ·rw[aa (c:=it.aG≠17),ab (c:=it.aG≠18)];by_cases E:it.dir=1
  ·rw[ab (c:=it.dir≠1) (λh=>h E),ab (c:= ¬bd 1048576 it.ce) n7];apply fin;simp only[D,go_sem,X,D2,D3,D4,D5]
  ·rw[aa (c:=it.dir≠1) E,ab (c:=it.dir≠-1),ab (c:= ¬bd 1048576 it.ce) n7];apply fin;simp only[D,go_sem,X,D2,D3,D4,D5]
 ·rw[aa (c:=it.aG≠17),aa (c:=it.aG≠18),ab (c:=it.aG≠19)];by_cases E:it.dir=1
  ·rw[ab (c:=it.dir≠1) (λh=>h E),ab (c:= ¬bd 1048576 it.ce) n7];apply fin;simp only[D,go_sem,X,D2,D3,D4,D5]
  ·rw[aa (c:=it.dir≠1) E,ab (c:=it.dir≠-1),ab (c:= ¬bd 1048576 it.ce) n7];apply fin;simp only[D,go_sem,X,D2,D3,D4,D5]
theorem Uw (it:Itm):∃v,Fs (Ag it)=some [B v]/\(v=true↔By it):=
 Zm5 O4 Zkb (λD E G I=>Qo4 D (by omega) E G I) Qet YE Zj1
end Go.Bm
