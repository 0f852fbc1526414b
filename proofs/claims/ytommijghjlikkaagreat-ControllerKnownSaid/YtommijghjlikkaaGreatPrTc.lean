/- laid together -/
import Derived.Test.YtommijghjlikkaaGreatMx3
import Derived.Test.YtommijghjlikkaaGreatBmTy
set_option linter.unusedVariables false
set_option linter.unusedSimpArgs false
set_option maxRecDepth 100000
open Go.IntKind (wrap)
namespace Go.Bm
theorem Iu {x:Int} (h:i64 x):Gn [I x]=some [U (x.natAbs:Int)]:=by
  unfold i64 at h;unfold Gn;rw[Zbm];by_cases hx:x<0
  · rw[DI hx,Ae (x:=x+1) (by omega),Ae (x:=0-(x+1)) (by omega),HR (x:=0-(x+1)) (by omega),HR (x:=0-(x+1)+1) (by omega)]
    rw[show 0-(x+1)+1=(x.natAbs:Int) by omega]
  · rw[A3 hx,HR (x:=x) (by omega)]
    rw[show x=(x.natAbs:Int) by omega];simp
def sgn (a b:Int):Int:=if a=0 then 0 else if b=0 then 0 else if(a<0↔b<0)then 1 else-1
theorem Qix (a b:Int):Fqs [I a,I b]=some [I (sgn a b)]:=by
  unfold Fqs;rw[Q8h];simp only[go_sem];unfold sgn
  repeat' split
  all_goals rfl
def G9 (a b:Nat):Int:=if a<b then-1 else if a=b then 0 else 1
def La (a b:Int):Int:=if a<b then-1 else if a=b then 0 else 1
noncomputable def w64:Nat:=Classical.choose (⟨18446744073709551616,rfl⟩:∃n:Nat,n=18446744073709551616)
theorem BT:w64=18446744073709551616:=Classical.choose_spec (⟨18446744073709551616,rfl⟩:∃n:Nat,n=18446744073709551616)
theorem Oe {x:Int} (h:i64 x):x.natAbs<w64:=by unfold i64 at h;have:=BT;omega
theorem Q40 {x y:Nat} (hx:x<w64) (hy:y<w64):IE [U x,U y]=some [U ((x*y/w64:Nat):Int),U ((x*y%w64:Nat):Int)]:=by
  rw[BT]at hx hy;have hu:∀z:Nat,z<18446744073709551616->inU (z:Int)=true:=by
    intro z hz;have e64:F2=18446744073709551616:=rfl;simp only[inU,e64,ak,co];omega
  show SM (x:Int) (y:Int)=_;unfold SM;rw[hu x hx,hu y hy,BT];rfl
theorem Qvw {x y:Nat} (hx:x<w64) (hy:y<w64):Ev [U x,U y]=some [U ((x*y/w64:Nat):Int),U ((x*y%w64:Nat):Int)]:=by
  unfold Ev;rw[Zf5,Q40 hx hy];simp only[go_sem]
theorem Qvj (a b c d:Nat) (hb:b<w64) (hd:d<w64):Io [U a,U b,U c,U d]=some [I (G9 (a*w64+b) (c*w64+d))]:=by
  unfold Io;rw[Zsf];simp only[go_sem,and_true];unfold G9;simp only[BT]at*;by_cases h1:a<c
  · rw[aa (by omega),aa (by omega)]
  · rw[ab (by omega)]
    by_cases h2:a=c
    · rw[aa (by omega)]
      by_cases h3:b<d
      · rw[aa (by omega),aa (by omega)]
      · rw[ab (by omega)]
        by_cases h4:b=d
        · rw[aa (by omega),ab (by omega),aa (by omega)]
        · rw[ab (by omega),ab (by omega),ab (by omega)]
    · rw[ab (by omega),ab (by omega),ab (by omega),ab (by omega)]
theorem RY (a b:Int):sgn a b*((a.natAbs*b.natAbs:Nat):Int)=a*b:=by
  unfold sgn;by_cases h1:a=0
  · subst h1;simp
  · by_cases h2:b=0
    · subst h2;simp
    · rw[ab h1,ab h2]
      have e:((a.natAbs*b.natAbs:Nat):Int)=(a.natAbs:Int)*(b.natAbs:Int):=by simp
      rw[e];by_cases h3:a<0<;>by_cases h4:b<0
      · rw[aa (by simp[h3,h4]),show(a.natAbs:Int)= -a by omega,show(b.natAbs:Int)= -b by omega,Int.neg_mul_neg,Int.one_mul]
      · rw[ab (by simp[h3,h4]),show(a.natAbs:Int)= -a by omega,show(b.natAbs:Int)=b by omega,Int.neg_mul,Int.one_mul,Int.neg_mul,Int.neg_neg]
      · rw[ab (by simp[h3,h4]),show(a.natAbs:Int)=a by omega,show(b.natAbs:Int)= -b by omega,Int.mul_neg,Int.neg_mul_neg,Int.one_mul]
      · rw[aa (by simp[h3,h4]),show(a.natAbs:Int)=a by omega,show(b.natAbs:Int)=b by omega,Int.one_mul]
theorem SR (a b:Int):(sgn a b=0/\a*b=0)\/(sgn a b=1/\0<a*b)\/(sgn a b= -1/\a*b<0):=by
  have h:=RY a b;by_cases h1:a=0
  · subst h1;left;simp[sgn]
  · by_cases h2:b=0
    · subst h2;left;simp[sgn]
    · have hp:0<a.natAbs*b.natAbs:=Nat.mul_pos (by omega) (by omega)
      generalize a.natAbs*b.natAbs=p at*;generalize a*b=x at*;unfold sgn at h⊢;rw[ab h1,ab h2]at h⊢;by_cases h3:(a<0↔b<0)
      · rw[aa h3]at h⊢;right;left;exact⟨rfl,by omega⟩
      · rw[ab h3]at h⊢;right;right;exact⟨rfl,by omega⟩
theorem Zfl {a b c d:Int}:(if sgn a b≠sgn c d then(if sgn a b<sgn c d then-1 else 1)else sgn a b*G9 (a.natAbs*b.natAbs) (c.natAbs*d.natAbs))=La (a*b) (c*d):=by
  have h1:=RY a b;have h2:=RY c d;have k1:=SR a b;have k2:=SR c d;unfold La G9;generalize a.natAbs*b.natAbs=p at*;generalize c.natAbs*d.natAbs=q at*;generalize a*b=x at*;generalize c*d=y at*;generalize sgn a b=u at*;generalize sgn c d=v at*;rcases k1 with⟨rfl,g1⟩|⟨rfl,g1⟩|⟨rfl,g1⟩<;>rcases k2 with⟨rfl,g2⟩|⟨rfl,g2⟩|⟨rfl,g2⟩
  · rw[ab (by simp),ab (show¬x<y by omega),aa (show x=y by omega)];exact Int.zero_mul _
  · rw[aa (by simp),aa (by omega),aa (by omega)]
  · rw[aa (by simp),ab (by omega),ab (by omega),ab (by omega)]
  · rw[aa (by simp),ab (by omega),ab (by omega),ab (by omega)]
  · rw[ab (by simp)]
    have e1:(p:Int)=x:=by omega
    have e2:(q:Int)=y:=by omega
    by_cases h:x<y
    · rw[aa (by omega),aa h];rfl
    · rw[ab (by omega),ab h]
      by_cases h':x=y
      · rw[aa (by omega),aa h'];rfl
      · rw[ab (by omega),ab h'];rfl
  · rw[aa (by simp),ab (by omega),ab (by omega),ab (by omega)]
  · rw[aa (by simp),aa (by omega),aa (by omega)]
  · rw[aa (by simp),aa (by omega),aa (by omega)]
  · rw[ab (by simp)]
    have e1:(p:Int)= -x:=by omega
    have e2:(q:Int)= -y:=by omega
    by_cases h:x<y
    · rw[ab (by omega),ab (by omega),aa h];rfl
    · rw[ab h]
      by_cases h':x=y
      · rw[ab (by omega),aa (by omega),aa h'];rfl
      · rw[aa (by omega),ab h'];rfl
theorem Q26 (p:Nat):p/w64*w64+p%w64=p:=by have:=Nat.div_add_mod p w64;rw[Nat.mul_comm]at this;exact this
theorem QZ:0<w64:=by rw[BT];omega
theorem Zyb (p q:Nat): -1<=G9 p q/\G9 p q<=1:=by unfold G9;(repeat' split)<;>omega
theorem Zcz (a b:Int): -1<=sgn a b/\sgn a b<=1:=by unfold sgn;(repeat' split)<;>omega
theorem Zgx {u v:Int} (hu: -1<=u/\u<=1) (hv: -1<=v/\v<=1): -1<=u*v/\u*v<=1:=by
  have:u= -1\/u=0\/u=1:=by omega
  rcases this with rfl|rfl|rfl<;>omega
theorem Oc {x y:Nat} (hx:x<w64) (hy:y<w64):∃hi lo:Nat,Ev [U x,U y]=some [U hi,U lo]/\hi*w64+lo=x*y/\lo<w64:=
  ⟨_,_,Qvw hx hy,Q26 _,Nat.mod_lt _ QZ⟩
theorem Zfh {a b c d:Int} (M1 M2 M3 M4:Fn) (h1 l1 h2 l2:Nat)
   (ka:M3 [I a]=some [U a.natAbs]) (kb:M3 [I b]=some [U b.natAbs]) (kc:M3 [I c]=some [U c.natAbs]) (kd:M3 [I d]=some [U d.natAbs])
   (ks:∀a b,M4 [I a,I b]=some [I (sgn a b)])
   (e1:M2 [U a.natAbs,U b.natAbs]=some [U h1,U l1]) (f1:M2 [U c.natAbs,U d.natAbs]=some [U h2,U l2])
   (hcmp:M1 [U h1,U l1,U h2,U l2]=some [I (G9 (a.natAbs*b.natAbs) (c.natAbs*d.natAbs))]):Qoi M1 M2 M3 M4 [I a,I b,I c,I d]=some [I (La (a*b) (c*d))]:=by
  have hm:=Zgx (Zcz a b) (Zyb (a.natAbs*b.natAbs) (c.natAbs*d.natAbs));rw[Zlq];simp only[go_sem,ks,ka,kb,kc,kd,e1,f1,hcmp];rw[<-Zfl];rw[Ae (by omega)];by_cases h1:sgn a b≠sgn c d
  · rw[aa h1,aa h1]
    by_cases h2:sgn a b<sgn c d
    · rw[aa h2,aa h2]
    · rw[ab h2,ab h2]
  · rw[ab h1,ab h1]
theorem Z07 {a b c d:Int} (ha:i64 a) (hb:i64 b) (hc:i64 c) (hd:i64 d):N0 [I a,I b,I c,I d]=some [I (La (a*b) (c*d))]:=by
  obtain⟨h1,l1,e1,e2,e3⟩:=Oc (Oe ha) (Oe hb);obtain⟨h2,l2,f1,f2,f3⟩:=Oc (Oe hc) (Oe hd);have hcmp:=Qvj h1 l1 h2 l2 e3 f3;rw[e2,f2]at hcmp;unfold N0;exact Zfh _ _ _ _ _ _ _ _ (Iu ha) (Iu hb) (Iu hc) (Iu hd) Qix e1 f1 hcmp
theorem Zz3 {m k:Nat} (h:2^(k+1)*m+2^k<w64):wrap .u64 (((BitVec.ofInt IntKind.u64.bits ((2^(k+1)*m:Nat):Int)|||BitVec.ofInt IntKind.u64.bits ((2^k:Nat):Int)).toNat:Nat):Int)=((2^(k+1)*m+2^k:Nat):Int):=by
 rw[BT]at h;have e:(BitVec.ofInt IntKind.u64.bits ((2^(k+1)*m:Nat):Int)|||BitVec.ofInt IntKind.u64.bits ((2^k:Nat):Int)).toNat=2^(k+1)*m+2^k:=by
  rw[BitVec.toNat_or];have e1:∀v:Nat,v<18446744073709551616->(BitVec.ofInt IntKind.u64.bits (v:Int)).toNat=v:=by
   intro v hv;simp only[IntKind.bits,BitVec.toNat_ofInt];omega
  have hpos:0<2^k:=Nat.two_pow_pos _;generalize hA:2^(k+1)*m=A at*;rw[e1 _ (by omega),e1 _ (by omega),<-hA];exact(Nat.two_pow_add_eq_or_of_lt (Nat.pow_lt_pow_right (by omega) (by omega)) m).symm
 rw[e,HR (by omega)]
theorem Z5r (k:Nat):((2^(k+1):Nat):Int).fdiv (2^min (Int.toNat 1) IntKind.u64.bits)=((2^k:Nat):Int):=by
 have e:(2^min (Int.toNat 1) IntKind.u64.bits:Int)=2:=rfl;rw[e,Int.fdiv_eq_ediv_of_nonneg _ (by omega),Nat.pow_succ];omega
theorem Zxa:(1:Int).fdiv (2^min (Int.toNat 1) IntKind.u64.bits)=0:=rfl
theorem Q92 {M1 M2:Fn} (hp:∀x y:Nat,x<w64->y<w64->∃hi lo:Nat,M2 [U x,U y]=some [U hi,U lo]/\hi*w64+lo=x*y/\lo<w64)
  (hc:∀a b c d:Nat,b<w64->d<w64->M1 [U a,U b,U c,U d]=some [I (G9 (a*w64+b) (c*w64+d))]) {k m hi lo:Nat} {bit:Int} (hlo:lo<w64) (hb:((2^k:Nat):Int).fdiv (2^min (Int.toNat 1) IntKind.u64.bits)=bit) (h:2^(k+1)*m+2^k<w64):
  L8 M1 M2 [U ((2^(k+1)*m:Nat):Int),U ((2^k:Nat):Int),U hi,U lo]=
   some (0,[U (((if(2^(k+1)*m+2^k)*(2^(k+1)*m+2^k)<=hi*w64+lo then 2^(k+1)*m+2^k else 2^(k+1)*m):Nat):Int),U bit,U hi,U lo]):=by
 obtain⟨h1,l1,e1,e2,e3⟩:=hp _ _ h h;have hcmp:=hc h1 l1 hi lo e3 hlo;rw[e2]at hcmp;have hpos:0<2^k:=Nat.two_pow_pos _;rw[Qp9,Zz3 h,hb];simp only[go_sem,e1,hcmp];rw[aa (by omega)];generalize(2^(k+1)*m+2^k)*(2^(k+1)*m+2^k)=q at*;unfold G9;by_cases h1:q<hi*w64+lo
 ·rw[aa h1,aa (by omega),aa (by omega)]
 ·rw[ab h1];by_cases h2:q=hi*w64+lo
  ·rw[aa h2,aa (by omega),aa (by omega)]
  ·rw[ab h2,ab (by omega),ab (by omega)]
theorem ZP {M1 M2:Fn} (hp:∀x y:Nat,x<w64->y<w64->∃hi lo:Nat,M2 [U x,U y]=some [U hi,U lo]/\hi*w64+lo=x*y/\lo<w64)
  (hc:∀a b c d:Nat,b<w64->d<w64->M1 [U a,U b,U c,U d]=some [I (G9 (a*w64+b) (c*w64+d))]) {hi lo:Nat} (hlo:lo<w64):∀(k m:Nat),2^(k+1)*m+2^(k+1)<=w64->
  (2^(k+1)*m)*(2^(k+1)*m)<=hi*w64+lo->hi*w64+lo<(2^(k+1)*m+2^(k+1))*(2^(k+1)*m+2^(k+1))->
  ∃r:Nat,Am (L8 M1 M2) [U ((2^(k+1)*m:Nat):Int),U ((2^k:Nat):Int),U hi,U lo]=some (1,[U r])/\r*r<=hi*w64+lo/\hi*w64+lo<(r+1)*(r+1)/\r<w64
 |0,m,hw,h1,h2=>by
  have hs:=Q92 hp hc (k:=0) (m:=m) (hi:=hi) (bit:=0) hlo Zxa (by simp at hw⊢;omega);rw[BC hs];have hend:∀r:Nat,Am (L8 M1 M2) [U (r:Int),U 0,U hi,U lo]=some (1,[U r]):=by
   intro r;refine Bf ?_ (by simp);rw[Qp9];simp only[go_sem];rw[ab (by omega)]
  simp only[Nat.zero_add,Nat.pow_one,Nat.pow_zero]at*;by_cases h:(2*m+1)*(2*m+1)<=hi*w64+lo
  ·rw[aa h,hend];exact⟨_,rfl,h,h2,by omega⟩
  ·rw[ab h,hend];exact⟨_,rfl,h1,by omega,by omega⟩
 |k+1,m,hw,h1,h2=>by
  have e1:2^(k+1+1)*m=2^(k+1)*(2*m):=by rw[Nat.pow_succ 2 (k+1),Nat.mul_assoc]
  have e2:2^(k+1+1)*m+2^(k+1)=2^(k+1)*(2*m+1):=by rw[e1,Nat.mul_add,Nat.mul_one]
  have e3:2^(k+1+1)=2^(k+1)+2^(k+1):=by rw[Nat.pow_succ 2 (k+1)];omega
  have hpos:0<2^(k+1):=Nat.two_pow_pos _;have hs:=Q92 hp hc (k:=k+1) (m:=m) (hi:=hi) (bit:=((2^k:Nat):Int)) hlo (Z5r k) (by omega);rw[BC hs];by_cases h:(2^(k+1+1)*m+2^(k+1))*(2^(k+1+1)*m+2^(k+1))<=hi*w64+lo
  ·rw[aa h,e2];rw[e2]at h;refine ZP hp hc hlo k (2*m+1) ?_ h ?_
   ·rw[<-e2];omega
   ·rw[<-e2];rw[show 2^(k+1+1)*m+2^(k+1)+2^(k+1)=2^(k+1+1)*m+2^(k+1+1) by omega];exact h2
  ·rw[ab h];have h3:hi*w64+lo<(2^(k+1+1)*m+2^(k+1))*(2^(k+1+1)*m+2^(k+1)):=by omega
   have hw':2^(k+1+1)*m+2^(k+1)<=w64:=by omega
   rw[e1]at h1 h3 hw'⊢;exact ZP hp hc hlo k (2*m) hw' h1 h3
theorem Zw7 {M1 M2:Fn} (hp:∀x y:Nat,x<w64->y<w64->∃hi lo:Nat,M2 [U x,U y]=some [U hi,U lo]/\hi*w64+lo=x*y/\lo<w64)
  (hc:∀a b c d:Nat,b<w64->d<w64->M1 [U a,U b,U c,U d]=some [I (G9 (a*w64+b) (c*w64+d))]) {hi lo:Nat} (hhi:hi<w64) (hlo:lo<w64):
  ∃r:Nat,Qod M1 M2 (Am (L8 M1 M2)) [U hi,U lo]=some [U r]/\r*r<=hi*w64+lo/\hi*w64+lo<(r+1)*(r+1)/\r<w64:=by
 have hb:hi*w64+lo<w64*w64:=by
  have:hi*w64+w64<=w64*w64:=by rw[<-Nat.succ_mul];exact be _ hhi
  omega
 obtain⟨r,h1,h2,h3,h4⟩:=ZP hp hc (hi:=hi) (lo:=lo) hlo 63 0 (by rw[BT];omega) (by simp) (by rw[Nat.mul_zero,Nat.zero_add,show 2^(63+1)=w64 by rw[BT]];exact hb);refine⟨r,?_,h2,h3,h4⟩;rw[Nat.mul_zero]at h1;generalize Am (L8 M1 M2)=N at*;have h1':N [AC.int IntKind.u64 0,AC.int IntKind.u64 9223372036854775808,AC.int IntKind.u64 hi,AC.int IntKind.u64 lo]=some (1,[U r]):=h1;rw[Zg3,h1'];simp only[go_sem]
theorem Q1u {hi lo:Nat} (hhi:hi<w64) (hlo:lo<w64):∃r:Nat,JM [U hi,U lo]=some [U r]/\r*r<=hi*w64+lo/\hi*w64+lo<(r+1)*(r+1)/\r<w64:=
 Zw7 (λ_ _ hx hy=>Oc hx hy) Qvj hhi hlo
theorem Qaw {n:Nat} (h:n<9223372036854775808):Fk [U n,B false]=some [I n,B true]:=by
 unfold Fk;rw[Xg];simp only[go_sem];rw[ab (by simp),aa (by simp),aa (by omega),Ae (by omega)]
theorem Zfq {x y b:Nat} (hx:x<w64) (hy:y<w64) (hb:b=0\/b=1):KF [U x,U y,U b]=some [U (((x:Int)-y-b)%F2),U (if x<y+b then 1 else 0)]:=by
 rw[BT]at hx hy;have e64:F2=18446744073709551616:=rfl;have hu:∀z:Nat,z<18446744073709551616->inU (z:Int)=true:=by
  intro z hz;simp only[inU,e64,ak,co];omega
 have hb':(decide ((b:Int)=0)||decide ((b:Int)=1))=true:=by
  rcases hb with rfl|rfl<;>simp
 unfold KF;simp only[HE,LN,LH,HK,gA,jA,wA,bA];rw[hu x hx,hu y hy,hb'];by_cases h:x<y+b
 ·rw[aa h,DI (p:=(x:Int)<y+b) (by omega)];simp
 ·rw[ab h,A3 (p:=(x:Int)<y+b) (by omega)];simp
theorem Qt1 {x y:Nat} (hx:x<w64) (hyx:y<=x):KF [U x,U y,U 0]=some [U ((x-y:Nat):Int),U 0]:=by
 have:=Zfq (x:=x) (y:=y) (b:=0) hx (by omega) (.inl rfl);have e64:F2=18446744073709551616:=rfl;rw[BT]at hx;rw[ab (by omega),e64,show((x:Int)-y-((0:Nat):Int))%18446744073709551616=((x-y:Nat):Int) by omega]at this;exact this
theorem Zh3 {M1 M2 M3 M4:Fn} {n r:Nat} {mode:Int} (hn:n<9223372036854775807) (hrn:r*r<=n) (hr:M4 [U 0,U n]=some [U r]) (hm:M3 [U r,U r]=some [U 0,U ((r*r:Nat):Int)]) (hs1:M2 [U n,U ((r*r:Nat):Int),U 0]=some [U ((n-r*r:Nat):Int),U 0])
  (hs2:M2 [U 0,U 0,U 0]=some [U 0,U 0]) (sg:∀k:Nat,k<9223372036854775808->M1 [U k,B false]=some [I k,B true]) (hmode:mode=1\/mode=2):
  Qef M1 M2 M3 M4 [U 0,U n,I mode]=some [I ((if(mode=1/\r*r<n)\/(mode=2/\r*r+r<n)then r+1 else r:Nat):Int),B true]:=by
 have hrr:r<=r*r:=by
  rcases Nat.eq_zero_or_pos r with h|h
  ·subst h;simp
  ·exact Nat.le_mul_of_pos_left r h
 have hw:wrap .u64 ((r:Int)+1)=((r+1:Nat):Int):=by rw[HR (by omega)];omega
 have s1:=sg r (by omega);have s2:=sg (r+1) (by omega);rw[Zbp];simp only[go_sem,hr,hm,hs1,hs2,hw,s1,s2];rcases hmode with rfl|rfl
 ·rw[aa rfl,ab (by omega)];by_cases h:r*r<n
  ·rw[aa (by omega),aa (by omega)]
  ·rw[ab (by omega),ab (by omega),ab (by omega)]
 ·rw[ab (by omega),aa rfl,ab (by omega)];by_cases h:r*r+r<n
  ·rw[aa (by omega),aa (by omega)]
  ·rw[ab (by omega),ab (by omega)]
theorem Zzs {M1 M2:Fn} {n:Nat} {mode:Int} {k:Int} (hn:n<9223372036854775807) (hk:M2 [I mode]=some [B true]) (hr:M1 [U 0,U n,I mode]=some [I k,B true]):Qd2 M1 M2 [I n,I mode]=some [I k,B true]:=by
 have hw:wrap .u64 (n:Int)=(n:Int):=HR (by omega);rw[Zmg];simp only[go_sem,hk,hw,hr];rw[ab (by omega),ab (by simp)]
theorem Qlb {mode:Int} (h:mode=0\/mode=1\/mode=2):FQ [I mode]=some [B true]:=by
 unfold FQ;rw[Q5b];rcases h with rfl|rfl|rfl<;>rfl
theorem Q80 {n:Nat} {mode:Int} (hn:n<9223372036854775807) (hmode:mode=1\/mode=2):
  ∃r:Nat,IU [I n,I mode]=some [I ((if(mode=1/\r*r<n)\/(mode=2/\r*r+r<n)then r+1 else r:Nat):Int),B true]/\r*r<=n/\n<(r+1)*(r+1):=by
 have hnw:n<w64:=by rw[BT];omega
 obtain⟨r,h1,h2,h3,h4⟩:=Q1u (hi:=0) (lo:=n) QZ hnw;rw[Nat.zero_mul,Nat.zero_add]at h2 h3;obtain⟨hi,lo,e1,e2,e3⟩:∃hi lo:Nat,IE [U r,U r]=some [U hi,U lo]/\hi*w64+lo=r*r/\lo<w64:=⟨_,_,Q40 h4 h4,Q26 _,Nat.mod_lt _ QZ⟩;have hhi:hi=0:=by
  rcases Nat.eq_zero_or_pos hi with h|h
  ·exact h
  ·have:=be w64 h;omega
 subst hhi;have hlo:lo=r*r:=by omega
 subst hlo;have z:=Qt1 (x:=0) (y:=0) QZ (bz _);refine⟨r,?_,h2,h3⟩;exact Zzs hn (Qlb (.inr hmode)) (Zh3 hn h2 h1 e1 (Qt1 hnw h2) z (λk hk=>Qaw hk) hmode)
def Bo (a b:Int):Int:=(2*a+b)/(2*b)
theorem LM {a b k:Int} (hb:0<b) (h1:k*(2*b)<=2*a+b) (h2:2*a+b<(k+1)*(2*b)):Bo a b=k:=by
 unfold Bo;have g1:k<=(2*a+b)/(2*b):=(Int.le_ediv_iff_mul_le (by omega)).2 h1;have g2:(2*a+b)/(2*b)<k+1:=(Int.ediv_lt_iff_lt_mul (by omega)).2 h2;omega
theorem Q1f {p c:Nat} (hp:p<w64) (hc:0<c):GN [U 0,U p,U c]=some [U ((p/c:Nat):Int),U ((p%c:Nat):Int)]:=by
 rw[BT]at hp;have h1:(p:Int).tdiv (c:Int)=((p/c:Nat):Int):=by rw[bj (by omega)];simp
 have h2:(p:Int).tmod (c:Int)=((p%c:Nat):Int):=by rw[Int.tmod_eq_emod_of_nonneg (by omega)];simp
 have h3:p/c<=p:=Nat.div_le_self _ _;unfold GN;generalize Ia=M;generalize Ry=N1;generalize Qe3=N2;rw[Q2y];rw[Bk (by simp;omega),A3 (by omega),Bx (by simp),A3 (by omega),A3 (by omega),h1,h2];generalize p/c=q at*;rw[HR (by omega)]
theorem Q3n (more:Int) (some_ neg:Bool):Hs [I 2,I more,B some_,B neg]=some [B (if more>0 then true else if more=0 then !neg else false)]:=by
 unfold Hs;rw[Qx9];simp only[go_sem];rw[ab (by omega),ab (by omega)]
 repeat' split
 all_goals rfl
theorem Qs8 {n:Nat} (h:n<=9223372036854775808):Fk [U n,B true]=some [I (-(n:Int)),B true]:=by
 unfold Fk;rw[Xg];simp only[go_sem];rw[aa (by omega),NN,Qib];have:((0-(n:Int))%18446744073709551616+9223372036854775808)%18446744073709551616-9223372036854775808= -(n:Int):=by omega
 rw[this]
def GE (q r c:Nat) (neg:Bool):Nat:=if r>c-r then q+1 else if r<c-r then q else if neg then q else q+1
theorem Zpr {M1 M2 M3 M4 M5 M6 M7:Fn} {a b s:Int} {A C p q r c:Nat} (hc0:0<c) (hc1:c<9223372036854775808) (hr:r<c) (hq:q<9223372036854775807)
  (k1:M7 [I 2]=some [B true]) (k2:M6 [I a]=some [U A]) (k3:M6 [I b]=some [U C]) (k4:M6 [I c]=some [U c]) (k5:M5 [U A,U C]=some [U 0,U p]) (k6:M4 [U 0,U p,U c]=some [U q,U r]) (k7:M3 [I a,I b]=some [I s])
  (k8:∀(more:Int) (some_ neg:Bool),M2 [I 2,I more,B some_,B neg]=some [B (if more>0 then true else if more=0 then !neg else false)])
  (k9:∀k:Nat,k<9223372036854775808->M1 [U k,B false]=some [I k,B true]) (k10:∀k:Nat,k<9223372036854775808->M1 [U k,B true]=some [I (-(k:Int)),B true]):
  Sj M1 M2 M3 M4 M5 M6 M7 [I a,I b,I c,I 2]=some [I (if s<0 then-(GE q r c true:Int)else(GE q r c false:Int)),B true]:=by
 have w1:wrap .u64 ((c:Int)-(r:Int))=((c-r:Nat):Int):=by rw[HR (by omega)];omega
 have w2:wrap .u64 ((q:Int)+1)=((q+1:Nat):Int):=by rw[HR (by omega)];omega
 have n1:=k9 q (by omega);have n2:=k9 (q+1) (by omega);rw[Qzx];simp only[go_sem,k1,k2,k3,k4,k5,k6,k7,k8,w1,w2,n1,n2];rw[ab (by omega),ab (by simp),ab (by omega)];by_cases hs:s<0
 ·rw[aa hs];rw[aa (show¬(s<0↔(c:Int)<0) by omega)];have hne:(s !=0)=true:=by simp;omega
  rw[hne];unfold GE;by_cases g1:r>c-r
  ·rw[aa g1];rw[aa (show(r:Int)>((c-r:Nat):Int) by omega),aa (by decide),ab (show¬((q+1:Nat):Int)=0 by omega),k10 (q+1) (by omega)];simp only[go_sem]
  ·rw[ab g1];rw[ab (show¬(r:Int)>((c-r:Nat):Int) by omega)];by_cases g2:r<c-r
   ·rw[aa g2];rw[aa (show(r:Int)<((c-r:Nat):Int) by omega),ab (by decide),k10 q (by omega)];simp only[go_sem]
   ·rw[ab g2,aa rfl];rw[ab (show¬(r:Int)<((c-r:Nat):Int) by omega),ab (by decide),k10 q (by omega)];simp only[go_sem]
 ·rw[ab hs];rw[ab (show¬¬(s<0↔(c:Int)<0) by omega)];unfold GE;by_cases g1:r>c-r
  ·rw[aa g1,aa (show(r:Int)>((c-r:Nat):Int) by omega),aa (by decide),ab (show¬((q+1:Nat):Int)=0 by omega)]
  ·rw[ab g1,ab (show¬(r:Int)>((c-r:Nat):Int) by omega)];by_cases g2:r<c-r
   ·rw[aa g2,aa (show(r:Int)<((c-r:Nat):Int) by omega),ab (by decide)]
   ·rw[ab g2,ab (show¬(r:Int)<((c-r:Nat):Int) by omega),aa (by decide),ab (show¬((q+1:Nat):Int)=0 by omega),ab (by decide)]
theorem Z1u (q r c:Nat):GE q r c false=if r<c-r then q else q+1:=by
 unfold GE;by_cases h1:r>c-r
 ·rw[aa h1,ab (by omega)]
 ·rw[ab h1];by_cases h2:r<c-r
  ·rw[aa h2,aa h2]
  ·rw[ab h2,ab h2,ab (by simp)]
theorem Zma (q r c:Nat):GE q r c true=if r>c-r then q+1 else q:=by
 unfold GE;by_cases h1:r>c-r
 ·rw[aa h1,aa h1]
 ·rw[ab h1,ab h1];by_cases h2:r<c-r
  ·rw[aa h2]
  ·rw[ab h2,aa rfl]
theorem Qwp {p q r c:Nat} (hc:0<c) (h:p=c*q+r) (hr:r<c):Bo p c=GE q r c false:=by
 have e:(p:Int)=(c:Int)*q+r:=by rw[h];simp
 have e3:(q:Int)*(2*c)=2*((c:Int)*q):=by grind
 have e4:((q+1:Nat):Int)*(2*c)=2*((c:Int)*q)+2*c:=by grind
 have e5:((q:Int)+1)*(2*c)=2*((c:Int)*q)+2*c:=by grind
 have e6:(((q+1:Nat):Int)+1)*(2*c)=2*((c:Int)*q)+4*c:=by grind
 rw[Z1u];by_cases g:r<c-r
 ·rw[aa g];exact LM (by omega) (by rw[e3];omega) (by rw[e5];omega)
 ·rw[ab g];exact LM (by omega) (by rw[e4];omega) (by rw[e6];omega)
theorem Zo2 {p q r c:Nat} (hc:0<c) (h:p=c*q+r) (hr:r<c):Bo (-(p:Int)) c= -(GE q r c true:Int):=by
 have e:(p:Int)=(c:Int)*q+r:=by rw[h];simp
 have e3: -(q:Int)*(2*c)= -(2*((c:Int)*q)):=by grind
 have e4: -((q+1:Nat):Int)*(2*c)= -(2*((c:Int)*q))-2*c:=by grind
 have e5:(-(q:Int)+1)*(2*c)= -(2*((c:Int)*q))+2*c:=by grind
 have e6:(-((q+1:Nat):Int)+1)*(2*c)= -(2*((c:Int)*q)):=by grind
 rw[Zma];by_cases g:r>c-r
 ·rw[aa g];exact LM (by omega) (by rw[e4];omega) (by rw[e6];omega)
 ·rw[ab g];exact LM (by omega) (by rw[e3];omega) (by rw[e5];omega)
theorem S3 {a b c:Int} (ha:i64 a) (hb:i64 b) (hc:0<c/\c<9223372036854775808) (hp:a.natAbs*b.natAbs<9223372036854775807):Bz [I a,I b,I c,I 2]=some [I (Bo (a*b) c),B true]:=by
 obtain⟨hi,lo,e1,e2,e3⟩:=Oc (Oe ha) (Oe hb);have hm:=RY a b;have hs:=SR a b;have hz:a*b=0->a.natAbs*b.natAbs=0:=λh=>by rw[<-Int.natAbs_mul,h];rfl
 generalize a.natAbs*b.natAbs=p at*;have hhi:hi=0:=by
  rcases Nat.eq_zero_or_pos hi with h|h
  ·exact h
  ·have:=be w64 h;have:=BT;omega
 subst hhi;have hlo:lo=p:=by omega
 subst hlo;obtain⟨n,rfl⟩:=bv (show 0<=c by omega);have hn:0<n:=by omega
 have h1:=Nat.div_add_mod lo n;have h2:=Nat.mod_lt lo hn;have h3:lo/n<=lo:=Nat.div_le_self _ _;have hd:=Q1f e3 hn;have hcs:=Iu (x:=(n:Int)) (by unfold i64;omega);rw[Int.natAbs_natCast]at hcs;generalize lo/n=q at*;generalize lo%n=r at*;have hmain:=Zpr (M1:=Fk) (M2:=Hs) (M3:=Fqs) (M4:=GN) (M5:=Ev) (M6:=Gn) (M7:=FQ) hn (by omega) h2 (by omega)
  (Qlb (.inr (.inr rfl))) (Iu ha) (Iu hb) hcs e1 hd (Qix a b) Q3n (λk hk=>Qaw hk) (λk hk=>Qs8 (by omega))
 have hv:(if sgn a b<0 then-(GE q r n true:Int)else(GE q r n false:Int))=Bo (a*b) n:=by
  rcases hs with⟨g1,g2⟩|⟨g1,g2⟩|⟨g1,g2⟩
  ·rw[ab (by omega),g2];rw[g1]at hm;have:lo=0:=hz g2;rw[<-Qwp hn h1.symm h2,this];rfl
  ·rw[ab (by omega),<-Qwp hn h1.symm h2,<-hm,g1,Int.one_mul]
  ·rw[aa (by omega),<-Zo2 hn h1.symm h2,<-hm,g1,Int.neg_mul,Int.one_mul]
 rw[hv]at hmain;exact hmain
def val:List Nat->Nat
 |[]=>0
 |d::l=>d+65536*val l
def Dig (l:List Nat):Prop:=∀d∈l,d<65536
theorem Dig.sub {l m:List Nat} (h:Dig l) (hs:∀d∈m,d∈l):Dig m:=λd hd=>h d (hs d hd)
theorem Dig.set {l:List Nat} (h:Dig l) (j d:Nat) (hd:d<65536):Dig (l.set j d):=by
 intro x hx;rcases List.mem_or_eq_of_mem_set hx with h'|rfl
 ·exact h x h'
 ·exact hd
def bd (A:Nat) (p:Pt):Prop:=p.x.natAbs<=A/\p.y.natAbs<=A/\p.z.natAbs<=A
def Jr (a b:Pt):Int:=a.x*b.x+a.y*b.y+a.z*b.z
def GD (a b:Pt):Pt:=⟨a.x-b.x,a.y-b.y,a.z-b.z⟩
theorem Ht {x y:Int} {A B:Nat} (hx:x.natAbs<=A) (hy:y.natAbs<=B):(x*y).natAbs<=A*B:=by rw[Int.natAbs_mul];exact dp hx hy
theorem AZ {A B:Nat} {a:Pt} (h:bd A a) (hab:A<=B):bd B a:=⟨cd h.1 hab,cd h.2.1 hab,cd h.2.2 hab⟩
theorem Zyj (a b:Pt):Jr (GD a b) (GD a b)=Jr (GD b a) (GD b a):=by
 simp only[Jr,GD];have h:∀x y:Int,(x-y)*(x-y)=(y-x)*(y-x):=by intro x y;rw[<-Int.neg_mul_neg,Int.neg_sub]
 rw[h a.x,h a.y,h a.z]
theorem Z26 {x y:Int}:La x y<=0↔x<=y:=by
 unfold La;by_cases h:x<y
 ·rw[aa h];omega
 ·rw[ab h];by_cases h':x=y
  ·rw[aa h'];omega
  ·rw[ab h'];omega
theorem Qxg (v:Nat) (h:v<w64):wrap .u64 (((BitVec.ofInt IntKind.u64.bits (v:Int)&&&BitVec.ofInt IntKind.u64.bits 4294967295).toNat:Nat):Int)=((v%4294967296:Nat):Int):=by
 rw[BT]at h;have e:(BitVec.ofInt IntKind.u64.bits (v:Int)&&&BitVec.ofInt IntKind.u64.bits 4294967295).toNat=v%4294967296:=by
  rw[BitVec.toNat_and];have e1:(BitVec.ofInt IntKind.u64.bits (v:Int)).toNat=v:=by
   simp only[IntKind.bits,BitVec.toNat_ofInt];omega
  have e2:(BitVec.ofInt IntKind.u64.bits 4294967295).toNat=2^32-1:=by
   simp only[IntKind.bits,BitVec.toNat_ofInt];rfl
  rw[e1,e2,Nat.and_two_pow_sub_one_eq_mod]
 rw[e,HR (by omega)]
theorem Qty (v:Nat):(v:Int).fdiv (2^min (Int.toNat 32) IntKind.u64.bits)=((v/4294967296:Nat):Int):=by
 have e:(2^min (Int.toNat 32) IntKind.u64.bits:Int)=4294967296:=rfl;rw[e,Int.fdiv_eq_ediv_of_nonneg _ (by omega)];omega
def EZ (a n:Nat) (down:Bool) (j:Nat):Prop:=
 (j=0\/if down=true then(2*j-1)*(2*j-1)*n<4*(a*a)else(2*j-1)*(2*j-1)*n<=4*(a*a))/\
 (if down=true then 4*(a*a)<=(2*j+1)*(2*j+1)*n else 4*(a*a)<(2*j+1)*(2*j+1)*n)
theorem PM {p q n:Nat} (h:p<=q):p*p*n<=q*q*n:=be _ (dp h h)
theorem Zou {a n:Nat} {down:Bool} {i j:Nat} (hi:EZ a n down i) (hj:EZ a n down j):i=j:=by
 have key:∀{i j:Nat},EZ a n down i->EZ a n down j-> ¬i<j:=by
  rintro i j ⟨-,h2⟩ ⟨h3,-⟩ hlt;have h4:=PM (n:=n) (show 2*i+1<=2*j-1 by omega);rcases h3 with h3|h3
  ·omega
  ·by_cases hd:down=true
   ·rw[aa hd]at h2 h3;omega
   ·rw[ab hd]at h2 h3;omega
 have h1:=key hi hj;have h2:=key hj hi;omega
open Classical in
noncomputable def rnd (a n:Nat) (down:Bool):Nat:=if h:∃j,EZ a n down j then Classical.choose h else 0
theorem RD {a n:Nat} {down:Bool} {j:Nat} (h:EZ a n down j):rnd a n down=j:=by
 have hx:∃j,EZ a n down j:=⟨j,h⟩;unfold rnd;rw[dif_pos hx];exact Zou (Classical.choose_spec hx) h
noncomputable def B9 (x r n:Int):Int:=if x<0 then-(rnd (x.natAbs*r.natAbs) n.natAbs true:Int)else(rnd (x.natAbs*r.natAbs) n.natAbs false:Int)
theorem Yr {X R n j:Nat} {down:Bool} (hn:0<n) (hx:X*X<=n) (h:EZ (X*R) n down j):j<=R:=by
 by_cases c:j<=R
 ·exact c
 exfalso;have e:4*(X*R*(X*R))=(2*R)*(2*R)*(X*X):=by grind
 have h2:(2*R)*(2*R)*(X*X)<=(2*R)*(2*R)*n:=Nat.mul_le_mul_left _ hx;have h3:(2*R)*(2*R)*n<(2*R+1)*(2*R+1)*n:=Nat.mul_lt_mul_of_pos_right (Nat.mul_self_lt_mul_self (by omega)) hn;have h4:(2*R+1)*(2*R+1)*n<=(2*j-1)*(2*j-1)*n:=PM (by omega);obtain⟨h5,-⟩:=h;rcases h5 with h5|h5
 ·omega
 ·split at h5<;>omega
theorem Zzy {X R n j:Nat} {down:Bool} (hn:0<n) (hx:R*R<=n) (h:EZ (X*R) n down j):j<=X:=by
 rw[Nat.mul_comm]at h;exact Yr hn hx h
theorem Zjn {a n q:Nat} (down:Bool) (h1:q*q*n<=a*a) (h2:a*a<(q+1)*(q+1)*n):
  EZ a n down (if(if down=true then(2*q+1)*(2*q+1)*n<2*a*(2*a)else(2*q+1)*(2*q+1)*n<=2*a*(2*a))then q+1 else q):=by
 have e4:2*a*(2*a)=4*(a*a):=by grind
 rw[e4];have e1:4*(q*q*n)<=4*(a*a):=Nat.mul_le_mul_left _ h1;have e2:4*(a*a)<4*((q+1)*(q+1)*n):=by omega
 have e5:(2*q-1)*(2*q-1)*n<=(2*q)*(2*q)*n:=PM (by omega);have e6:(2*q)*(2*q)*n=4*(q*q*n):=by grind
 have e7:(2*(q+1))*(2*(q+1))*n=4*((q+1)*(q+1)*n):=by grind
 have e8:(2*(q+1))*(2*(q+1))*n<=(2*(q+1)+1)*(2*(q+1)+1)*n:=PM (by omega);have e9:n=0\/q=0\/(2*q-1)*(2*q-1)*n<(2*q)*(2*q)*n:=by
  by_cases hn:n=0
  ·exact .inl hn
  ·by_cases hq:q=0
   ·exact .inr (.inl hq)
   ·right;right;refine Nat.mul_lt_mul_of_pos_right ?_ (by omega);exact Nat.mul_self_lt_mul_self (by omega)
 have hn:n≠0:=by rintro rfl;simp at h2
 unfold EZ;cases down
 ·simp only[Bool.false_eq_true,if_false];by_cases c:(2*q+1)*(2*q+1)*n<=4*(a*a)
  ·rw[aa c];refine⟨.inr ?_,by omega⟩;rw[show 2*(q+1)-1=2*q+1 by omega];exact c
  ·rw[ab c];exact⟨by omega,by omega⟩
 ·simp only[if_true];by_cases c:(2*q+1)*(2*q+1)*n<4*(a*a)
  ·rw[aa c];refine⟨.inr ?_,by omega⟩;rw[show 2*(q+1)-1=2*q+1 by omega];exact c
  ·rw[ab c];exact⟨by omega,by omega⟩
theorem Z4i {A N:Nat} (hN:0<N):∃q:Nat,q*q*N<=A*A/\A*A<(q+1)*(q+1)*N:=by
 have key:∀n:Nat,∃r:Nat,r*r<=n/\n<(r+1)*(r+1):=by
  intro n;induction n with
  |zero=>exact⟨0,by simp,by simp⟩
  |succ n ih=>
   obtain⟨r,h1,h2⟩:=ih;by_cases h:n+1<(r+1)*(r+1)
   ·exact⟨r,by omega,h⟩
   ·refine⟨r+1,by omega,?_⟩;have:(r+1+1)*(r+1+1)=(r+1)*(r+1)+2*(r+1)+1:=by grind
    omega
 obtain⟨q,h1,h2⟩:=key (A*A/N);exact⟨q,(Nat.le_div_iff_mul_le hN).1 h1,(Nat.div_lt_iff_lt_mul hN).1 h2⟩
theorem T9 {x r n:Int} (hx:x.natAbs<=33554432*4) (hr:0<=r/\r<=33554432*4) (hn:0<n/\n<=4611686018427387904) (hxn:x*x<=n):
  True/\(B9 x r n).natAbs<=268435456/\EZ (x.natAbs*r.natAbs) n.natAbs (decide (x<0)) (B9 x r n).natAbs:=by
 obtain⟨R,rfl⟩:=bv hr.1;obtain⟨N,rfl⟩:=bv (show 0<=n by omega);have hxx:x.natAbs*x.natAbs<=N:=by
  have:((x.natAbs*x.natAbs:Nat):Int)=x*x:=by rw[Int.natAbs_mul_self]
  omega
 simp only[B9,Int.natAbs_natCast];obtain⟨q,l2,l3⟩:=Z4i (A:=x.natAbs*R) (N:=N) (by omega);obtain⟨j,hi⟩:∃j,EZ (x.natAbs*R) N (decide (x<0)) j:=⟨_,Zjn (decide (x<0)) l2 l3⟩;have hle:=Yr (X:=x.natAbs) (R:=R) (by omega) hxx hi;have hrr:=RD hi;by_cases hx0:x<0
 ·have e:=an hx0;rw[e]at hi hrr⊢;rw[aa hx0,hrr,Int.natAbs_neg,Int.natAbs_natCast];exact⟨trivial,by omega,hi⟩
 ·have e:=ap hx0;rw[e]at hi hrr⊢;rw[ab hx0,hrr,Int.natAbs_natCast];exact⟨trivial,by omega,hi⟩
def Ie (n k:Int):Prop:=0<=k/\n<=k*k/\(k=0\/(k-1)*(k-1)<n)
theorem Zw6 {n i j:Int} (hi:Ie n i) (hj:Ie n j):i=j:=by
 have key:∀{i j:Int},Ie n i->Ie n j-> ¬i<j:=by
  rintro i j ⟨h1,h2,-⟩ ⟨h4,h5,h6⟩ hlt;rcases h6 with h6|h6
  ·omega
  ·have:=Int.mul_self_le_mul_self h1 (show i<=j-1 by omega);omega
 have h1:=key hi hj;have h2:=key hj hi;omega
open Classical in
noncomputable def upR (n:Int):Int:=if h:∃j,Ie n j then Classical.choose h else 0
theorem Qr2 {n k:Int} (h:Ie n k):upR n=k:=by
 have hx:∃j,Ie n j:=⟨k,h⟩;unfold upR;rw[dif_pos hx];exact Zw6 (Classical.choose_spec hx) h
theorem Q1c {n r:Nat} (h1:r*r<=n) (h2:n<(r+1)*(r+1)):Ie n (if r*r<n then r+1 else r:Nat):=by
 unfold Ie;by_cases c:r*r<n
 ·rw[aa c];have e1:((r+1:Nat):Int)*((r+1:Nat):Int)=(((r+1)*(r+1):Nat):Int):=(Int.natCast_mul _ _).symm;have e2:(((r+1:Nat):Int)-1)*(((r+1:Nat):Int)-1)=((r*r:Nat):Int):=by
   rw[show((r+1:Nat):Int)-1=(r:Int) by omega];exact(Int.natCast_mul _ _).symm
  rw[e1,e2];generalize(r+1)*(r+1)=A at*;generalize r*r=B at*;exact⟨by omega,by omega, .inr (by omega)⟩
 ·rw[ab c];have e1:(r:Int)*(r:Int)=((r*r:Nat):Int):=(Int.natCast_mul _ _).symm;rw[e1];refine⟨by omega,by omega,?_⟩;rcases Nat.eq_zero_or_pos r with h|h
  ·left;omega
  ·right;have e2:((r:Int)-1)*((r:Int)-1)=(((r-1)*(r-1):Nat):Int):=by
    rw[show(r:Int)-1=((r-1:Nat):Int) by omega];exact(Int.natCast_mul _ _).symm
   have:=Nat.mul_self_lt_mul_self (show r-1<r by omega);rw[e2];omega
theorem Z35 (k:Nat):((2^(k+1):Nat):Int).fdiv (2^min (Int.toNat 1) IntKind.i64.bits)=((2^k:Nat):Int):=by
 have e:(2^min (Int.toNat 1) IntKind.i64.bits:Int)=2:=rfl;rw[e,Int.fdiv_eq_ediv_of_nonneg _ (by omega),Nat.pow_succ];omega
theorem Zls:(1:Int).fdiv (2^min (Int.toNat 1) IntKind.i64.bits)=0:=rfl
theorem Zlc:∀n:Nat,∃r:Nat,r*r<=n/\n<(r+1)*(r+1):=by
 intro n;induction n with
 |zero=>exact⟨0,by simp,by simp⟩
 |succ n ih=>
  obtain⟨r,h1,h2⟩:=ih;by_cases h:n+1<(r+1)*(r+1)
  ·exact⟨r,by omega,h⟩
  ·refine⟨r+1,by omega,?_⟩;have:(r+1+1)*(r+1+1)=(r+1)*(r+1)+2*(r+1)+1:=by grind
   omega
theorem Ru {n:Nat} (hn:n<4611686018427387904):∃r:Nat,True/\r*r<=n/\n<(r+1)*(r+1)/\r<2147483648:=by
 obtain⟨r,h1,h2⟩:=Zlc n;refine⟨r,trivial,h1,h2,?_⟩;by_cases c:r<2147483648
 ·exact c
 ·have:=dp (show 2147483648<=r by omega) (show 2147483648<=r by omega);omega
def sqD (a b:Pt):Int:=Jr (GD a b) (GD a b)
theorem QM (a b:Pt):0<=sqD a b:=by
 unfold sqD Jr;have h:∀u:Int,0<=u*u:=λu=>by rw[<-Int.natAbs_mul_self];omega
 have:=h (GD a b).x;have:=h (GD a b).y;have:=h (GD a b).z;omega
theorem DH {x:Int} {A:Nat} (h:x.natAbs<=A):0<=x*x/\x*x<=((A*A:Nat):Int):=by
 have:=dp h h;rw[<-Int.natAbs_mul_self];omega
theorem Pw {A:Nat} {a b:Pt} (ha:bd A a) (hb:bd A b) (hA:A<=67108864):sqD a b<=54043195528445952:=by
 have h:∀x y:Int,x.natAbs<=A->y.natAbs<=A->(x-y)*(x-y)<=18014398509481984:=by
  intro x y hx hy;exact(DH (x:=x-y) (A:=134217728) (by omega)).2
 have h1:=h _ _ ha.1 hb.1;have h2:=h _ _ ha.2.1 hb.2.1;have h3:=h _ _ ha.2.2 hb.2.2;unfold sqD Jr GD;simp only;omega
noncomputable def AE (a b:Pt):Int:=upR (sqD a b)
theorem Qk3 {a b:Pt} (ha:bd 67108864 a) (hb:bd 67108864 b):True/\Ie (sqD a b) (AE a b):=by
 have h0:=QM a b;have h1:=Pw ha hb (bz _);obtain⟨d,hd⟩:=bv h0;unfold AE;rw[hd]at h1⊢;obtain⟨r,-,h2,h3,h4⟩:=Ru (n:=d) (by omega);have hu:=Q1c h2 h3;rw[Qr2 hu];exact⟨trivial,hu⟩
theorem IC {a b:Pt} (ha:bd 67108864 a) (hb:bd 67108864 b):0<=AE a b/\AE a b<=268435456:=by
 obtain⟨-,h1,h2,h3⟩:=Qk3 ha hb;have h4:=Pw ha hb (bz _);refine⟨h1,?_⟩;rcases h3 with h3|h3
 ·omega
 ·by_cases c:AE a b<=268435456
  ·exact c
  ·have:=Int.mul_self_le_mul_self (a:=268435456) (b:=AE a b-1) (by omega) (by omega);omega
def Jz (n k:Int):Prop:=0<=k/\n<=k*(k+1)/\(k=0\/(k-1)*k<n)
theorem H3 {x:Int} {A:Nat} (h:x.natAbs<=A) (hA:A<=9223372036854775807):wrap .i64 x=x:=Ae (by omega)
theorem Im {x y:Int} {A B:Nat} (hx:x.natAbs<=A) (hy:y.natAbs<=B):(x-y).natAbs<=A+B:=by omega
theorem SX {x y:Int} {A B:Nat} (hx:x.natAbs<=A) (hy:y.natAbs<=B):(x+y).natAbs<=A+B:=by omega
theorem Qee {c u x:Int} {A:Nat} (hc:c.natAbs<=A) (ha:(c+x).natAbs<=A) (h:(0<=x->0<=u/\u<=x)/\(x<=0->x<=u/\u<=0)):(c+u).natAbs<=A:=by
 rcases Int.le_total 0 x with g|g
 ·have:=h.1 g;omega
 ·have:=h.2 g;omega
theorem Yv (a b:Pt):sqD a b=(a.x-b.x)*(a.x-b.x)+(a.y-b.y)*(a.y-b.y)+(a.z-b.z)*(a.z-b.z):=rfl
theorem FX (u:Int):0<=u*u:=by rw[<-Int.natAbs_mul_self];omega
theorem YR {a b:Pt}:sqD a b=0↔a=b:=by
 rw[Yv];obtain⟨a1,a2,a3⟩:=a;obtain⟨b1,b2,b3⟩:=b;have h1:=FX (a1-b1);have h2:=FX (a2-b2);have h3:=FX (a3-b3);constructor
 ·intro h;simp only at h;have e1:(a1-b1)*(a1-b1)=0:=by omega
  have e2:(a2-b2)*(a2-b2)=0:=by omega
  have e3:(a3-b3)*(a3-b3)=0:=by omega
  have z:∀u:Int,u*u=0->u=0:=λu hu=>by
   rcases Int.mul_eq_zero.1 hu with h|h<;>exact h
  have:=z _ e1;have:=z _ e2;have:=z _ e3;rw[Pt.mk.injEq];omega
 ·intro h;injection h with h4 h5 h6;subst h4 h5 h6;simp
theorem Q9o (a b:Pt):(a.x-b.x)*(a.x-b.x)<=sqD a b/\(a.y-b.y)*(a.y-b.y)<=sqD a b/\(a.z-b.z)*(a.z-b.z)<=sqD a b:=by
 rw[Yv];have h1:=FX (a.x-b.x);have h2:=FX (a.y-b.y);have h3:=FX (a.z-b.z);omega
noncomputable def BY (c a:Pt) (d:Int):Pt:=⟨c.x+B9 (a.x-c.x) d (sqD a c),c.y+B9 (a.y-c.y) d (sqD a c),c.z+B9 (a.z-c.z) d (sqD a c)⟩
abbrev B24:Nat:=16777216
theorem Qmc {x r n:Int} (hx:x.natAbs<=33554432*4) (hr:0<=r/\r<=33554432*4) (hn:0<n/\n<=4611686018427387904) (hxn:x*x<=n) (hrn:r*r<=n):
  (0<=x->0<=B9 x r n/\B9 x r n<=x)/\(x<=0->x<=B9 x r n/\B9 x r n<=0):=by
 obtain⟨-,h2,h3⟩:=T9 hx hr hn hxn;have h4 := Zzy (by omega) (by
  have:((r.natAbs*r.natAbs:Nat):Int)=r*r:=Int.natAbs_mul_self;omega) h3
 unfold B9 at*;constructor
 ·intro h;rw[ab (by omega)]at h4⊢;omega
 ·intro h;by_cases c:x<0
  ·rw[aa c]at h4⊢;omega
  ·rw[ab c]at h4⊢;omega
theorem Z03 {a b:Pt} (ha:bd B24 a) (hb:bd B24 b):sqD a b<=3377699720527872:=by
 have h:∀x y:Int,x.natAbs<=B24->y.natAbs<=B24->(x-y)*(x-y)<=1125899906842624:=by
  intro x y hx hy;unfold B24 at*;exact(DH (x:=x-y) (A:=33554432) (by omega)).2
 have h1:=h _ _ ha.1 hb.1;have h2:=h _ _ ha.2.1 hb.2.1;have h3:=h _ _ ha.2.2 hb.2.2;rw[Yv];omega
theorem KH {c a:Pt} {d:Int} (hc:bd B24 c) (ha:bd B24 a) (hne:a≠c) (hd:0<=d/\d<AE a c):bd B24 (BY c a d):=by
 have h0:sqD a c≠0:=λh=>hne (YR.1 h);have h1:=QM a c;have h2:=Pw (AZ ha (by decide)) (AZ hc (by decide)) (show 67108864<=67108864 by omega);obtain⟨-,g1,g2,g3⟩:=Qk3 (AZ ha (show B24<=67108864 by decide)) (AZ hc (show B24<=67108864 by decide));have hl:=IC (AZ ha (show B24<=67108864 by decide)) (AZ hc (show B24<=67108864 by decide));have hdd:d*d<=sqD a c:=by
  have:=Int.mul_self_le_mul_self hd.1 (show d<=AE a c-1 by omega);omega
 have hd2:d<=33554432*4:=by
  by_cases c2:d<=33554432*4
  ·exact c2
  ·exfalso;have h3:=Int.mul_self_le_mul_self (a:=33554432*4+1) (b:=d) (by omega) (by omega);have h4:=Z03 ha hc;omega
 obtain⟨q1,q2,q3⟩:=Q9o a c;have hn:0<sqD a c/\sqD a c<=4611686018427387904:=⟨Int.lt_iff_le_and_ne.2 ⟨h1,λh=>h0 h.symm⟩,Int.le_trans h2 (by decide)⟩;have hd3:0<=d/\d<=33554432*4:=⟨hd.1,hd2⟩;have k1:=Qmc (x:=a.x-c.x) (r:=d) (n:=sqD a c) (cd (Im ha.1 hc.1) (by decide)) hd3 hn q1 hdd;have k2:=Qmc (x:=a.y-c.y) (r:=d) (n:=sqD a c) (cd (Im ha.2.1 hc.2.1) (by decide)) hd3 hn q2 hdd;have k3:=Qmc (x:=a.z-c.z) (r:=d) (n:=sqD a c) (cd (Im ha.2.2 hc.2.2) (by decide)) hd3 hn q3 hdd;have e:∀x y:Int,x+(y-x)=y:=λx y=>by omega
 exact⟨Qee hc.1 (by rw[e];exact ha.1) k1,Qee hc.2.1 (by rw[e];exact ha.2.1) k2,Qee hc.2.2 (by rw[e];exact ha.2.2) k3⟩
def F5 (p c q:Pt):Pt:=⟨p.x-c.x+(q.x-c.x),p.y-c.y+(q.y-c.y),p.z-c.z+(q.z-c.z)⟩
def Hn (p c q:Pt):Int:=Jr (F5 p c q) (F5 p c q)
theorem Z3u {p c q:Pt} (hp:bd B24 p) (hc:bd B24 c) (hq:bd B24 q):bd 67108864 (F5 p c q):=by
 unfold bd B24 F5 at*;simp only;omega
def Hc (a c b:Pt) (tol d:Int):Prop:=d<=mn (AE a c) (AE c b)-2/\Hn (BY c a d) c (BY c b d)<=16*tol*tol
theorem Sn (x y:Int):mn x y<=x/\mn x y<=y:=by unfold mn;split<;>omega
theorem Zgq (a b:Pt):sqD a b=sqD b a:=by
 unfold sqD;exact Zyj a b
theorem Tr (a b:Pt):AE a b=AE b a:=by unfold AE;rw[Zgq]
open Classical in
noncomputable def FL (P:Int->Prop):Nat->Int->Int
 |0,d=>if P (d+1)then d+1 else d
 |k+1,d=>FL P k (if P (d+((2^(k+1):Nat):Int))then d+((2^(k+1):Nat):Int)else d)
open Classical in
theorem Q33 {P:Int->Prop}:∀(k:Nat) (d:Int),d<=FL P k d/\FL P k d<d+((2^(k+1):Nat):Int)/\(FL P k d=d\/P (FL P k d))
 |0,d=>by
  have e:((2^(0+1):Nat):Int)=2:=rfl;rw[e];unfold FL;split
  ·rename_i h;exact⟨by omega,by omega, .inr h⟩
  ·exact⟨by omega,by omega, .inl rfl⟩
 |k+1,d=>by
  unfold FL;have hp:0<2^(k+1):=Nat.two_pow_pos _;have e3:2^(k+1+1)=2^(k+1)+2^(k+1):=by rw[Nat.pow_succ 2 (k+1)];omega
  rw[e3];have hif:(if P (d+((2^(k+1):Nat):Int))then d+((2^(k+1):Nat):Int)else d)=d\/((if P (d+((2^(k+1):Nat):Int))then d+((2^(k+1):Nat):Int)else d)=d+((2^(k+1):Nat):Int)/\P (if P (d+((2^(k+1):Nat):Int))then d+((2^(k+1):Nat):Int)else d)):=by
   split
   ·rename_i h;exact .inr ⟨rfl,h⟩
   ·exact .inl rfl
  generalize(if P (d+((2^(k+1):Nat):Int))then d+((2^(k+1):Nat):Int)else d)=d' at*;obtain⟨h1,h2,h3⟩:=Q33 (P:=P) k d';generalize FL P k d'=x at*;generalize 2^(k+1)=m at*;rcases hif with hif|⟨hif,hP⟩
  ·subst hif;exact⟨by omega,by omega,h3⟩
  ·refine⟨by omega,by omega, .inr ?_⟩;rcases h3 with h3|h3
   ·rw[h3];exact hP
   ·exact h3
open Classical in
noncomputable def Dq (a c b:Pt) (tol:Int):Int:=if a=c\/b=c then 0 else if FL (Hc a c b tol) 24 0<16 then 0 else FL (Hc a c b tol) 24 0
theorem XP {a c b:Pt} {tol:Int} (h:Dq a c b tol≠0):a≠c/\b≠c/\16<=Dq a c b tol/\Dq a c b tol<33554432/\Hc a c b tol (Dq a c b tol):=by
 unfold Dq at*;split at h
 ·exact absurd rfl h
 ·rename_i h1;rw[ab h1];split at h
  ·exact absurd rfl h
  ·rename_i h2;rw[ab h2];obtain⟨h3,h4,h5⟩:=Q33 (P:=Hc a c b tol) 24 0;have e:((2^(24+1):Nat):Int)=33554432:=rfl;rw[e]at h4;refine⟨λh=>h1 (.inl h),λh=>h1 (.inr h),by omega,by omega,?_⟩;rcases h5 with h5|h5
   ·omega
   ·exact h5
theorem DZ {a b:Pt}:a=b↔a.x=b.x/\a.y=b.y/\a.z=b.z:=by
 obtain⟨a1,a2,a3⟩:=a;obtain⟨b1,b2,b3⟩:=b;simp
def Lj (bend:Int):Nat->Int->Int
 |0,n=>n
 |k+1,n=>if n<64/\bend>16*n*n*n*n*4*4 then Lj bend k (n*2)else n
def KJ (n:Int):Prop:=n=2\/n=4\/n=8\/n=16\/n=32\/n=64
def KZ (p c q:Pt):Int:=Lj (Hn p c q) 5 2
theorem Quf (b:Int):∀(k:Nat) (n:Int),KJ n->KJ (Lj b k n)
 |0,n,h=>by unfold Lj;exact h
 |k+1,n,h=>by
  unfold Lj;split
  ·rename_i c;refine Quf b k (n*2) ?_;rcases h with rfl|rfl|rfl|rfl|rfl|rfl<;>simp[KJ]at c⊢
  ·exact h
theorem Qnp {p c q:Pt} (hp:bd B24 p) (hc:bd B24 c) (hq:bd B24 q):True/\KJ (KZ p c q):=⟨trivial,Quf _ 5 2 (.inl rfl)⟩
def Mz (n i p c q:Int):Int:=c+Bo ((n-i)*(n-i)*(p-c)+i*i*(q-c)) (n*n)
def NK (n i:Int) (p c q:Pt):Pt:=⟨Mz n i p.x c.x q.x,Mz n i p.y c.y q.y,Mz n i p.z c.z q.z⟩
theorem RC {a b n:Int} (hn:0<n) (h:a<=b):Bo a n<=Bo b n:=by
 unfold Bo;exact Int.ediv_le_ediv (by omega) (by omega)
theorem R6 {k n:Int} (hn:0<n):Bo (k*n) n=k:=LM hn (by rw[show k*(2*n)=2*(k*n) by grind];omega) (by rw[show(k+1)*(2*n)=2*(k*n)+2*n by grind];omega)
theorem Mn {n i p c q:Int} {A:Nat} (hn:0<n) (hi:0<=i/\i<=n) (hp:p.natAbs<=A) (hc:c.natAbs<=A) (hq:q.natAbs<=A):(Mz n i p c q).natAbs<=A:=by
 have hnn:0<n*n:=Int.mul_pos hn hn;have h1:0<=(n-i)*(n-i):=FX _;have h2:0<=i*i:=FX _;have h3:(n-i)*(n-i)+i*i<=n*n:=by
  have:n*n-((n-i)*(n-i)+i*i)=2*(i*(n-i)):=by grind
  have:0<=i*(n-i):=Int.mul_nonneg hi.1 (by omega);omega
 have key:∀s:Int,(s=1\/s= -1)->s*((n-i)*(n-i)*(p-c)+i*i*(q-c))<=(A-s*c)*(n*n):=by
  intro s hs;have hp':s*p<=A:=by rcases hs with rfl|rfl<;>omega
  have hc':s*c<=A:=by rcases hs with rfl|rfl<;>omega
  have hq':s*q<=A:=by rcases hs with rfl|rfl<;>omega
  have g1:(n-i)*(n-i)*(s*p-s*c)<=(n-i)*(n-i)*(A-s*c):=Int.mul_le_mul_of_nonneg_left (by omega) h1;have g2:i*i*(s*q-s*c)<=i*i*(A-s*c):=Int.mul_le_mul_of_nonneg_left (by omega) h2;have g3:((n-i)*(n-i)+i*i)*(A-s*c)<=n*n*(A-s*c):=Int.mul_le_mul_of_nonneg_right h3 (by omega);have e1:s*((n-i)*(n-i)*(p-c)+i*i*(q-c))=(n-i)*(n-i)*(s*p-s*c)+i*i*(s*q-s*c):=by grind
  have e2:((n-i)*(n-i)+i*i)*(A-s*c)=(n-i)*(n-i)*(A-s*c)+i*i*(A-s*c):=Int.add_mul ..;have e3:(A-s*c)*(n*n)=n*n*(A-s*c):=Int.mul_comm ..;omega
 unfold Mz;have k1:=RC hnn (key 1 (.inl rfl)|>λh=>(by rw[Int.one_mul,Int.one_mul]at h;exact h));rw[R6 hnn]at k1;have k2:=key (-1) (.inr rfl);have k3:(-(A:Int)-c)*(n*n)<=(n-i)*(n-i)*(p-c)+i*i*(q-c):=by
  have e:(-(A:Int)-c)*(n*n)= -((A- -1*c)*(n*n)):=by grind
  omega
 have k4:=RC hnn k3;rw[R6 hnn]at k4;omega
noncomputable def F7 (a c b:Pt) (tol:Int):List Pt:=
 if Dq a c b tol=0 then [c]
 else(List.range ((KZ (BY c a (Dq a c b tol)) c (BY c b (Dq a c b tol))).toNat+1)).map fun(i:Nat)=>NK (KZ (BY c a (Dq a c b tol)) c (BY c b (Dq a c b tol))) i (BY c a (Dq a c b tol)) c (BY c b (Dq a c b tol))
theorem Q6a {a c b:Pt} {tol:Int} (ha:bd B24 a) (hc:bd B24 c) (hb:bd B24 b):(∀p∈F7 a c b tol,bd B24 p)/\1<=(F7 a c b tol).length/\(F7 a c b tol).length<=65:=by
 unfold F7;by_cases h:Dq a c b tol=0
 ·rw[aa h];simp;exact hc
 ·rw[ab h];obtain⟨h1,h2,h3,h4,h5,-⟩:=XP h;obtain⟨m1,m2⟩:=Sn (AE a c) (AE c b);generalize Dq a c b tol=d at*;have k1:bd B24 (BY c a d):=KH hc ha h1 (by omega);have k2:bd B24 (BY c b d):=KH hc hb h2 (by rw[Tr b c];omega);have k3:=(Qnp k1 hc k2).2;generalize KZ (BY c a d) c (BY c b d)=n at*;have hn:2<=n/\n<=64:=by rcases k3 with rfl|rfl|rfl|rfl|rfl|rfl<;>omega
  refine⟨?_,by simp,by simp;omega⟩;intro p hp;simp only[bc,List.mem_range]at hp;obtain⟨i,hi,rfl⟩:=hp;exact⟨Mn (by omega) (by omega) k1.1 hc.1 k2.1,Mn (by omega) (by omega) k1.2.1 hc.2.1 k2.2.1,Mn (by omega) (by omega) k1.2.2 hc.2.2 k2.2.2⟩
theorem Za {v n:Int} (_:i64 v) (hn:0<n/\n<=4611686018427387904):HS [I v,I n]=some [I (v%n)]:=by
 unfold HS;rw[Zpb,A3 (by omega),A3 (by omega)];have h1: -n<v.tmod n/\v.tmod n<n:=by
  have a1:=Int.tmod_lt_of_pos v hn.1;have a2:=Int.lt_tmod_of_pos v hn.1;omega
 rw[Ae (by omega)];have h2:(v.tmod n+n).tmod n=v%n:=by
  rw[Int.tmod_eq_emod_of_nonneg (by omega),Int.add_emod_right];have h3:=Int.tmod_add_mul_tdiv v n;have h4:v%n=(v.tmod n+n*v.tdiv n)%n:=by rw[h3]
  rw[h4,Int.add_mul_emod_self_left]
 rw[h2]
def Src (l:Rw):Prop:=l.length<=9223372036854775807/\∀c∈l,i64 (Ag (nth .dead c 0))
theorem Qsr {l:Rw} {i:Nat} (h:i<l.length):nth [] l i∈l:=by rw[Gz [] l i h];exact bn h
theorem Z1v {M:Fn} (hM:∀v n:Int,i64 v->0<n/\n<=4611686018427387904->M [I v,I n]=some [I (v%n)]) {l:Rw} (hl:Src l) {k:Nat} {n:Int} (hn:0<n/\n<=4611686018427387904):
  ∃(v:Int) (k':Nat),Va M [I n, .view Aa l,I k]=some [I v, .view Aa l,I k']/\0<=v/\v<n/\k<=k'/\(k<l.length->k'=k+1)/\(l.length<=k->k'=k):=by
 have hl1:=hl.1;rw[Za2];by_cases h:k<l.length
 ·have h1:=hM _ n (hl.2 _ (Qsr h)) hn;simp only[go_sem,aj,h1];rw[ab (by omega),aa (by omega),Ae (by omega)];exact⟨_,k+1,rfl,Int.emod_nonneg _ (by omega),Int.emod_lt_of_pos _ hn.1,by omega,λ_=>rfl,by omega⟩
 ·simp only[go_sem];rw[aa (by omega)];exact⟨0,k,rfl,by omega,hn.1,by omega,by omega,λ_=>rfl⟩
theorem Zey {l:Rw} (hl:Src l) (k:Nat) {n:Int} (hn:0<n/\n<=4611686018427387904):
  ∃(v:Int) (k':Nat),BJ [I n, .view Aa l,I k]=some [I v, .view Aa l,I k']/\0<=v/\v<n/\k<=k'/\(k<l.length->k'=k+1)/\(l.length<=k->k'=k):=
 Z1v (λ_ _ hv hn=>Za hv hn) hl hn
theorem Q89 (l:Rw) (k:Nat):Gv [.view Aa l,I k]=some [B (decide (k<l.length)), .view Aa l,I k]:=by
 unfold Gv;rw[Zs7];congr 3;simp
theorem Q2 (l:Rw):CO [.view Aa l]=some [.view Aa l,I 0]:=by
 unfold CO;rw[Z08]
def AS (r:Int) (k:Int):Int:=if k%4=0 then r else if k%4=2 then-r else 0
def AU (r:Int) (k:Int):Int:=if k%4=1 then r else if k%4=3 then-r else 0
theorem Zwb {r k:Int} (hr:0<=r/\r<=1000000) (hk:0<=k/\k<=1000):Oz [I r,I k]=some [I (AS r k),I (AU r k)]:=by
 unfold Oz;rw[Zxx,Ae (by omega),Int.tmod_eq_emod_of_nonneg hk.1];have hc:k%4=0\/k%4=1\/k%4=2\/k%4=3:=by omega
 unfold AS AU;rcases hc with h|h|h|h<;>rw[h]<;>simp[nth,Ag]
def plU (pl:Int) (p:Pt):Int:=if pl=17 then p.x else if pl=18 then p.z else p.y
def plW (pl:Int) (p:Pt):Int:=if pl=17 then p.y else if pl=18 then p.x else p.z
def plH (pl:Int) (p:Pt):Int:=if pl=17 then p.z else if pl=18 then p.y else p.x
def spP (pl u w h:Int):Pt:=if pl=17 then⟨u,w,h⟩else if pl=18 then⟨w,h,u⟩else⟨h,u,w⟩
def Dk (pl:Int):Prop:=pl=17\/pl=18\/pl=19
theorem Zeg {p:Pt} {pl:Int} (h:Dk pl):Na [I p.x,I p.y,I p.z,I pl]=some [I (plU pl p),I (plW pl p),I (plH pl p)]:=by
 unfold Na;rw[Zgj];rcases h with rfl|rfl|rfl<;>rfl
theorem Z5s {u w h pl:Int} (hp:Dk pl):OX [I u,I w,I h,I pl]=some (ptR (spP pl u w h)):=by
 unfold OX;rw[Zp5];rcases hp with rfl|rfl|rfl<;>rfl
theorem Mm {pl u w h:Int} (hp:Dk pl):plU pl (spP pl u w h)=u/\plW pl (spP pl u w h)=w/\plH pl (spP pl u w h)=h:=by
 rcases hp with rfl|rfl|rfl<;>exact⟨rfl,rfl,rfl⟩
structure ArcMade (size : Int) (it : Itm) : Prop where
 kind:it.kind=3
 aF:Dk it.aF
 dir:it.dir=1\/it.dir= -1
 ends:∃r k t g h:Int,8<=r/\r<8+size/\0<=k/\k<=3/\0<=t/\t<=3/\0<=g/\g<=4/\(h=0\/h=7\/h= -12)/\(t=0->g=0)/\it.full=decide (t=0)/\
  it.ce=spP it.aF (plU it.aF it.fr-AS r k) (plW it.aF it.fr-AU r k) (plH it.aF it.fr)/\
  it.to=spP it.aF (plU it.aF it.fr-AS r k+AS (r+g) (k+t)) (plW it.aF it.fr-AU r k+AU (r+g) (k+t)) (plH it.aF it.fr+h)
theorem Nm {r k:Int} (hr:0<=r):(-r<=AS r k/\AS r k<=r)/\(-r<=AU r k/\AU r k<=r):=by
 unfold AS AU;constructor<;>constructor<;>split<;>(try split)<;>omega
theorem Zx6 {r:Int} (hr:1<=r) (k:Int):((AS r k).tdiv r=AS 1 k)/\((AU r k).tdiv r=AU 1 k):=by
 have h1:r.tdiv r=1:=Int.tdiv_self (by omega);have h2:(-r).tdiv r= -1:=by rw[Int.neg_tdiv,h1]
 unfold AS AU;constructor<;>split<;>(try split)<;>simp[h1,h2]
theorem Z1d (r k e f:Int):∃g,(g=e\/g=f)/\AS r k+AS 1 k*e=AS (r+g) k/\AU r k+AU 1 k*f=AU (r+g) k:=by
 unfold AS AU;by_cases h:k%4=0\/k%4=2
 ·refine⟨e, .inl rfl,?_,?_⟩
  ·rcases h with h|h<;>simp[h]<;>omega
  ·rcases h with h|h<;>simp[h]
 ·have hc:k%4=1\/k%4=3:=by omega
  refine⟨f, .inr rfl,?_,?_⟩
  ·rcases hc with h|h<;>simp[h]
  ·rcases hc with h|h<;>simp[h]<;>omega
theorem HW {pl:Int} {p:Pt} {b:Nat} (h:bd b p):(plU pl p).natAbs<=b/\(plW pl p).natAbs<=b/\(plH pl p).natAbs<=b:=by
 obtain⟨h1,h2,h3⟩:=h;unfold plU plW plH;refine⟨?_,?_,?_⟩<;>split<;>(try split)<;>assumption
def Hj (l:Rw) (M:Fn):Prop:=∀(k:Nat) {n:Int},0<n/\n<=4611686018427387904->
  ∃(v:Int) (k':Nat),M [I n, .view Aa l,I k]=some [I v, .view Aa l,I k']/\0<=v/\v<n/\k<=k'/\(k<l.length->k'=k+1)/\(l.length<=k->k'=k)
abbrev FK (it:Itm):Prop:=it.block=0/\it.side=0/\it.radius=0/\it.speed=0/\it.on=false
theorem Zq6 {v:Int} (h:0<=v/\v<3):Ag (nth .dead (nth [] [[I 17],[I 18],[I 19]] v.toNat) 0)=17+v:=by
 have hc:v=0\/v=1\/v=2:=by omega
 rcases hc with rfl|rfl|rfl<;>rfl
theorem Q8o {v:Int} (h:0<=v/\v<4):∃x,Ag (nth .dead (nth [] [[I 0],[I 0],[I 7],[I (-12)]] v.toNat) 0)=x/\(x=0\/x=7\/x= -12):=by
 have hc:v=0\/v=1\/v=2\/v=3:=by omega
 rcases hc with rfl|rfl|rfl|rfl<;>exact⟨_,rfl,by decide⟩
theorem Z2m {MS MT MP MN:Fn} {l:Rw} (hN:Hj l MN)
  (hP:∀{p:Pt} {pl:Int},Dk pl->MP [I p.x,I p.y,I p.z,I pl]=some [I (plU pl p),I (plW pl p),I (plH pl p)])
  (hS:∀{u w h pl:Int},Dk pl->MS [I u,I w,I h,I pl]=some (ptR (spP pl u w h)))
  (hT:∀{r k:Int},(0<=r/\r<=1000000)->(0<=k/\k<=1000)->MT [I r,I k]=some [I (AS r k),I (AU r k)])
  {p:Pt} (hp:bd 100000000 p) {size:Int} (hs:0<size/\size<=100000) (k:Nat):
  ∃(it:Itm) (k':Nat),Qde MS MT MP MN [I p.x,I p.y,I p.z,I size, .view Aa l,I k]=some (Af it++[.view Aa l,I k'])/\k<=k'/\it.fr=p/\ArcMade size it/\
   it.feed=0/\it.perRev=false/\it.blend=0/\it.n=0/\FK it:=by
 obtain⟨v1,k1,e1,a1,b1,c1,-,-⟩:=hN k (n:=3) (by omega);obtain⟨v2,k2,e2,a2,b2,c2,-,-⟩:=hN k1 (n:=2) (by omega);obtain⟨v3,k3,e3,a3,b3,c3,-,-⟩:=hN k2 (n:=size) (by omega);obtain⟨v4,k4,e4,a4,b4,c4,-,-⟩:=hN k3 (n:=4) (by omega);obtain⟨v5,k5,e5,a5,b5,c5,-,-⟩:=hN k4 (n:=4) (by omega);rw[Z0q];simp only[go_sem,e1,e2,e3,e4,e5];rw[aa (by simp;omega)];have hpl:Dk (17+v1):=by unfold Dk;omega
 have w1:wrap .i64 (8+v3)=8+v3:=Ae (by omega);have w2:wrap .i64 (v4+v5)=v4+v5:=Ae (by omega);simp only[Zq6 ⟨a1,b1⟩,hP hpl,go_sem,w1,w2,hT (r:=8+v3) (k:=v4) (by omega) (by omega),hT (r:=8+v3) (k:=v4+v5) (by omega) (by omega),hS hpl];obtain⟨q1,q2,q3⟩:=HW (pl:=17+v1) hp;obtain⟨⟨r1,r2⟩,r3,r4⟩:=Nm (r:=8+v3) (k:=v4) (by omega);obtain⟨⟨r5,r6⟩,r7,r8⟩:=Nm (r:=8+v3) (k:=v4+v5) (by omega);obtain⟨d1,d2⟩:=Zx6 (r:=8+v3) (by omega) (v4+v5);obtain⟨⟨r9,r10⟩,r11,r12⟩:=Nm (r:=1) (k:=v4+v5) (by omega);have w3:wrap .i64 (plU (17+v1) p-AS (8+v3) v4)=plU (17+v1) p-AS (8+v3) v4:=Ae (by omega);have w4:wrap .i64 (plW (17+v1) p-AU (8+v3) v4)=plW (17+v1) p-AU (8+v3) v4:=Ae (by omega);have w5:wrap .i64 (1-wrap .i64 (v2*2))=1-v2*2:=by rw[Ae (x:=v2*2) (by omega),Ae (by omega)]
 have w6:wrap .i64 (plU (17+v1) p-AS (8+v3) v4+AS (8+v3) (v4+v5))=plU (17+v1) p-AS (8+v3) v4+AS (8+v3) (v4+v5):=Ae (by omega);have w7:wrap .i64 (plW (17+v1) p-AU (8+v3) v4+AU (8+v3) (v4+v5))=plW (17+v1) p-AU (8+v3) v4+AU (8+v3) (v4+v5):=Ae (by omega);rw[w3,w4,w5,w6,w7];have hdir:1-v2*2=1\/1-v2*2= -1:=by omega
 have fin:∀(g:Int) (u w:Int) (k8:Nat),k5<=k8->0<=g->g<=4->(v5=0->g=0)->u=AS (8+v3+g) (v4+v5)->w=AU (8+v3+g) (v4+v5)->∀v9:Int,0<=v9/\v9<4->
   ∃it:Itm,[I 3,I 0,I p.x,I p.y,I p.z,I (spP (17+v1) (plU (17+v1) p-AS (8+v3) v4+u) (plW (17+v1) p-AU (8+v3) v4+w) (plH (17+v1) p+Ag (nth .dead (nth [] [[I 0],[I 0],[I 7],[I (-12)]] v9.toNat) 0))).x,
    I (spP (17+v1) (plU (17+v1) p-AS (8+v3) v4+u) (plW (17+v1) p-AU (8+v3) v4+w) (plH (17+v1) p+Ag (nth .dead (nth [] [[I 0],[I 0],[I 7],[I (-12)]] v9.toNat) 0))).y,
    I (spP (17+v1) (plU (17+v1) p-AS (8+v3) v4+u) (plW (17+v1) p-AU (8+v3) v4+w) (plH (17+v1) p+Ag (nth .dead (nth [] [[I 0],[I 0],[I 7],[I (-12)]] v9.toNat) 0))).z,
    I (17+v1),I (spP (17+v1) (plU (17+v1) p-AS (8+v3) v4) (plW (17+v1) p-AU (8+v3) v4) (plH (17+v1) p)).x,I (spP (17+v1) (plU (17+v1) p-AS (8+v3) v4) (plW (17+v1) p-AU (8+v3) v4) (plH (17+v1) p)).y,I (spP (17+v1) (plU (17+v1) p-AS (8+v3) v4) (plW (17+v1) p-AU (8+v3) v4) (plH (17+v1) p)).z,
    I (1-v2*2),B (decide (v5=0)),I 0,B false,I 0,I 0,I 0,I 0,I 0,B false, .view Aa l,I k8]=Af it++[.view Aa l,I k8]/\it.fr=p/\ArcMade size it/\it.feed=0/\it.perRev=false/\it.blend=0/\it.n=0/\FK it:=by
  intro g u w k8 hk8 hg0 hg4 hg5 hu hw v9 hv9;obtain⟨x,hx,hx3⟩:=Q8o hv9;rw[hx];refine⟨⟨3,0,p,_,17+v1,_,1-v2*2,decide (v5=0),0,false,0,0,0,0,0,false⟩,rfl,rfl,⟨rfl,hpl,hdir,8+v3,v4,v5,g,x,?_⟩,rfl,rfl,rfl,rfl,rfl,rfl,rfl,rfl,rfl⟩;subst hu hw;exact⟨by omega,by omega,by omega,by omega,by omega,by omega,hg0,hg4,hx3,hg5,rfl,rfl,rfl⟩
 have hgh:∀v9:Int,0<=v9/\v9<4->wrap .i64 (plH (17+v1) p+Ag (nth .dead (nth [] [[I 0],[I 0],[I 7],[I (-12)]] v9.toNat) 0))=plH (17+v1) p+Ag (nth .dead (nth [] [[I 0],[I 0],[I 7],[I (-12)]] v9.toNat) 0):=by
  intro v9 hv9;obtain⟨x,hx,hx3⟩:=Q8o hv9;rw[hx];exact Ae (by omega)
 have hfull:(v5==0)=decide (v5=0):=rfl;by_cases hv5:v5>0
 ·rw[aa hv5];obtain⟨v6,k6,e6,a6,b6,c6,-,-⟩:=hN k5 (n:=3) (by omega);simp only[go_sem,e6];by_cases hv6:v6=0
  ·rw[aa hv6,ab (by omega)];obtain⟨v7,k7,e7,a7,b7,c7,-,-⟩:=hN k6 (n:=5) (by omega);obtain⟨v8,k8,e8,a8,b8,c8,-,-⟩:=hN k7 (n:=5) (by omega);obtain⟨v9,k9,e9,a9,b9,c9,-,-⟩:=hN k8 (n:=4) (by omega);simp only[go_sem,e7,e8,e9];rw[ab (by omega),aa (by simp;omega),hgh v9 ⟨a9,b9⟩,d1,d2];obtain⟨g,hg,hu,hw⟩:=Z1d (8+v3) (v4+v5) v7 v8;have mu: -4<=AS 1 (v4+v5)*v7/\AS 1 (v4+v5)*v7<=4:=by
    have hc:AS 1 (v4+v5)= -1\/AS 1 (v4+v5)=0\/AS 1 (v4+v5)=1:=by omega
    rcases hc with h|h|h<;>rw[h]<;>omega
   have mw: -4<=AU 1 (v4+v5)*v8/\AU 1 (v4+v5)*v8<=4:=by
    have hc:AU 1 (v4+v5)= -1\/AU 1 (v4+v5)=0\/AU 1 (v4+v5)=1:=by omega
    rcases hc with h|h|h<;>rw[h]<;>omega
   rw[Ae (x:=AS 1 (v4+v5)) (by omega),Ae (x:=AU 1 (v4+v5)) (by omega),Ae (x:=AS 1 (v4+v5)*v7) (by omega),Ae (x:=AU 1 (v4+v5)*v8) (by omega),
    Ae (x:=AS (8+v3) (v4+v5)+_) (by omega),Ae (x:=AU (8+v3) (v4+v5)+_) (by omega),hu,hw]
   obtain⟨⟨s1,s2⟩,s3,s4⟩:=Nm (r:=8+v3+g) (k:=v4+v5) (by omega);rw[Ae (x:=_+AS (8+v3+g) (v4+v5)) (by omega),Ae (x:=_+AU (8+v3+g) (v4+v5)) (by omega)];obtain⟨it,h1,h2⟩:=fin g _ _ k9 (by omega) (by omega) (by omega) (by omega) rfl rfl v9 ⟨a9,b9⟩;refine⟨it,k9,?_,by omega,h2⟩;exact congrArg some h1
  ·rw[ab hv6];obtain⟨v9,k9,e9,a9,b9,c9,-,-⟩:=hN k6 (n:=4) (by omega);simp only[go_sem,e9];rw[aa (by simp;omega),hgh v9 ⟨a9,b9⟩];obtain⟨it,h1,h2⟩:=fin 0 _ _ k9 (by omega) (by omega) (by omega) (by omega) (by rw[Int.add_zero]) (by rw[Int.add_zero]) v9 ⟨a9,b9⟩;refine⟨it,k9,?_,by omega,h2⟩;exact congrArg some h1
 ·rw[ab hv5];obtain⟨v9,k9,e9,a9,b9,c9,-,-⟩:=hN k5 (n:=4) (by omega);simp only[go_sem,e9];rw[aa (by simp;omega),hgh v9 ⟨a9,b9⟩];obtain⟨it,h1,h2⟩:=fin 0 _ _ k9 (by omega) (by omega) (by omega) (by omega) (by rw[Int.add_zero]) (by rw[Int.add_zero]) v9 ⟨a9,b9⟩;refine⟨it,k9,?_,by omega,h2⟩;exact congrArg some h1
theorem HV {l:Rw} (hl:Src l):Hj l BJ:=λk _ hn=>Zey hl k hn
theorem Zsb {l:Rw} (hl:Src l) {p:Pt} (hp:bd 100000000 p) {size:Int} (hs:0<size/\size<=100000) (k:Nat):
  ∃(it:Itm) (k':Nat),Qz [I p.x,I p.y,I p.z,I size, .view Aa l,I k]=some (Af it++[.view Aa l,I k'])/\k<=k'/\it.fr=p/\ArcMade size it/\
   it.feed=0/\it.perRev=false/\it.blend=0/\it.n=0/\FK it:=
 Z2m (HV hl) Zeg Z5s Zwb hp hs k
structure Made (it : Itm) : Prop where
 kind:1<=it.kind/\it.kind<=6
 line:it.kind≠3->(it.to.x-it.fr.x).natAbs<=16/\(it.to.y-it.fr.y).natAbs<=16/\(it.to.z-it.fr.z).natAbs<=16
 arc:it.kind=3->ArcMade 8 it
 feed:it.kind≠1->1<=it.feed/\it.feed<=60000000
 blend:0<=it.blend/\it.blend<=9
 sync:it.kind=5\/it.kind=6->it.blend=0/\it.feed<=60
 free:it.kind<=4->it.perRev=false
 full:it.kind≠3->it.full=false
theorem Q7a {v:Int} (h:0<=v/\v<5):∃x,Ag (nth .dead (nth [] [[I 300000],[I 1],[I 60000],[I 2000000],[I 60000000]] v.toNat) 0)=x/\1<=x/\x<=60000000:=by
 have hc:v=0\/v=1\/v=2\/v=3\/v=4:=by omega
 rcases hc with rfl|rfl|rfl|rfl|rfl<;>exact⟨_,rfl,by decide⟩
theorem Qr0 {v:Int} (h:0<=v/\v<5):∃x,Ag (nth .dead (nth [] [[I 0],[I 1],[I 2],[I 4],[I 9]] v.toNat) 0)=x/\0<=x/\x<=9:=by
 have hc:v=0\/v=1\/v=2\/v=3\/v=4:=by omega
 rcases hc with rfl|rfl|rfl|rfl|rfl<;>exact⟨_,rfl,by decide⟩
theorem Zyz {size:Int} {it:Itm} (h:ArcMade size it) (f b:Int) (pr:Bool) (n:Int):ArcMade size {it with feed:=f,blend:=b,perRev:=pr,n:=n}:=⟨h.kind,h.aF,h.dir,h.ends⟩
theorem Zd9 {MA MN:Fn} {l:Rw} (hN:Hj l MN)
  (hA:∀{p:Pt},bd 100000000 p->∀k:Nat,∃(it:Itm) (k':Nat),MA [I p.x,I p.y,I p.z,I 8, .view Aa l,I k]=some (Af it++[.view Aa l,I k'])/\k<=k'/\it.fr=p/\ArcMade 8 it/\it.feed=0/\it.perRev=false/\it.blend=0/\it.n=0/\FK it)
  {p:Pt} (hp:bd 100000000 p) {kind:Int} (hk:1<=kind/\kind<=6) (k:Nat):
  ∃(it:Itm) (k':Nat),Qk1 MN MA [I p.x,I p.y,I p.z,I kind, .view Aa l,I k]=some (Af it++[.view Aa l,I k'])/\k<=k'/\it.fr=p/\it.kind=kind/\Made it/\FK it:=by
 rw[Z06];obtain⟨hp1,hp2,hp3⟩:=hp;by_cases h3:kind=3
 ·subst h3;obtain⟨it,k1,e1,c1,g1,g2,g3,g4,g5,g6,g7,g8,g9,g10,g11⟩:=hA ⟨hp1,hp2,hp3⟩ k;obtain⟨v2,k2,e2,a2,b2,c2,-,-⟩:=hN k1 (n:=5) (by omega);obtain⟨v3,k3,e3,a3,b3,c3,-,-⟩:=hN k2 (n:=5) (by omega);simp only[go_sem,e1,Af,ax,az,e2,e3];rw[ab (by omega),aa (by simp;omega),aa (by simp;omega),ab (by omega),ab (by omega),ab (by omega)];obtain⟨f,hf,hf1,hf2⟩:=Q7a ⟨a2,b2⟩;obtain⟨b,hb,hb1,hb2⟩:=Qr0 ⟨a3,b3⟩;rw[hf,hb];have hka:=g2.kind;refine⟨{it with feed:=f,blend:=b,perRev:=it.perRev,n:=it.n},k3,rfl,by omega,g1,hka,⟨?_,?_,?_,?_,?_,?_,?_,?_⟩,g7,g8,g9,g10,g11⟩
  ·show 1<=it.kind/\it.kind<=6;omega
  ·exact λh=>absurd hka h
  ·exact λ_=>Zyz g2 f b _ _
  ·exact λ_=>⟨hf1,hf2⟩
  ·exact⟨hb1,hb2⟩
  ·intro h;change it.kind=5\/it.kind=6 at h;omega
  ·exact λ_=>g4
  ·exact λh=>absurd hka h
 ·simp only[go_sem];rw[ab h3];obtain⟨v1,k1,e1,a1,b1,c1,-,-⟩:=hN k (n:=25) (by omega);obtain⟨v2,k2,e2,a2,b2,c2,-,-⟩:=hN k1 (n:=25) (by omega);obtain⟨v3,k3,e3,a3,b3,c3,-,-⟩:=hN k2 (n:=3) (by omega);obtain⟨v4,k4,e4,a4,b4,c4,-,-⟩:=hN k3 (n:=9) (by omega);obtain⟨v5,k5,e5,a5,b5,c5,-,-⟩:=hN k4 (n:=2) (by omega);simp only[go_sem,e1,e2,e3,e4,e5];have hm:0<=v3*v4/\v3*v4<=16:=by
   have hc:v3=0\/v3=1\/v3=2:=by omega
   rcases hc with rfl|rfl|rfl<;>omega
  generalize v3*v4=m at hm;have w1:wrap .i64 (wrap .i64 (p.x+v1)-12)=p.x+v1-12:=by rw[Ae (x:=p.x+v1) (by omega),Ae (by omega)]
  have w2:wrap .i64 (wrap .i64 (p.y+v2)-12)=p.y+v2-12:=by rw[Ae (x:=p.y+v2) (by omega),Ae (by omega)]
  have w3:wrap .i64 (wrap .i64 (p.z+wrap .i64 m)-wrap .i64 (8*v5))=p.z+m-8*v5:=by
   rw[Ae (x:=m) (by omega),Ae (x:=p.z+m) (by omega),Ae (x:=8*v5) (by omega),Ae (by omega)]
  rw[w1,w2,w3]
  have mk:∀(f b n:Int) (pr:Bool),(kind≠1->1<=f/\f<=60000000)->(0<=b/\b<=9)->(kind=5\/kind=6->b=0/\f<=60)->(kind<=4->pr=false)->
    ∃it:Itm,Af it=[I kind,I 0,I p.x,I p.y,I p.z,I (p.x+v1-12),I (p.y+v2-12),I (p.z+m-8*v5),I 0,I 0,I 0,I 0,I 0,B false,I f,B pr,I 0,I 0,I b,I n,I 0,B false]/\it.fr=p/\it.kind=kind/\Made it/\FK it:=by
   intro f b n pr h1 h2 h4 h5;refine⟨⟨kind,0,p,⟨p.x+v1-12,p.y+v2-12,p.z+m-8*v5⟩,0,⟨0,0,0⟩,0,false,f,pr,0,0,b,n,0,false⟩,rfl,rfl,rfl,⟨hk,λ_=> ?_,λh=>absurd h h3,h1,h2,h4,h5,λ_=>rfl⟩,rfl,rfl,rfl,rfl,rfl⟩;show(p.x+v1-12-p.x).natAbs<=16/\(p.y+v2-12-p.y).natAbs<=16/\(p.z+m-8*v5-p.z).natAbs<=16;omega
  have en:∀(f b n:Int) (pr:Bool) (k':Nat),k<=k'->(kind≠1->1<=f/\f<=60000000)->(0<=b/\b<=9)->(kind=5\/kind=6->b=0/\f<=60)->(kind<=4->pr=false)->
    ∃(it:Itm) (k'':Nat),some [I kind,I 0,I p.x,I p.y,I p.z,I (p.x+v1-12),I (p.y+v2-12),I (p.z+m-8*v5),I 0,I 0,I 0,I 0,I 0,B false,I f,B pr,I 0,I 0,I b,I n,I 0,B false, .view Aa l,I k']=some (Af it++[.view Aa l,I k''])/\k<=k''/\it.fr=p/\it.kind=kind/\Made it/\FK it:=by
   intro f b n pr k' h0 h1 h2 h4 h5;obtain⟨it,i1,i2⟩:=mk f b n pr h1 h2 h4 h5;refine⟨it,k',?_,h0,i2⟩;rw[i1];rfl
  by_cases h1:kind=1
  ·rw[aa h1];exact en _ _ _ _ _ (by omega) (λh=>absurd h1 h) (by omega) (by omega) (λ_=>rfl)
  ·rw[ab h1];obtain⟨v6,k6,e6,a6,b6,c6,-,-⟩:=hN k5 (n:=5) (by omega);obtain⟨v7,k7,e7,a7,b7,c7,-,-⟩:=hN k6 (n:=5) (by omega);obtain⟨v8,k8,e8,a8,b8,c8,-,-⟩:=hN k7 (n:=60) (by omega);obtain⟨v9,k9,e9,a9,b9,c9,-,-⟩:=hN k8 (n:=2) (by omega);simp only[go_sem,e6,e7,e8,e9];rw[aa (by simp;omega),aa (by simp;omega)];obtain⟨f,hf,hf1,hf2⟩:=Q7a ⟨a6,b6⟩;obtain⟨b,hb,hb1,hb2⟩:=Qr0 ⟨a7,b7⟩;rw[hf,hb,Ae (x:=1+v8) (by omega),Ae (x:=3+v9) (by omega)];by_cases h5:kind=5
   ·rw[aa h5,ab (by omega)];exact en _ _ _ _ _ (by omega) (by omega) (by omega) (by omega) (by omega)
   ·rw[ab h5];by_cases h6:kind=6
    ·rw[aa h6,aa h6];exact en _ _ _ _ _ (by omega) (by omega) (by omega) (by omega) (by omega)
    ·rw[ab h6];by_cases h4:kind=4
     ·rw[aa h4];exact en _ _ _ _ _ (by omega) (by omega) (by omega) (by omega) (λ_=>rfl)
     ·rw[ab h4];exact en _ _ _ _ _ (by omega) (by omega) (by omega) (by omega) (λ_=>rfl)
theorem Z43 {l:Rw} (hl:Src l) {p:Pt} (hp:bd 100000000 p) {kind:Int} (hk:1<=kind/\kind<=6) (k:Nat):
  ∃(it:Itm) (k':Nat),Lo [I p.x,I p.y,I p.z,I kind, .view Aa l,I k]=some (Af it++[.view Aa l,I k'])/\k<=k'/\it.fr=p/\it.kind=kind/\Made it/\FK it:=
 Zd9 (HV hl) (λhp k=>Zsb hl hp (by omega) k) hp hk k
def Q5d:Pt->List Itm->Prop
 |_,[]=>True
 |p,it::l=>it.fr=p/\Q5d it.to l
structure Motions (B : Nat) (p : Pt) (l : List Itm) : Prop where
 Dv:Q5d p l
 made:∀it∈l,Made it/\FK it/\it.kind<=3/\bd B it.fr/\bd B it.to
theorem Qeu {size:Int} {b:Nat} {it:Itm} (h:ArcMade size it) (hs:size<=1000) (hf:bd b it.fr):bd (b+2*(12+size.toNat)) it.to/\bd (b+8+size.toNat) it.ce:=by
 obtain⟨r,k,t,g,x,h1,h2,h3,h4,h5,h6,h7,h8,h9,h10,h11,h12,h13⟩:=h.ends;obtain⟨q1,q2,q3⟩:=HW (pl:=it.aF) hf;obtain⟨⟨r1,r2⟩,r3,r4⟩:=Nm (r:=r) (k:=k) (by omega);obtain⟨⟨r5,r6⟩,r7,r8⟩:=Nm (r:=r+g) (k:=k+t) (by omega);rw[h12,h13];unfold bd spP;constructor<;>split<;>(try split)<;>refine⟨?_,?_,?_⟩<;>simp only<;>omega
theorem Q4l {b:Nat} {it:Itm} (h:Made it) (hf:bd b it.fr):bd (b+40) it.to:=by
 by_cases h3:it.kind=3
 ·exact AZ (Qeu (h.arc h3) (by omega) hf).1 (by omega)
 ·obtain⟨h1,h2,h4⟩:=h.line h3;obtain⟨g1,g2,g3⟩:=hf;exact⟨by omega,by omega,by omega⟩
instance (pl:Int):Decidable (Dk pl):=by unfold Dk;infer_instance
instance (A:Nat) (p:Pt):Decidable (bd A p):=by unfold bd;infer_instance
def dU (it:Itm) (p:Pt):Int:=plU it.aF p-plU it.aF it.ce
def dW (it:Itm) (p:Pt):Int:=plW it.aF p-plW it.aF it.ce
def sq2 (u w:Int):Int:=u*u+w*w
def crs (u w x y:Int):Int:=u*y-w*x
def dt2 (u w x y:Int):Int:=u*x+w*y
def qA (it:Itm):Int:=sq2 (dU it it.fr) (dW it it.fr)
def qB (it:Itm):Int:=sq2 (dU it it.to) (dW it it.to)
def cAB (it:Itm):Int:=crs (dU it it.fr) (dW it it.fr) (dU it it.to) (dW it it.to)
def dAB (it:Itm):Int:=dt2 (dU it it.fr) (dW it it.fr) (dU it it.to) (dW it it.to)
def Iy (X Y:Int):Prop:=X+Y-16<=0\/(X+Y-16)*(X+Y-16)<=4*X*Y
def U4 (it:Itm):Prop:=64<=qA it/\64<=qB it/\Iy (qA it) (qB it)/\(it.full=true->dU it it.fr=dU it it.to/\dW it it.fr=dW it it.to)/\(it.full=false->cAB it≠0\/dAB it<0)
def Zk2 (it:Itm):Prop:=Dk it.aF/\(it.dir=1\/it.dir= -1)/\bd 1048576 it.ce/\U4 it
def Dz (it:Itm):Prop:=(1<=it.kind/\it.kind<=6)/\bd 1048576 it.fr/\bd 1048576 it.to/\(it.kind=3->Zk2 it)
theorem Ql2 {it:Itm} {p:Pt} {b c:Nat} (hc:bd c it.ce) (h:bd b p):(dU it p).natAbs<=b+c/\(dW it p).natAbs<=b+c:=by
 obtain⟨h1,h2,h3⟩:=HW (pl:=it.aF) h;obtain⟨g1,g2,g3⟩:=HW (pl:=it.aF) hc;unfold dU dW;omega
theorem Qu6 (x:Int) {b:Nat} (h:x.natAbs<=b):0<=x*x/\x*x<=((b*b:Nat):Int):=by
 have h1:=Ht h h;have h2:0<=x*x:=by rw[<-Int.natAbs_mul_self];omega
 omega
theorem Q6z {u w:Int} {b:Nat} (hu:u.natAbs<=b) (hw:w.natAbs<=b):0<=sq2 u w/\sq2 u w<=((2*(b*b):Nat):Int):=by
 have h1:=Qu6 u hu;have h2:=Qu6 w hw;unfold sq2;omega
theorem Q36 {u w x y:Int} {b c:Nat} (hu:u.natAbs<=b) (hw:w.natAbs<=b) (hx:x.natAbs<=c) (hy:y.natAbs<=c):(dt2 u w x y).natAbs<=2*(b*c)/\(crs u w x y).natAbs<=2*(b*c):=by
 have h1:=Ht hu hx;have h2:=Ht hw hy;have h3:=Ht hu hy;have h4:=Ht hw hx;unfold dt2 crs;omega
theorem Zwr {X Y:Int} (hX:64<=X) (hY:64<=Y):Iy X Y↔(max X Y-min X Y-16<=0\/(max X Y-min X Y-16)*(max X Y-min X Y-16)<=64*min X Y):=by
 unfold Iy;have key:∀M m:Int,64<=M->64<=m->m<=M->((M+m-16<=0\/(M+m-16)*(M+m-16)<=4*M*m)↔(M-m-16<=0\/(M-m-16)*(M-m-16)<=64*m)):=by
  intro M m h1 h2 h3;have e:(M-m-16)*(M-m-16)-64*m=(M+m-16)*(M+m-16)-4*M*m:=by grind
  by_cases hk:M-m-16<=0
  ·refine iff_of_true (.inr ?_) (.inl hk);have h5:(16-(M-m))*(M-m+16)>=0:=Int.mul_nonneg (by omega) (by omega);have h6:(M+m-16)*(M+m-16)-4*M*m=512-(16-(M-m))*(M-m+16)-32*(M+m):=by grind
   omega
  ·constructor
   ·rintro(h|h)
    ·omega
    ·exact .inr (by omega)
   ·rintro(h|h)
    ·omega
    ·exact .inr (by omega)
 by_cases h:X<=Y
 ·rw[Int.max_eq_right h,Int.min_eq_left h,<-key Y X hY hX h];have e1:X+Y-16=Y+X-16:=by omega
  have e2:4*X*Y=4*Y*X:=by grind
  rw[e1,e2]
 ·rw[Int.max_eq_left (by omega),Int.min_eq_right (by omega),<-key X Y hX hY (by omega)]
theorem Zmx (p:Pt):Nb [I p.x,I p.y,I p.z]=some [B (decide (bd 1048576 p))]:=by
 unfold Nb;rw[Zgc];simp only[go_sem];by_cases h:bd 1048576 p
 ·obtain⟨h1,h2,h3⟩:=h;rw[ab (by omega),ab (by omega),ab (by omega),ab (by omega),ab (by omega),ab (by omega)];congr 3;symm;exact an ⟨h1,h2,h3⟩
 ·have e:decide (bd 1048576 p)=false:=ap h;rw[e];unfold bd at h;by_cases c1:p.x< -1048576
  ·rw[aa c1]
  rw[ab c1];by_cases c2:p.x>1048576
  ·rw[aa c2]
  rw[ab c2];by_cases c3:p.y< -1048576
  ·rw[aa c3]
  rw[ab c3];by_cases c4:p.y>1048576
  ·rw[aa c4]
  rw[ab c4];by_cases c5:p.z< -1048576
  ·rw[aa c5]
  rw[ab c5,aa (by omega)]
def axI (pl:Int):Int×Int×Int:=if pl=17 then(0,1,2)else if pl=18 then(2,0,1)else if pl=19 then(1,2,0)else(0,0,0)
theorem U8 (pl:Int):F1 [I pl]=some [I (axI pl).1,I (axI pl).2.1,I (axI pl).2.2,B (decide (Dk pl))]:=by
 unfold F1;rw[Zld];simp only[go_sem];unfold axI Dk;by_cases h1:pl=17
 ·rw[aa h1,aa h1];simp[h1]
 rw[ab h1,ab h1];by_cases h2:pl=18
 ·rw[aa h2,aa h2];simp[h2]
 rw[ab h2,ab h2];by_cases h3:pl=19
 ·rw[aa h3,aa h3];simp[h3]
 rw[ab h3,ab h3];simp[h1,h2,h3]
theorem Zv5 {M:Fn} (hM:∀pl:Int,M [I pl]=some [I (axI pl).1,I (axI pl).2.1,I (axI pl).2.2,B (decide (Dk pl))]) {p:Pt} {pl:Int} (hp:Dk pl):
  Qcp M [I p.x,I p.y,I p.z,I pl]=some [I (plU pl p),I (plW pl p),I (plH pl p)]:=by
 rw[Zyu];simp only[go_sem,hM];rw[ab (by simpa using hp)];rcases hp with rfl|rfl|rfl<;>rfl
theorem Q38 {p:Pt} {pl:Int} (hp:Dk pl):Iw [I p.x,I p.y,I p.z,I pl]=some [I (plU pl p),I (plW pl p),I (plH pl p)]:=Zv5 U8 hp
def Ay (p:Pt):Pt:=⟨p.x*16,p.y*16,p.z*16⟩
theorem FC {b:Nat} {p:Pt} (h:bd b p):bd (b*16) (Ay p):=by
 obtain⟨h1,h2,h3⟩:=h;unfold Ay;exact⟨by simp only;omega,by simp only;omega,by simp only;omega⟩
theorem Uf (pl:Int) (p:Pt):plU pl (Ay p)=plU pl p*16/\plW pl (Ay p)=plW pl p*16/\plH pl (Ay p)=plH pl p*16:=by
 unfold plU plW plH Ay;refine⟨?_,?_,?_⟩<;>split<;>(try split)<;>rfl
theorem Qv5 {p:Pt} (h:bd 100000000 p):HF [I p.x,I p.y,I p.z]=some (ptR (Ay p)):=by
 unfold HF;rw[Zoi];obtain⟨h1,h2,h3⟩:=h;rw[Ae (by omega),Ae (by omega),Ae (by omega)];rfl
theorem Qh2 {u w r h x y s g:Int} (hu:u.natAbs<=1000000000) (hw:w.natAbs<=1000000000) (hx:x.natAbs<=1000000000) (hy:y.natAbs<=1000000000):Hi [I u,I w,I r,I h,I x,I y,I s,I g]=some [I (dt2 u w x y)]:=by
 unfold Hi;rw[Zt2];have h1:=Ht hu hx;have h2:=Ht hw hy;unfold dt2;rw[Ae (x:=u*x) (by omega),Ae (x:=w*y) (by omega),Ae (by omega)]
theorem YH {u w r h x y s g:Int} (hu:u.natAbs<=1000000000) (hw:w.natAbs<=1000000000) (hx:x.natAbs<=1000000000) (hy:y.natAbs<=1000000000):G1 [I u,I w,I r,I h,I x,I y,I s,I g]=some [I (crs u w x y)]:=by
 unfold G1;rw[Znz];have h1:=Ht hu hy;have h2:=Ht hw hx;unfold crs;rw[Ae (x:=u*y) (by omega),Ae (x:=w*x) (by omega),Ae (by omega)]
theorem Zjl {M:Fn} (hM:∀{a b c d:Int},i64 a->i64 b->i64 c->i64 d->M [I a,I b,I c,I d]=some [I (La (a*b) (c*d))]) {X Y:Int} (hX:64<=X/\X<=1000000000000000) (hY:64<=Y/\Y<=1000000000000000):
  ∃v,Xk M [I X,I Y]=some [B v]/\(v=true↔Iy X Y):=by
 rw[Zd3,Zwr hX.1 hY.1];have hmx:mx X Y=max X Y:=by unfold mx;rw[Int.max_def];split<;>split<;>omega
 have hmn:mn X Y=min X Y:=by unfold mn;rw[Int.min_def];split<;>split<;>omega
 have hx1:max X Y<=1000000000000000/\64<=max X Y:=by omega
 have hx2:min X Y<=1000000000000000/\64<=min X Y:=by omega
 rw[hmx,hmn];generalize max X Y=a at*;generalize min X Y=b at*;simp only[go_sem];rw[Ae (x:=a-b) (by omega),Ae (x:=a-b-16) (by omega)];by_cases c1:a-b-16<=0
 ·rw[aa c1];exact⟨_,rfl,iff_of_true rfl (.inl c1)⟩
 ·rw[ab c1,hM (by unfold i64;omega) (by unfold i64;omega) (by unfold i64;omega) (by unfold i64;omega)];refine⟨_,rfl,?_⟩;simp only[go_sem,co,Z26];exact⟨λh=> .inr h,λh=>h.resolve_left c1⟩
theorem Z5k {X Y:Int} (hX:64<=X/\X<=1000000000000000) (hY:64<=Y/\Y<=1000000000000000):∃v,Qi [I X,I Y]=some [B v]/\(v=true↔Iy X Y):=Zjl Z07 hX hY
theorem Zbw {MP MS:Fn} {it:Itm} (hP:∀p:Pt,MP [I p.x,I p.y,I p.z,I it.aF]=some [I (plU it.aF p),I (plW it.aF p),I (plH it.aF p)]) (hS:∀{p:Pt},bd 100000000 p->MS [I p.x,I p.y,I p.z]=some (ptR (Ay p)))
  (h1:bd 1048576 it.fr) (h2:bd 1048576 it.to) (h3:bd 1048576 it.ce):
  Qfv MP MS (Am (Qmt MP MS)) (Af it)=some [I (dU it it.fr*16),I (dW it it.fr*16),I 0,I (plH it.aF it.fr*16),I (dU it it.to*16),I (dW it it.to*16),I 0,I (plH it.aF it.to*16)]:=by
 rw[Zdw];obtain⟨q1,q2,q3⟩:=HW (pl:=it.aF) h1;obtain⟨q4,q5,q6⟩:=HW (pl:=it.aF) h2;obtain⟨q7,q8,q9⟩:=HW (pl:=it.aF) h3;simp only[hS (AZ h3 (by omega)),hP,go_sem];have w0:wrap .i64 (0+1)=1:=Ae (by omega);have w1:wrap .i64 (1+1)=2:=Ae (by omega);have f1:=Uf it.aF it.fr;have f2:=Uf it.aF it.to;have f3:=Uf it.aF it.ce;have u1:wrap .i64 (plU it.aF (Ay it.fr)-plU it.aF (Ay it.ce))=dU it it.fr*16:=by rw[f1.1,f3.1];unfold dU;rw[Ae (by omega)];omega
 have u2:wrap .i64 (plW it.aF (Ay it.fr)-plW it.aF (Ay it.ce))=dW it it.fr*16:=by rw[f1.2.1,f3.2.1];unfold dW;rw[Ae (by omega)];omega
 have u3:wrap .i64 (plU it.aF (Ay it.to)-plU it.aF (Ay it.ce))=dU it it.to*16:=by rw[f2.1,f3.1];unfold dU;rw[Ae (by omega)];omega
 have u4:wrap .i64 (plW it.aF (Ay it.to)-plW it.aF (Ay it.ce))=dW it it.to*16:=by rw[f2.2.1,f3.2.1];unfold dW;rw[Ae (by omega)];omega
 have b1:bd 100000000 it.fr:=AZ h1 (by omega);have b2:bd 100000000 it.to:=AZ h2 (by omega);have e1:=hS b1;have e2:=hS b2;rw[BC (by rw[Qmn];simp only[go_sem,e1,e2,hP,u1,u2,w0];rfl),BC (by rw[Qmn];simp only[go_sem,e1,e2,hP,u3,u4,w1];rfl),
  Bf (o:=(1,_)) (by rw[Qmn];simp only[go_sem];rfl) (by simp)]
 simp only[go_sem,f1.2.2,f2.2.2]
theorem Q30 {it:Itm} (hp:Dk it.aF) (h1:bd 1048576 it.fr) (h2:bd 1048576 it.to) (h3:bd 1048576 it.ce):
  J5 (Af it)=some [I (dU it it.fr*16),I (dW it it.fr*16),I 0,I (plH it.aF it.fr*16),I (dU it it.to*16),I (dW it it.to*16),I 0,I (plH it.aF it.to*16)]:=
 Zbw (λ_=>Q38 hp) Qv5 h1 h2 h3
theorem Zuh {MN:Fn} {X Y C D au aw bu bw:Int} {full:Bool} (hX:0<=X/\X<=1000000000000000) (hY:0<=Y/\Y<=1000000000000000)
  (hN:∀{X Y:Int},(64<=X/\X<=1000000000000000)->(64<=Y/\Y<=1000000000000000)->∃v,MN [I X,I Y]=some [B v]/\(v=true↔Iy X Y)):
  ∃ v, (if X * 256 < wrap .i64 (128 * 128) then some [B false] else if Y * 256 < wrap .i64 (128 * 128) then some [B false] else
   (MN [I (wrap .i64 ((X*256).tdiv 256)),I (wrap .i64 ((Y*256).tdiv 256))]).bind λo=>
   if¬C7 (nth .dead o 0)=true then some [B false]else if full=true then if au*16=bu*16 then some [B (aw*16==bw*16)]else some [B false]else if C*256≠0 then some [B true]else some [B (decide (D*256<0))])=some [B v]/\
   (v=true↔64<=X/\64<=Y/\Iy X Y/\(full=true->au=bu/\aw=bw)/\(full=false->C≠0\/D<0)):=by
 rw[Ae (x:=128*128) (by omega),Int.mul_tdiv_cancel _ (by omega),Int.mul_tdiv_cancel _ (by omega),Ae (x:=X) (by omega),Ae (x:=Y) (by omega)];by_cases c1:X*256<128*128
 ·rw[aa c1];exact⟨_,rfl,iff_of_false (by simp) λh=>by omega⟩
 rw[ab c1];by_cases c2:Y*256<128*128
 ·rw[aa c2];exact⟨_,rfl,iff_of_false (by simp) λh=>by omega⟩
 rw[ab c2];obtain⟨v,h1,h2⟩:=hN (X:=X) (Y:=Y) (by omega) (by omega);simp only[h1,go_sem];by_cases c3:v=true
 case neg=>rw[aa c3];exact⟨_,rfl,iff_of_false (by simp) λh=>c3 (h2.2 h.2.2.1)⟩
 rw[ab (by simpa using c3)];have hn':=h2.1 c3;cases full with
 |true=>
  rw[aa rfl];by_cases c4:au*16=bu*16
  ·rw[aa c4];refine⟨_,rfl,?_⟩;simp only[beq_iff_eq];exact⟨λh=>⟨by omega,by omega,hn',λ_=>⟨by omega,by omega⟩,λh=>by simp at h⟩,λh=>by have:=(h.2.2.2.1 trivial).2;omega⟩
  ·rw[ab c4];exact⟨_,rfl,iff_of_false (by simp) λh=>c4 (by have:=(h.2.2.2.1 rfl).1;omega)⟩
 |false=>
  rw[ab (by simp)];by_cases c4:C*256≠0
  ·rw[aa c4];exact⟨_,rfl,iff_of_true rfl ⟨by omega,by omega,hn',λh=>by simp at h,λ_=> .inl (by omega)⟩⟩
  ·rw[ab c4];refine⟨_,rfl,?_⟩;simp only[co];exact⟨λh=>⟨by omega,by omega,hn',λh=>by simp at h,λ_=> .inr (by omega)⟩,λh=>by have:=(h.2.2.2.2 trivial);omega⟩
theorem Qux (a b c d:Int):dt2 (a*16) (b*16) (c*16) (d*16)=dt2 a b c d*256/\crs (a*16) (b*16) (c*16) (d*16)=crs a b c d*256:=by
 unfold dt2 crs;constructor<;>grind
theorem Z4s {MC MN MD ME MA MW:Fn} (hA:∀pl:Int,MA [I pl]=some [I (axI pl).1,I (axI pl).2.1,I (axI pl).2.2,B (decide (Dk pl))]) (hW:∀p:Pt,MW [I p.x,I p.y,I p.z]=some [B (decide (bd 1048576 p))])
  {it:Itm} (hE:Dk it.aF->bd 1048576 it.fr->bd 1048576 it.to->bd 1048576 it.ce->ME (Af it)=some [I (dU it it.fr*16),I (dW it it.fr*16),I 0,I (plH it.aF it.fr*16),I (dU it it.to*16),I (dW it it.to*16),I 0,I (plH it.aF it.to*16)])
  (hD:∀{u w r h x y s g:Int},u.natAbs<=1000000000->w.natAbs<=1000000000->x.natAbs<=1000000000->y.natAbs<=1000000000->MD [I u,I w,I r,I h,I x,I y,I s,I g]=some [I (dt2 u w x y)])
  (hX:∀{u w r h x y s g:Int},u.natAbs<=1000000000->w.natAbs<=1000000000->x.natAbs<=1000000000->y.natAbs<=1000000000->MC [I u,I w,I r,I h,I x,I y,I s,I g]=some [I (crs u w x y)])
  (hN:∀{X Y:Int},(64<=X/\X<=1000000000000000)->(64<=Y/\Y<=1000000000000000)->∃v,MN [I X,I Y]=some [B v]/\(v=true↔Iy X Y)):
  ∃v,Qdr MC MN MD ME MA MW (Af it)=some [B v]/\(v=true↔Dz it):=by
 rw[Zmv];simp only[go_sem,hW,hA];by_cases c1:it.kind<1
 ·rw[aa c1];exact⟨_,rfl,iff_of_false (by simp) λh=>by have:=h.1;omega⟩
 rw[ab c1];by_cases c1':it.kind>6
 ·rw[aa c1'];exact⟨_,rfl,iff_of_false (by simp) λh=>by have:=h.1;omega⟩
 rw[ab c1'];by_cases c2:bd 1048576 it.fr
 case neg=>rw[aa (by simpa using c2)];exact⟨_,rfl,iff_of_false (by simp) λh=>c2 h.2.1⟩
 rw[ab (by simpa using c2)];by_cases c3:bd 1048576 it.to
 case neg=>rw[aa (by simpa using c3)];exact⟨_,rfl,iff_of_false (by simp) λh=>c3 h.2.2.1⟩
 rw[ab (by simpa using c3)];by_cases c4:it.kind=3
 case neg=>rw[aa c4];exact⟨_,rfl,iff_of_true rfl ⟨by omega,c2,c3,λh=>absurd h c4⟩⟩
 rw[ab (by simpa using c4)];by_cases c5:Dk it.aF
 case neg=>rw[aa (by simpa using c5)];exact⟨_,rfl,iff_of_false (by simp) λh=>c5 (h.2.2.2 c4).1⟩
 rw[ab (by simpa using c5)];by_cases c7:bd 1048576 it.ce
 case neg=>
  refine⟨false,?_,iff_of_false (by simp) λh=>c7 (h.2.2.2 c4).2.2.1⟩;split
  ·split
   ·rfl
   ·first|rfl|(rw[aa c7])
  ·first|rfl|(rw[aa c7])
 by_cases c6:it.dir=1\/it.dir= -1
 case neg=>
  rw[aa (c:=it.dir≠1) (by omega),aa (c:=it.dir≠-1) (by omega)];exact⟨false,rfl,iff_of_false (by simp) λh=>c6 (h.2.2.2 c4).2.1⟩
 have hE':=hE c5 c2 c3 c7;obtain⟨b1,b2⟩:=Ql2 (it:=it) c7 c2;obtain⟨b3,b4⟩:=Ql2 (it:=it) c7 c3;simp only[Af]at hE';have x1:=Q6z b1 b2;have x2:=Q6z b3 b4;have core:Dz it↔64<=qA it/\64<=qB it/\Iy (qA it) (qB it)/\(it.full=true->dU it it.fr=dU it it.to/\dW it it.fr=dW it it.to)/\(it.full=false->cAB it≠0\/dAB it<0):=
  ⟨λh=>(h.2.2.2 c4).2.2.2,λh=>⟨by omega,c2,c3,λ_=>⟨c5,c6,c7,h⟩⟩⟩
 rw[core];have x1':0<=qA it/\qA it<=1000000000000000:=⟨x1.1,by unfold qA;omega⟩;have x2':0<=qB it/\qB it<=1000000000000000:=⟨x2.1,by unfold qB;omega⟩;have D1:= @hD (dU it it.fr*16) (dW it it.fr*16) 0 (plH it.aF it.fr*16) (dU it it.fr*16) (dW it it.fr*16) 0 (plH it.aF it.fr*16) (by omega) (by omega) (by omega) (by omega);have D2:= @hD (dU it it.to*16) (dW it it.to*16) 0 (plH it.aF it.to*16) (dU it it.to*16) (dW it it.to*16) 0 (plH it.aF it.to*16) (by omega) (by omega) (by omega) (by omega);have D3:= @hD (dU it it.fr*16) (dW it it.fr*16) 0 (plH it.aF it.fr*16) (dU it it.to*16) (dW it it.to*16) 0 (plH it.aF it.to*16) (by omega) (by omega) (by omega) (by omega);have D4:= @hX (dU it it.fr*16) (dW it it.fr*16) 0 (plH it.aF it.fr*16) (dU it it.to*16) (dW it it.to*16) 0 (plH it.aF it.to*16) (by omega) (by omega) (by omega) (by omega);rw[(Qux _ _ _ _).1]at D1 D2 D3;rw[(Qux _ _ _ _).2]at D4;have e1:dt2 (dU it it.fr) (dW it it.fr) (dU it it.fr) (dW it it.fr)=qA it:=rfl;have e2:dt2 (dU it it.to) (dW it it.to) (dU it it.to) (dW it it.to)=qB it:=rfl;have e3:dt2 (dU it it.fr) (dW it it.fr) (dU it it.to) (dW it it.to)=dAB it:=rfl;have e4:crs (dU it it.fr) (dW it it.fr) (dU it it.to) (dW it it.to)=cAB it:=rfl;rw[e1]at D1;rw[e2]at D2;rw[e3]at D3;rw[e4]at D4;have T:= @Zuh MN (qA it) (qB it) (cAB it) (dAB it) (dU it it.fr) (dW it it.fr) (dU it it.to) (dW it it.to) it.full x1' x2' hN;have n7: ¬ ¬bd 1048576 it.ce:=λh=>h c7;by_cases d1:it.dir=1
 ·rw[ab (c:=it.dir≠1) (λh=>h d1),ab n7];simp only[hE',go_sem,D1,D2,D3,D4];exact T
 ·rw[aa (c:=it.dir≠1) d1,ab (c:=it.dir≠-1) (by omega),ab n7];simp only[hE',go_sem,D1,D2,D3,D4];exact T
theorem YI (it:Itm):∃v,G8 (Af it)=some [B v]/\(v=true↔Dz it):=
 Z4s U8 Zmx (λh1 h2 h3 h4=>Q30 h1 h2 h3 h4) Qh2 YH Z5k
def okS (s:Spk):Prop:=s.u.natAbs<=50000000/\s.w.natAbs<=50000000/\(0<=s.r/\s.r<=50000000)/\s.h.natAbs<=16777216
def hf (a b:Int):Int:=(a+b+1)/2
def DC (a b:Spk) (dir:Int) (full:Bool):Int×Int:=
 if full=true then(-a.u,-a.w)
 else if 0<dt2 a.u a.w b.u b.w/\0<crs a.u a.w b.u b.w*dir then(a.u+b.u,a.w+b.w)
 else if 0<dt2 a.u a.w b.u b.w then(-(a.u+b.u),-(a.w+b.w))
 else(dir*(b.w-a.w),dir*(a.u-b.u))
noncomputable def HX (a b:Spk) (u w:Int):Spk:=if u=0/\w=0 then⟨0,0,0,0⟩else⟨B9 u (hf a.r b.r) (sq2 u w),B9 w (hf a.r b.r) (sq2 u w),hf a.r b.r,hf a.h b.h⟩
noncomputable def ER (a b:Spk) (dir:Int) (full:Bool):Spk:=HX a b (DC a b dir full).1 (DC a b dir full).2
theorem Mu {a b:Spk} (ha:okS a) (hb:okS b) {dir:Int} (hd:dir=1\/dir= -1) (full:Bool):(DC a b dir full).1.natAbs<=100000000/\(DC a b dir full).2.natAbs<=100000000:=by
 obtain⟨a1,a2,-⟩:=ha;obtain⟨b1,b2,-⟩:=hb;unfold DC;split
 ·exact⟨by simp only;omega,by simp only;omega⟩
 ·split
  ·exact⟨by simp only;omega,by simp only;omega⟩
  ·split
   ·exact⟨by simp only;omega,by simp only;omega⟩
   ·rcases hd with rfl|rfl
    ·exact⟨by simp only;omega,by simp only;omega⟩
    ·exact⟨by simp only;omega,by simp only;omega⟩
theorem Q0u (u w:Int):u*u<=sq2 u w/\w*w<=sq2 u w:=by
 have h1:=FX u;have h2:=FX w;unfold sq2;omega
theorem Ub {u w:Int} (h: ¬(u=0/\w=0)):0<sq2 u w:=by
 have h1:=FX u;have h2:=FX w;have z:∀u:Int,u*u=0->u=0:=λu hu=>by
  rcases Int.mul_eq_zero.1 hu with h|h<;>exact h
 have h3: ¬(u*u=0/\w*w=0):=λh4=>h ⟨z _ h4.1,z _ h4.2⟩;unfold sq2;omega
theorem Qwb {a b:Int} (ha:0<=a/\a<=50000000) (hb:0<=b/\b<=50000000):0<=hf a b/\hf a b<=50000000:=by unfold hf;omega
theorem Z1p {a b:Int} (ha:a.natAbs<=16777216) (hb:b.natAbs<=16777216):(hf a b).natAbs<=16777216:=by unfold hf;omega
theorem Q5h {u w r:Int} (hu:u.natAbs<=100000000) (hw:w.natAbs<=100000000) (hr:0<=r/\r<=50000000) (h: ¬(u=0/\w=0)):
  (True/\(B9 u r (sq2 u w)).natAbs<=r.natAbs)/\(True/\(B9 w r (sq2 u w)).natAbs<=r.natAbs):=by
 have hp:=Ub h;have h1:=DH hu;have h2:=DH hw;have h3:sq2 u w<=20000000000000000:=by unfold sq2;omega
 obtain⟨q1,q2⟩:=Q0u u w;have key:∀x:Int,x.natAbs<=100000000->x*x<=sq2 u w->True/\(B9 x r (sq2 u w)).natAbs<=r.natAbs:=by
  intro x hx hq;obtain⟨g1,-,g3⟩:=T9 (x:=x) (r:=r) (n:=sq2 u w) (cd hx (by decide)) (by omega) (by omega) hq;refine⟨g1,Yr (by omega) ?_ g3⟩;have:((x.natAbs*x.natAbs:Nat):Int)=x*x:=Int.natAbs_mul_self;omega
 exact⟨key u hu q1,key w hw q2⟩
theorem Zqx {a b:Spk} (ha:okS a) (hb:okS b) {u w:Int} (hu:u.natAbs<=100000000) (hw:w.natAbs<=100000000):okS (HX a b u w):=by
 unfold HX;split
 ·exact⟨by simp,by simp,by simp,by simp⟩
 ·rename_i h;have hr:=Qwb ha.2.2.1 hb.2.2.1;obtain⟨⟨-,n1⟩,-,n2⟩:=Q5h hu hw hr h;exact⟨by simp only;omega,by simp only;omega,hr,Z1p ha.2.2.2 hb.2.2.2⟩
theorem Q6x {a b:Spk} (ha:okS a) (hb:okS b) {dir:Int} (hd:dir=1\/dir= -1) (full:Bool):okS (ER a b dir full):=
 Zqx ha hb (Mu ha hb hd full).1 (Mu ha hb hd full).2
theorem G3 {x:Int} (h:x.natAbs<=50000000):x.natAbs<=1000000000:=cd h (by decide)
def HZ (a b:Spk) (dir:Int) (full:Bool):Prop:=full=false/\0<crs a.u a.w b.u b.w*dir/\sq2 (a.u-b.u) (a.w-b.w)<=32*mn a.r b.r-64
instance {a b:Spk} {dir:Int} {full:Bool}:Decidable (HZ a b dir full):=by unfold HZ;infer_instance
noncomputable def DV (dir:Int):Nat->Bool->Spk->Spk->List Spk
 |0,_,_,b=>[b]
 |k+1,full,a,b=>if HZ a b dir full then [b]else DV dir k false a (ER a b dir full)++DV dir k false (ER a b dir full) b
theorem Uh {dir:Int}:∀(k:Nat) (full:Bool) (a b:Spk),1<=(DV dir k full a b).length/\(DV dir k full a b).length<=2^k
 |0,_,_,b=>by simp[DV]
 |k+1,full,a,b=>by
  have hp:0<2^k:=Nat.two_pow_pos _;have e3:2^(k+1)=2^k+2^k:=by rw[Nat.pow_succ];omega
  unfold DV;split
  ·simp;omega
  ·have h1:=Uh k false a (ER a b dir full) (dir:=dir);have h2:=Uh k false (ER a b dir full) b (dir:=dir);rw[ao];omega
theorem Ql6 {dir:Int} (hd:dir=1\/dir= -1):∀(k:Nat) (full:Bool) {a b:Spk},okS a->okS b->∀s∈DV dir k full a b,okS s
 |0,_,a,b,_,hb,s,hs=>by simp[DV]at hs;subst hs;exact hb
 |k+1,full,a,b,ha,hb,s,hs=>by
  unfold DV at hs;have hm:=Q6x ha hb hd full;split at hs
  ·simp at hs;subst hs;exact hb
  ·rcases bm.1 hs with hs|hs
   ·exact Ql6 hd k false ha hm s hs
   ·exact Ql6 hd k false hm hb s hs
theorem Z5q {n i j:Int} (hi:Jz n i) (hj:Jz n j):i=j:=by
 have key:∀{i j:Int},Jz n i->Jz n j-> ¬i<j:=by
  rintro i j ⟨h1,h2,-⟩ ⟨h4,h5,h6⟩ hlt;rcases h6 with h6|h6
  ·omega
  ·have h7:=dq (show i<=j-1 by omega) (show i+1<=j by omega) (by omega) (by omega);omega
 have h1:=key hi hj;have h2:=key hj hi;omega
open Classical in
noncomputable def FJ (n:Int):Int:=if h:∃j,Jz n j then Classical.choose h else 0
theorem TX {n k:Int} (h:Jz n k):FJ n=k:=by
 have hx:∃j,Jz n j:=⟨k,h⟩;unfold FJ;rw[dif_pos hx];exact Z5q (Classical.choose_spec hx) h
theorem Tv {n r:Nat} (h1:r*r<=n) (h2:n<(r+1)*(r+1)):Jz n (if r*r+r<n then r+1 else r:Nat):=by
 have e0:(r+1)*(r+1)=r*r+r+r+1:=by grind
 unfold Jz;by_cases c:r*r+r<n
 ·rw[aa c];have e1:((r+1:Nat):Int)*(((r+1:Nat):Int)+1)=((r*r+r+r+r+2:Nat):Int):=by
   have:((r+1:Nat):Int)+1=((r+2:Nat):Int):=by omega
   rw[this,<-Int.natCast_mul];congr 1
   grind
  have e2:(((r+1:Nat):Int)-1)*((r+1:Nat):Int)=((r*r+r:Nat):Int):=by
   rw[show((r+1:Nat):Int)-1=(r:Int) by omega,<-Int.natCast_mul];congr 1
  rw[e1,e2];generalize r*r=A at*;exact⟨by omega,by omega, .inr (by omega)⟩
 ·rw[ab c];have e1:(r:Int)*((r:Int)+1)=((r*r+r:Nat):Int):=by
   rw[show(r:Int)+1=((r+1:Nat):Int) by omega,<-Int.natCast_mul];congr 1
  rw[e1];refine⟨by omega,by omega,?_⟩;rcases Nat.eq_zero_or_pos r with h|h
  ·left;omega
  ·right;have e2:((r:Int)-1)*(r:Int)=(((r-1)*r:Nat):Int):=by
    rw[show(r:Int)-1=((r-1:Nat):Int) by omega];exact(Int.natCast_mul _ _).symm
   have:=Nat.mul_lt_mul_of_pos_right (show r-1<r by omega) h;rw[e2];omega
noncomputable def Em (it:Itm) (p:Pt):Spk:=⟨dU it p*16,dW it p*16,FJ (sq2 (dU it p*16) (dW it p*16)),plH it.aF p*16⟩
theorem Zs4 {n:Nat} (hn:n<=2251799813685248):0<=FJ n/\FJ n<=50000000:=by
 obtain⟨r,-,h2,h3,-⟩:=Ru (n:=n) (by omega);have hm:=Tv h2 h3;rw[TX hm];have:r<50000000:=by
  by_cases c:r<50000000
  ·exact c
  ·have:=dp (show 50000000<=r by omega) (show 50000000<=r by omega);omega
 split<;>omega
theorem PT {it:Itm} {p:Pt} (hc:bd 1048576 it.ce) (hp:bd 1048576 p):(dU it p*16).natAbs<=33554432/\(dW it p*16).natAbs<=33554432/\0<=sq2 (dU it p*16) (dW it p*16)/\sq2 (dU it p*16) (dW it p*16)<=2251799813685248:=by
 obtain⟨h1,h2⟩:=Ql2 hc hp;have h3:(dU it p*16).natAbs<=33554432:=by omega
 have h4:(dW it p*16).natAbs<=33554432:=by omega
 have q1:=DH h3;have q2:=DH h4;refine⟨h3,h4,?_⟩;unfold sq2;omega
theorem Rq {it:Itm} {p:Pt} (hc:bd 1048576 it.ce) (hp:bd 1048576 p):okS (Em it p):=by
 obtain⟨h1,h2,h3,h4⟩:=PT hc hp;have h5:=(HW (pl:=it.aF) hp).2.2;obtain⟨n,hn⟩:=bv h3;refine⟨cd h1 (by decide),cd h2 (by decide),?_,?_⟩
 ·show 0<=FJ _/\FJ _<=_;rw[hn]at h4⊢;exact Zs4 (by omega)
 ·show(plH it.aF p*16).natAbs<=_;omega
noncomputable def DO (it:Itm):List Spk:=Em it it.fr::DV it.dir 16 it.full (Em it it.fr) (Em it it.to)
theorem Q99 {it:Itm} (h:Dz it) (h3:it.kind=3):∀s∈DO it,okS s:=by
 obtain⟨-,h1,h2,ha⟩:=h;obtain⟨hp,hd,hc,-⟩:=ha h3;intro s hs;rcases ay.1 hs with rfl|hs
 ·exact Rq hc h1
 ·exact Ql6 hd 16 _ (Rq hc h1) (Rq hc h2) s hs
theorem Qwe (it:Itm):2<=(DO it).length/\(DO it).length<=65537:=by
 have:=Uh (dir:=it.dir) 16 it.full (Em it it.fr) (Em it it.to);have e:(2:Nat)^16=65536:=rfl;rw[e]at this;unfold DO;rw[bf];omega
noncomputable def I9 (it:Itm) (s:Spk):Pt:=spP it.aF (plU it.aF (Ay it.ce)+s.u) (plW it.aF (Ay it.ce)+s.w) s.h
noncomputable def Cd (it:Itm):List Pt:=if it.kind=3 then(DO it).map (I9 it)else [Ay it.fr,Ay it.to]
theorem Qxe {pl u w h:Int} {b:Nat} (hu:u.natAbs<=b) (hw:w.natAbs<=b) (hh:h.natAbs<=b):bd b (spP pl u w h):=by
 unfold spP bd;split
 ·exact⟨hu,hw,hh⟩
 ·split
  ·exact⟨hw,hh,hu⟩
  ·exact⟨hh,hu,hw⟩
theorem Zsd {it:Itm} {s:Spk} (hc:bd 1048576 it.ce) (hs:okS s):bd 67108864 (I9 it s):=by
 obtain⟨h1,h2,-⟩:=HW (pl:=it.aF) (FC hc);obtain⟨s1,s2,-,s4⟩:=hs;exact Qxe (by omega) (by omega) (by omega)
theorem Qid {it:Itm} (h:Dz it):∀p∈Cd it,bd 67108864 p:=by
 intro p hp;unfold Cd at hp;split at hp
 ·rename_i h3;simp only[bc]at hp;obtain⟨s,hs,rfl⟩:=hp;exact Zsd (h.2.2.2 h3).2.2.1 (Q99 h h3 s hs)
 ·simp at hp;rcases hp with rfl|rfl
  ·exact AZ (FC h.2.1) (by decide)
  ·exact AZ (FC h.2.2.1) (by decide)
theorem Q8d (it:Itm):2<=(Cd it).length/\(Cd it).length<=65537:=by
 have:=Qwe it;unfold Cd;split<;>simp<;>omega
def EC (t:Itm) (speed:Int):Int:=if t.kind=1 then 0 else mx (Bo (mn (if t.perRev=true then t.feed*mx speed 1 else t.feed) 60000000*4096) 60000) 1
theorem Zep {f s:Int} (hf:0<=f/\f<=60000000) (hs:0<=s/\s<=30000):0<=f*mx s 1/\f*mx s 1<=1800000000000:=by
 have h1:1<=mx s 1/\mx s 1<=30000:=by unfold mx;split<;>omega
 generalize mx s 1=m at*;have h2:=dq hf.2 h1.2 (by omega) (by omega);have h3:=Int.mul_nonneg hf.1 (show 0<=m by omega);omega
theorem Qv3 {x:Int} (h:0<=x):0<=mn x 60000000/\mn x 60000000<=60000000:=by unfold mn;split<;>omega
theorem Zjt {M:Fn} {t:Itm} {speed:Int} (hf:0<=t.feed/\t.feed<=60000000) (hs:0<=speed/\speed<=30000)
  (hM:∀a:Int,0<=a/\a<=60000000->M [I a,I 4096,I 60000,I 2]=some [I (Bo (a*4096) 60000),B true]):W9 M (Af t++[I speed])=some [I (EC t speed)]:=by
 have h1:=Zep hf hs;have h2:=hM _ (Qv3 h1.1);have h3:=hM _ (Qv3 hf.1);have h4:wrap .i64 (t.feed*mx speed 1)=t.feed*mx speed 1:=Ae (by omega);simp only[Af,ax,az];rw[Qr8,h4];simp only[go_sem,h2,h3];unfold EC;by_cases g1:t.kind=1
 ·rw[aa g1,aa g1]
 ·rw[ab g1,ab g1];by_cases g2:t.perRev=true
  ·rw[aa g2,aa g2]
  ·rw[ab g2,ab g2]
theorem Za7 {t:Itm} {speed:Int} (hf:0<=t.feed/\t.feed<=60000000) (hs:0<=speed/\speed<=30000):Ki (Af t++[I speed])=some [I (EC t speed)]:=
 Zjt hf hs λa ha=>S3 (by unfold i64;omega) (by unfold i64;omega) (by omega) (by have:a.natAbs*(4096:Int).natAbs<=60000000*4096:=dp (by omega) (by omega);omega)
def it0:Itm:=⟨0,0,⟨0,0,0⟩,⟨0,0,0⟩,0,⟨0,0,0⟩,0,false,0,false,0,0,0,0,0,false⟩
def itA (items:List Itm) (i:Nat):Itm:=items.getD i it0
theorem Lt {items:List Itm} {i:Nat} (h:i<items.length):itA items i=items[i]:=by unfold itA;simp[h]
theorem X9 {items:List Itm} {i:Nat} (h:i<items.length):itA items i∈items:=by rw[Lt h];exact bn h
theorem Fl {items:List Itm} {i:Nat} (h:i<items.length):nth [] (items.map Af) i=Af (itA items i):=by rw[Lt h];exact Je _ _ _ _ h
theorem Qi2 {items:List Itm} {i:Nat} (h:i<items.length):items.drop i=itA items i::items.drop (i+1):=by rw[Lt h];exact OY _ _ h
def AD (it:Itm):Prop:=1<=it.kind/\it.kind<=6
def smI (it:Itm):Prop:=it.kind=2/\it.fr≠it.to
def syI (it:Itm):Prop:=it.kind=5\/it.kind=6
instance (it:Itm):Decidable (AD it):=by unfold AD;infer_instance
instance (it:Itm):Decidable (smI it):=by unfold smI;infer_instance
instance (it:Itm):Decidable (syI it):=by unfold syI;infer_instance
def Bc (it:Itm):Pt:=⟨(it.fr.x+it.to.x)*8,(it.fr.y+it.to.y)*8,(it.fr.z+it.to.z)*8⟩
theorem Ly {it:Itm} (h1:bd 1048576 it.fr) (h2:bd 1048576 it.to):bd B24 (Bc it):=by
 unfold bd B24 Bc at*;simp only;omega
def E1:List Itm->Nat->Int
 |[],_=> -1
 |it::l,k=>if it.kind=10 then E1 l (k+1)else if smI it then k else-1
def Ba (items:List Itm) (i:Nat):Int:=if smI (itA items i)/\(itA items i).blend≠0 then E1 (items.drop (i+1)) (i+1)else-1
theorem Qrp:∀(l:List Itm) (k:Nat),E1 l k= -1\/∃j:Nat,E1 l k=((k+j:Nat):Int)/\∃h:j<l.length,smI l[j]/\∀i (hi:i<l.length),i<j->l[i].kind=10
 |[],_=> .inl rfl
 |it::l,k=>by
  unfold E1;split
  ·rename_i h10;rcases Qrp l (k+1)with h|⟨j,h1,h2,h3,h4⟩
   ·exact .inl h
   ·refine .inr ⟨j+1,by rw[h1];omega,by simp;omega,by simpa using h3,?_⟩;intro i hi hij;cases i with
    |zero=>simpa using h10
    |succ i=>simpa using h4 i (by simpa using hi) (by omega)
  ·split
   ·rename_i hs;exact .inr ⟨0,by simp,by simp,by simpa using hs,λi _ hi=>by omega⟩
   ·exact .inl rfl
theorem T6 (items:List Itm) (i:Nat):Ba items i= -1\/(smI (itA items i)/\(itA items i).blend≠0/\∃k:Nat,Ba items i=k/\i<k/\k<items.length/\smI (itA items k)/\∀j,i<j->j<k->(itA items j).kind=10):=by
 unfold Ba;split
 ·rename_i h;rcases Qrp (items.drop (i+1)) (i+1)with h1|⟨j,h1,h2,h3,h4⟩
  ·exact .inl h1
  ·have h5:i+1+j<items.length:=by rw[cy]at h2;omega
   refine .inr ⟨h.1,h.2,i+1+j,h1,by omega,h5,?_,?_⟩
   ·rw[Lt h5];rw[List.getElem_drop]at h3;exact h3
   ·intro m hm1 hm2;have:=h4 (m-(i+1)) (by omega) (by omega);rw[List.getElem_drop]at this;rw[Lt (by omega)];have e:i+1+(m-(i+1))=m:=by omega
    simp only[e]at this;exact this
 ·exact .inl rfl
def Qb (it:Itm):Int:=if it.kind=10 then 5 else if it.kind=13 then 4 else 3
def Hy:List Itm->Int
 |[]=>2
 |it::l=>if AD it then(if syI it then 1 else 2)else Hy l
def PQ (items:List Itm) (i:Nat):Int:=if(itA items i).kind=4 then 6 else if(itA items i).blend=0 then 1 else if syI (itA items i)then 1 else Hy (items.drop (i+1))
noncomputable def FT (items:List Itm) (i k:Nat):List Pt:=F7 (Bc (itA items i)) (Ay (itA items i).to) (Bc (itA items k)) ((itA items i).blend*16)
def drawn (it:Itm):Prop:=Dz it/\0<=it.blend/\it.blend<=1000
theorem KV {items:List Itm} {i k:Nat} (h1:drawn (itA items i)) (h2:drawn (itA items k)):(∀p∈FT items i k,bd B24 p)/\1<=(FT items i k).length/\(FT items i k).length<=65:=
 Q6a (Ly h1.1.2.1 h1.1.2.2.1) (FC h1.1.2.2.1) (Ly h2.1.2.1 h2.1.2.2.1)
noncomputable def FY (items:List Itm) (i:Nat) (frm:Int):List Pt:=if 0<=frm then(FT items frm.toNat i).drop ((FT items frm.toNat i).length/2)else(Cd (itA items i)).take 1
noncomputable def Fx (items:List Itm) (i:Nat):List Pt:=if 0<=Ba items i then(FT items i (Ba items i).toNat).take ((FT items i (Ba items i).toNat).length/2+1)else(Cd (itA items i)).drop 1
noncomputable def Ca (items:List Itm) (i:Nat) (frm:Int):List Pt:=if smI (itA items i)then FY items i frm++[Bc (itA items i)]++Fx items i else Cd (itA items i)
def IF (items:List Itm) (i:Nat) (frm:Int):Prop:=frm= -1\/∃f:Nat,frm=f/\f<items.length/\drawn (itA items f)
theorem Zx7 {items:List Itm} {i:Nat} {frm:Int} (hd:drawn (itA items i)) (hf:IF items i frm):(∀p∈FY items i frm,bd 67108864 p)/\(FY items i frm).length<=65:=by
 unfold FY;rcases hf with rfl|⟨f,rfl,hf1,hf2⟩
 ·rw[ab (by omega)];exact⟨λp hp=>Qid hd.1 p (de hp),by rw[du];omega⟩
 ·rw[aa (by omega)];obtain⟨h1,h2,h3⟩:=KV (items:=items) (i:=(f:Int).toNat) (k:=i) (by simpa using hf2) hd;exact⟨λp hp=>AZ (h1 p (df hp)) (by decide),by rw[cy];omega⟩
theorem Uj {items:List Itm} {i:Nat} (hall:∀k<items.length,AD (itA items k)->drawn (itA items k)) (hs:0<=Ba items i):∃k:Nat,Ba items i=k/\k<items.length/\drawn (itA items k):=by
 rcases T6 items i with h|⟨-,-,k,h1,-,h2,h3,-⟩
 ·omega
 ·exact⟨k,h1,h2,hall k h2 ⟨by have:=h3.1;omega,by have:=h3.1;omega⟩⟩
theorem Zms {items:List Itm} {i:Nat} (hd:drawn (itA items i)) (h2:(itA items i).kind≠3) (hall:∀k<items.length,AD (itA items k)->drawn (itA items k)):(∀p∈Fx items i,bd 67108864 p)/\(Fx items i).length<=66:=by
 unfold Fx;by_cases h:0<=Ba items i
 ·rw[aa h];obtain⟨k,hk,hk1,hk2⟩:=Uj hall h;obtain⟨h1,h2,h3⟩:=KV (items:=items) (i:=i) (k:=(Ba items i).toNat) hd (by rw[hk];simpa using hk2);exact⟨λp hp=>AZ (h1 p (de hp)) (by decide),by rw[du];omega⟩
 ·rw[ab h];refine⟨λp hp=>Qid hd.1 p (df hp),?_⟩;unfold Cd;rw[ab h2];simp
theorem Qpb {items:List Itm} {i:Nat} {frm:Int} (hd:drawn (itA items i)) (hf:IF items i frm) (hall:∀k<items.length,AD (itA items k)->drawn (itA items k)):
  (∀p∈Ca items i frm,bd 67108864 p)/\(Ca items i frm).length<=65537:=by
 unfold Ca;by_cases hs:smI (itA items i)
 ·rw[aa hs];obtain⟨h1,h2⟩:=Zx7 hd hf;obtain⟨h3,h4⟩:=Zms hd (by have:=hs.1;omega) hall;refine⟨λp hp=> ?_,by rw[ao,ao];simp;omega⟩;rcases bm.1 hp with hp|hp
  ·rcases bm.1 hp with hp|hp
   ·exact h1 p hp
   ·simp at hp;subst hp;exact AZ (Ly hd.1.2.1 hd.1.2.2.1) (by decide)
  ·exact h3 p hp
 ·rw[ab hs];exact⟨Qid hd.1,(Q8d _).2⟩
theorem Qp2 (l:List Pt):List.drop (Int.toNat 1) (l.map ptR)=(l.drop 1).map ptR:=by rw[show Int.toNat 1=1 from rfl,List.map_drop]
theorem RA (l:List Pt):List.take (Int.toNat 1) (l.map ptR)=(l.take 1).map ptR:=by rw[show Int.toNat 1=1 from rfl,List.map_take]
end Go.Bm
namespace Go.Bm
open Classical
def Bu (it:Itm):Prop:=it.kind<1\/it.kind>14\/(AD it/\(¬Dz it\/(it.kind≠1/\(it.feed<1\/it.feed>60000000))\/it.blend<0\/it.blend>1000))\/(¬AD it/\it.kind=8/\(it.n<3\/it.n>5\/it.speed<0\/it.speed>30000))
noncomputable def GX (items:List Itm):Nat->Nat->Int->Int
 |0,_,_=>0
 |k+1,i,last=>if Bu (itA items i)then 1 else if AD (itA items i)then(if 0<=last/\(itA items last.toNat).to≠(itA items i).fr then 13 else GX items k (i+1) i)else GX items k (i+1) last
noncomputable def CF (items:List Itm):Int:=if items.length>20000 then 10 else GX items items.length 0 (-1)
theorem Qez {items:List Itm}:∀(k i:Nat) (last:Int),i+k=items.length->GX items k i last=0->∀j,i<=j->j<items.length-> ¬Bu (itA items j)
 |0,i,last,hi,_,j,h1,h2=>by omega
 |k+1,i,last,hi,h,j,h1,h2=>by
  unfold GX at h;split at h
  ·omega
  ·rename_i c;by_cases hij:j=i
   ·subst hij;exact c
   ·split at h
    ·split at h
     ·omega
     ·exact Qez k (i+1) _ (by omega) h j (by omega) h2
    ·exact Qez k (i+1) _ (by omega) h j (by omega) h2
theorem KI {items:List Itm} (h:CF items=0):items.length<=20000/\∀j,j<items.length-> ¬Bu (itA items j):=by
 unfold CF at h;split at h
 ·omega
 ·exact⟨by omega,λj hj=>Qez _ 0 _ (by omega) h j (by omega) hj⟩
theorem KM {it:Itm} (h: ¬Bu it) (hm:AD it):drawn it/\(it.kind=1\/1<=it.feed/\it.feed<=60000000):=by
 unfold Bu at h;have hv:Dz it:=by
  by_cases c:Dz it
  ·exact c
  ·exact absurd (.inr (.inr (.inl ⟨hm, .inl c⟩))) h
 have h2: ¬((it.kind≠1/\(it.feed<1\/it.feed>60000000))\/it.blend<0\/it.blend>1000):=λc=>h (.inr (.inr (.inl ⟨hm, .inr c⟩)));exact⟨⟨hv,by omega,by omega⟩,by omega⟩
theorem Z3c {it:Itm} (h: ¬Bu it) (h8:it.kind=8):0<=it.speed/\it.speed<=30000:=by
 unfold Bu at h;have hm: ¬AD it:=λc=>by have:=c.2;omega
 have h2: ¬(it.n<3\/it.n>5\/it.speed<0\/it.speed>30000):=λc=>h (.inr (.inr (.inr ⟨hm,h8,c⟩)));omega
noncomputable def AT (item feed lead:Int) (s:List Sgm×Int×Pt) (q:Pt):List Sgm×Int×Pt:=if q=s.2.2 then s else(s.1++[⟨q,AE s.2.2 q,item,feed,lead⟩],s.2.1+AE s.2.2 q,q)
theorem TY {item feed lead:Int}:∀(pts:List Pt) (s:List Sgm×Int×Pt),(∀p∈pts,bd 67108864 p)->bd 67108864 s.2.2->0<=s.2.1->
  (pts.foldl (AT item feed lead) s).1.length<=s.1.length+pts.length/\s.2.1<=(pts.foldl (AT item feed lead) s).2.1/\(pts.foldl (AT item feed lead) s).2.1<=s.2.1+pts.length*268435456/\bd 67108864 (pts.foldl (AT item feed lead) s).2.2
 |[],s,_,h2,h3=>⟨by simp,by simp,by simp,h2⟩
 |q::pts,s,h1,h2,h3=>by
  rw[List.foldl_cons];have hq:=h1 q (by simp);have hl:=IC h2 hq;have hs:AT item feed lead s q=s\/AT item feed lead s q=(s.1++[⟨q,AE s.2.2 q,item,feed,lead⟩],s.2.1+AE s.2.2 q,q):=by unfold AT;split<;>simp
  rcases hs with hs|hs
  ·rw[hs];obtain⟨a,b,c,d⟩:=TY pts s (λp hp=>h1 p (by simp[hp])) h2 h3 (item:=item) (feed:=feed) (lead:=lead);exact⟨by simp;omega,b,by simp;omega,d⟩
  ·rw[hs];obtain⟨a,b,c,d⟩:=TY pts (s.1++[⟨q,AE s.2.2 q,item,feed,lead⟩],s.2.1+AE s.2.2 q,q) (λp hp=>h1 p (by simp[hp])) hq (by simp only;omega) (item:=item) (feed:=feed) (lead:=lead);simp only[ao,bf,cq]at a b c;exact⟨by simp;omega,by omega,by simp;omega,d⟩
structure BSt where
 aE:List Sgm
 aC:List Mrk
 (len speed frm:Int)
 begun:Bool
 (start at_:Pt)
def F3 (it:Itm):Int:=if syI it then mn (it.feed*16) 16777216 else 0
def Qc (it:Itm) (s:Int):Int:=if it.kind=8/\(it.n=3\/it.n=4)then it.speed else s
noncomputable def E7 (items:List Itm) (i:Nat) (s:BSt):List Sgm×Int×Pt:=
 (Ca items i s.frm).foldl (AT i (EC (itA items i) s.speed) (F3 (itA items i))) (s.aE,s.len,if s.begun=true then s.at_ else Ay (itA items i).fr)
noncomputable def BR (items:List Itm) (i:Nat) (s:BSt):BSt:=
 if AD (itA items i)then
  ⟨(E7 items i s).1,s.aC++[⟨(E7 items i s).2.1,PQ items i,i⟩],(E7 items i s).2.1,s.speed,if 0<=Ba items i then i else-1,true,if s.begun=true then s.start else Ay (itA items i).fr,(E7 items i s).2.2⟩
 else⟨s.aE,s.aC++[⟨s.len,Qb (itA items i),i⟩],s.len,Qc (itA items i) s.speed,s.frm,s.begun,s.start,s.at_⟩
noncomputable def Ao (items:List Itm):Nat->BSt
 |0=>⟨[],[],0,0,-1,false,⟨0,0,0⟩,⟨0,0,0⟩⟩
 |i+1=>BR items i (Ao items i)
structure BOK (items : List Itm) (i : Nat) (s : BSt) : Prop where
 aE:s.aE.length<=i*65537
 aC:s.aC.length=i
 len:0<=s.len/\s.len<=i*65537*268435456
 speed:0<=s.speed/\s.speed<=30000
 frm:IF items i s.frm
 at_:s.begun=true->bd 67108864 s.at_
theorem Q9r {items:List Itm} {i:Nat} {s:BSt} (hi:i<items.length) (hright:∀j<items.length,¬Bu (itA items j)) (h:BOK items i s):BOK items (i+1) (BR items i s):=by
 have hall:∀k<items.length,AD (itA items k)->drawn (itA items k):=λk hk hm=>(KM (hright k hk) hm).1;unfold BR;by_cases hm:AD (itA items i)
 ·rw[aa hm];have hd:=hall i hi hm;obtain⟨p1,p2⟩:=Qpb hd h.frm hall;have ha:bd 67108864 (if s.begun=true then s.at_ else Ay (itA items i).fr):=by
   by_cases hb:s.begun=true
   ·rw[aa hb];exact h.at_ hb
   ·rw[ab hb];exact AZ (FC hd.1.2.1) (by decide)
  obtain⟨a1,a2,a3,a4⟩:=TY (item:=i) (feed:=EC (itA items i) s.speed) (lead:=F3 (itA items i)) (Ca items i s.frm) (s.aE,s.len,if s.begun=true then s.at_ else Ay (itA items i).fr) p1 ha h.len.1;have h1:=h.aE;have h2:=h.len;have e1:(i+1)*65537=i*65537+65537:=by rw[Nat.succ_mul]
  refine⟨?_,?_,?_,h.speed,?_,λ_=>a4⟩
  ·simp only at a1;show(E7 items i s).1.length<=_;unfold E7;omega
  ·show(s.aC++[_]).length=_;rw[ao,h.aC];rfl
  ·show 0<=(E7 items i s).2.1/\(E7 items i s).2.1<=_;unfold E7;simp only at a2 a3;have e2:(((i+1:Nat):Int))*65537*268435456=(i:Int)*65537*268435456+65537*268435456:=by
    rw[Int.natCast_add,Int.natCast_one,Int.add_mul,Int.add_mul];rfl
   constructor
   ·omega
   ·rw[e2];omega
  ·show IF items (i+1) (if 0<=Ba items i then(i:Int)else-1);split
   ·exact .inr ⟨i,rfl,hi,hd⟩
   ·exact .inl rfl
 ·rw[ab hm];have h2:=h.len;have h3:=h.aE;have e1:(i+1)*65537=i*65537+65537:=by rw[Nat.succ_mul]
  refine⟨by show s.aE.length<=_;rw[e1];exact cd h3 (Nat.le_add_right _ _),?_,?_,?_,h.frm,h.at_⟩
  ·show(s.aC++[_]).length=_;rw[ao,h.aC];rfl
  ·have e2:(((i+1:Nat):Int))*65537*268435456=(i:Int)*65537*268435456+65537*268435456:=by
    rw[Int.natCast_add,Int.natCast_one,Int.add_mul,Int.add_mul];rfl
   show 0<=s.len/\s.len<=_;rw[e2];omega
  ·show 0<=Qc (itA items i) s.speed/\Qc (itA items i) s.speed<=30000;unfold Qc;split
   ·rename_i h8;exact Z3c (hright i hi) h8.1
   ·exact h.speed
theorem Zc5 (items:List Itm):BOK items 0 ⟨[],[],0,0,-1,false,⟨0,0,0⟩,⟨0,0,0⟩⟩:=by
 refine⟨Nat.zero_le _,cq,⟨cg _,?_⟩,⟨cg _,?_⟩, .inl rfl,λh=>by cases h⟩
 ·show(0:Int)<=((0:Nat):Int)*65537*268435456;rw[show((0:Nat):Int)=0 from rfl,Int.zero_mul,Int.zero_mul];exact cg _
 ·show(0:Int)<=30000;omega
theorem Kq {items:List Itm} (hright:∀j<items.length,¬Bu (itA items j)):∀i,i<=items.length->BOK items i (Ao items i)
 |0,_=>by rw[Ao];exact Zc5 items
 |i+1,hi=>by rw[Ao];exact Q9r (by omega) hright (Kq hright i (by omega))
noncomputable def Az (items:List Itm):Pth:=⟨(Ao items items.length).start,(Ao items items.length).aE,(Ao items items.length).aC⟩
def Fv:Pt->List Sgm->Pt
 |a,[]=>a
 |_,g::l=>Fv g.to l
abbrev B26:Nat:=67108864
def Ok:Pt->List Sgm->Prop
 |_,[]=>True
 |a,g::l=>g.len=AE a g.to/\g.to≠a/\bd B26 g.to/\Ok g.to l
def Aw:List Sgm->Int
 |[]=>0
 |g::l=>g.len+Aw l
theorem SY (g:Sgm):∀(a:Pt) (l:List Sgm),Fv a (l++[g])=g.to
 |_,[]=>rfl
 |_,h::l=>by simp only[ax,Fv];exact SY g h.to l
theorem Qx5 {g:Sgm}:∀{a:Pt} {l:List Sgm},Ok a l->g.len=AE (Fv a l) g.to->g.to≠Fv a l->bd B26 g.to->Ok a (l++[g])
 |a,[],_,h1,h2,h3=>⟨h1,h2,h3,trivial⟩
 |a,k::l,h,h1,h2,h3=>⟨h.1,h.2.1,h.2.2.1,Qx5 h.2.2.2 h1 h2 h3⟩
theorem SN (g:Sgm):∀(l:List Sgm),Aw (l++[g])=Aw l+g.len
 |[]=>by simp[Aw]
 |k::l=>by simp only[ax,Aw];rw[SN g l];omega
def Qeg (start:Pt) (s:List Sgm×Int×Pt):Prop:=Ok start s.1/\Fv start s.1=s.2.2/\Aw s.1=s.2.1
theorem Qoc {start:Pt} {item feed lead:Int}:∀(pts:List Pt) (s:List Sgm×Int×Pt),(∀p∈pts,bd B26 p)->Qeg start s->Qeg start (pts.foldl (AT item feed lead) s)
 |[],s,_,h=>h
 |q::pts,s,hp,h=>by
  rw[List.foldl_cons];refine Qoc pts _ (λp hp'=>hp p (by simp[hp'])) ?_;unfold AT;by_cases c:q=s.2.2
  ·rw[aa c];exact h
  ·rw[ab c];obtain⟨h1,h2,h3⟩:=h;refine⟨Qx5 h1 (by rw[h2]) (by rw[h2];exact c) (hp q (by simp)),SY _ _ _,?_⟩;simp only[SN,h3]
structure BInv (s : BSt) : Prop where
 begun:s.begun=true->bd B26 s.start/\Qeg s.start (s.aE,s.len,s.at_)
 empty:s.begun=false->s.aE=[]/\s.len=0/\s.start=⟨0,0,0⟩
theorem Zh7 {items:List Itm} {i:Nat} {s:BSt} (hi:i<items.length) (hright:∀j<items.length,¬Bu (itA items j)) (hok:BOK items i s) (h:BInv s):BInv (BR items i s):=by
 have hall:∀k<items.length,AD (itA items k)->drawn (itA items k):=λk hk hm=>(KM (hright k hk) hm).1;unfold BR;by_cases hm:AD (itA items i)
 ·rw[aa hm];have hd:=hall i hi hm;obtain⟨p1,-⟩:=Qpb hd hok.frm hall;refine⟨λ_=> ?_,λhb=>(by cases hb)⟩;unfold E7;by_cases hb:s.begun=true
  ·rw[aa hb,aa hb];obtain⟨g1,g2⟩:=h.begun hb;exact⟨g1,Qoc _ _ p1 g2⟩
  ·rw[ab hb,ab hb];obtain⟨g1,g2,g3⟩:=h.empty (by simpa using hb);refine⟨AZ (FC hd.1.2.1) (by decide),Qoc _ _ p1 ?_⟩;rw[g1,g2];exact⟨trivial,rfl,rfl⟩
 ·rw[ab hm];exact⟨h.begun,h.empty⟩
theorem Jj {items:List Itm} (hright:∀j<items.length,¬Bu (itA items j)):∀i,i<=items.length->BInv (Ao items i)
 |0,_=>by rw[Ao];exact⟨λh=>(by cases h),λ_=>⟨rfl,rfl,rfl⟩⟩
 |i+1,hi=>by rw[Ao];exact Zh7 (by omega) hright (Kq hright i (by omega)) (Jj hright i (by omega))
structure GoodPath (p : Pth) : Prop where
 start:bd B26 p.start
 aE:Ok p.start p.aE
 count:p.aE.length<=983055
theorem SF {items:List Itm} (hlen:items.length<=15) (hc:CF items=0):GoodPath (Az items):=by
 have hright:=(KI hc).2;have h1:=Kq hright items.length (bz _);have h2:=Jj hright items.length (bz _);have hs:=h1.aE;unfold Az;by_cases hb:(Ao items items.length).begun=true
 ·obtain⟨g1,g2,-⟩:=h2.begun hb;exact⟨g1,g2,by simp only;omega⟩
 ·obtain⟨g1,-,g3⟩:=h2.empty (by simpa using hb);refine⟨?_,?_,?_⟩
  ·simp only[g3];unfold bd;simp
  ·simp only[g1];trivial
  ·simp only[g1];simp
theorem Q5u {a b:Pt} (ha:bd B26 a) (hb:bd B26 b) (h:b≠a):1<=AE a b/\AE a b<=268435456:=by
 obtain⟨-,h1,h2,-⟩:=Qk3 ha hb;have h3:sqD a b≠0:=λe=>h (YR.1 e).symm;have h4:=QM a b;have h5:=IC ha hb;refine⟨?_,h5.2⟩;by_cases c:AE a b=0
 ·rw[c]at h2;omega
 ·omega
theorem T1 {a:Pt} {l:List Sgm} (ha:bd B26 a) (h:Ok a l):∀g∈l,1<=g.len/\g.len<=268435456/\bd B26 g.to:=by
 induction l generalizing a with
 |nil=>simp
 |cons k l ih=>
  obtain⟨h1,h2,h3,h4⟩:=h;intro g hg;rcases ay.1 hg with rfl|hg
  ·rw[h1];exact⟨(Q5u ha h3 h2).1,(Q5u ha h3 h2).2,h3⟩
  ·exact ih h3 h4 g hg
theorem Qmq {l:List Sgm} (h:∀g∈l,1<=g.len/\g.len<=268435456/\bd B26 g.to):(l.length:Int)<=Aw l/\Aw l<=l.length*268435456:=by
 induction l with
 |nil=>simp[Aw]
 |cons k l ih=>
  have:=ih λg hg=>h g (by simp[hg]);have:=h k (by simp);simp only[Aw,bf];omega
def Nu (a:Pt) (g:Sgm) (d:Int):Pt:=⟨a.x+Bo ((g.to.x-a.x)*d) g.len,a.y+Bo ((g.to.y-a.y)*d) g.len,a.z+Bo ((g.to.z-a.z)*d) g.len⟩
def atL:Pt->List Sgm->Int->Pt
 |a,[],_=>a
 |a,g::l,s=>if s<g.len then Nu a g s else atL g.to l (s-g.len)
def atP (p:Pth) (s:Int):Pt:=atL p.start p.aE (max s 0)
def Bl:List Sgm->Int->Nat×Int
 |[],s=>(0,s)
 |[g],s=>if s<g.len then(0,s)else(0,g.len)
 |g::h::l,s=>if s<g.len then(0,s)else((Bl (h::l) (s-g.len)).1+1,(Bl (h::l) (s-g.len)).2)
def Ef (a:Pt) (l:List Sgm) (i:Nat):Pt:=Fv a (l.take i)
def sg0:Sgm:=⟨⟨0,0,0⟩,0,0,0,0⟩
def sgA (l:List Sgm) (i:Nat):Sgm:=l.getD i sg0
theorem OK {l:List Sgm} {i:Nat} (h:i<l.length):sgA l i=l[i]:=by unfold sgA;simp[h]
theorem L2 {l:List Sgm} {i:Nat} (h:i<l.length):nth [] (l.map AB) i=AB (sgA l i):=by rw[OK h];exact Je _ _ _ _ h
theorem GL {l:List Sgm} {i:Nat} (h:i<l.length):sgA l i∈l:=by rw[OK h];exact bn h
theorem JK (a:Pt) (l:List Sgm):Ef a l 0=a:=by unfold Ef;simp[Fv]
theorem Qmm (a:Pt) (g:Sgm) (l:List Sgm) (i:Nat):Ef a (g::l) (i+1)=Ef g.to l i:=by unfold Ef;rw[List.take_succ_cons];rfl
theorem Qcn (g:Sgm) (l:List Sgm) (i:Nat):sgA (g::l) (i+1)=sgA l i:=by unfold sgA;simp
theorem T4:∀{l:List Sgm} {i:Nat} {a:Pt},i<l.length->Ef a l (i+1)=(sgA l i).to
 |g::l,0,a,_=>by rw[Qmm,JK];rfl
 |g::l,i+1,a,h=>by rw[Qmm,Qcn];exact T4 (by simpa using h)
theorem Qe5 {x n:Int} (hn:0<n):Bo (x*n) n=x:=R6 hn
theorem Zmr {a:Pt} {g:Sgm} (h:0<g.len):Nu a g g.len=g.to:=by
 unfold Nu;rw[Qe5 h,Qe5 h,Qe5 h];rw[DZ];exact⟨by simp only;omega,by simp only;omega,by simp only;omega⟩
theorem Qok:∀{l:List Sgm} {a:Pt} {s:Int},l≠[]->(∀g∈l,1<=g.len)->0<=s->
  (Bl l s).1<l.length/\0<=(Bl l s).2/\(Bl l s).2<=(sgA l (Bl l s).1).len/\atL a l s=Nu (Ef a l (Bl l s).1) (sgA l (Bl l s).1) (Bl l s).2
 |[],_,_,h,_,_=>absurd rfl h
 |[g],a,s,_,hg,hs=>by
  have h1:=hg g (by simp);unfold Bl;by_cases c:s<g.len
  ·rw[aa c];refine⟨by simp,hs,by show s<=g.len;omega,?_⟩;unfold atL;rw[aa c,JK];rfl
  ·rw[ab c];refine⟨by simp,by simp only;omega,cg _,?_⟩;unfold atL;rw[ab c,JK];show atL g.to [] _=Nu a g g.len;rw[Zmr (by omega)];rfl
 |g::h::l,a,s,_,hg,hs=>by
  have h1:=hg g (by simp);unfold Bl;by_cases c:s<g.len
  ·rw[aa c];refine⟨by simp,hs,by show s<=g.len;omega,?_⟩;unfold atL;rw[aa c,JK];rfl
  ·rw[ab c];obtain⟨k1,k2,k3,k4⟩:=Qok (l:=h::l) (a:=g.to) (s:=s-g.len) (by simp) (λk hk=>hg k (by simp at hk⊢;exact .inr hk)) (by omega);refine⟨by simp at k1⊢;omega,k2,?_,?_⟩
   ·simp only[Qcn];exact k3
   ·rw[show atL a (g::h::l) s=atL g.to (h::l) (s-g.len)from by rw[atL,ab c]];simp only[Qmm,Qcn];exact k4
theorem Zo {x n:Int} {A:Nat} (hn:0<n) (h: -(A*n)<=x/\x<=A*n):(Bo x n).natAbs<=A:=by
 have m1:=RC hn h.2;have m2:=RC hn h.1;rw[show-((A:Int)*n)= -(A:Int)*n by rw[Int.neg_mul]]at m2;rw[R6 hn]at m1 m2;omega
theorem Qu1 {D L d:Int} (hL:0<L) (hD:D.natAbs<=134217728) (hd:0<=d/\d<=L):(Bo (D*d) L).natAbs<=134217728:=by
 refine Zo hL ?_;have h1:D*d<=134217728*d:=Int.mul_le_mul_of_nonneg_right (by omega) hd.1;have h2: -134217728*d<=D*d:=Int.mul_le_mul_of_nonneg_right (by omega) hd.1;have e:((134217728:Nat):Int)=134217728:=rfl;rw[e];omega
structure SegOK (l : List Sgm) : Prop where
 seg:∀g∈l,1<=g.len/\g.len<=268435456/\bd B26 g.to
 count:l.length<=983055
theorem GoodPath.ok {p:Pth} (h:GoodPath p):SegOK p.aE:=⟨T1 h.start h.aE,h.count⟩
theorem Q4r {a:Pt} {l:List Sgm} (ha:bd B26 a) (h:SegOK l) {i:Nat} (hi:i<l.length):bd B26 (Ef a l i):=by
 cases i with
 |zero=>rw[JK];exact ha
 |succ i=>rw[T4 (by omega)];exact(h.seg _ (GL (by omega))).2.2
theorem Quc {l:List Sgm} (h:SegOK l):∀(k i:Nat) (v:Int),i+k=l.length->0<=v->v+k*268435456<=4000000000000000000->
  Am Rk [I v, .view Ai (l.map AB),I l.length,I i]=some (1,[I (v+Aw (l.drop i))])
 |0,i,v,hi,_,_=>by
  refine Bf ?_ (by simp);rw[Q9c,A3 (by omega),List.drop_of_length_le (by omega)];simp[Aw]
 |k+1,i,v,hi,h0,h1=>by
  have hlt:i<l.length:=by omega
  have hcn:=h.count;have hg:=h.seg _ (GL hlt);have hst:Rk [I v, .view Ai (l.map AB),I l.length,I i]=some (0,[I (v+(sgA l i).len), .view Ai (l.map AB),I l.length,I (i+1:Nat)]):=by
   rw[Q9c];simp only[go_sem,ag,aj,L2 hlt];rw[aa (by omega),aa (by omega),Ae (x:=v+_) (by omega),Ae (by omega)];rfl
  rw[BC hst,Quc h k (i+1) _ (by omega) (by omega) (by omega)];have e:l.drop i=sgA l i::l.drop (i+1):=by rw[OK hlt];exact OY _ _ hlt
  rw[e];simp only[Aw,Int.add_assoc]
theorem Qcq {p:Pth} (h:SegOK p.aE):IW (Bn p)=some [I (Aw p.aE)]:=by
 have hl:=Quc h p.aE.length 0 0 (by omega) (by omega) (by have:=h.count;omega);have hl':SZ [I 0, .view Ai (p.aE.map AB),I p.aE.length,I 0]=some (1,[I (0+Aw (p.aE.drop 0))]):=hl;rw[List.drop_zero,Int.zero_add]at hl';unfold IW;generalize SZ=N at*;rw[Z31];simp only[go_sem,ag,hl']
theorem Qvb {g h:Sgm} {l:List Sgm} {s:Int} (c: ¬s<g.len):Bl (g::h::l) s=((Bl (h::l) (s-g.len)).1+1,(Bl (h::l) (s-g.len)).2):=by rw[Bl,ab c]
theorem Qz2 {p:Pth} (h:SegOK p.aE):∀(k i:Nat) (s:Int),i+k=p.aE.length->1<=k->0<=s/\s<=9223372036854775807->
  Am Q9 (I s:: .view Ai (p.aE.map AB)::I p.aE.length::I i::Bn p)=some (1,[I (i+(Bl (p.aE.drop i) s).1:Nat),I (Bl (p.aE.drop i) s).2])
 |k+1,i,s,hi,_,hs=>by
  have hlt:i<p.aE.length:=by omega
  have hcnt:=h.count;have hg:=h.seg _ (GL hlt);have e:p.aE.drop i=sgA p.aE i::p.aE.drop (i+1):=by rw[OK hlt];exact OY _ _ hlt
  have hst:Q9 (I s:: .view Ai (p.aE.map AB)::I p.aE.length::I i::Bn p)=if s<(sgA p.aE i).len then some (1,[I i,I s])else if k=0 then some (1,[I i,I (sgA p.aE i).len])else some (0,I (s-(sgA p.aE i).len):: .view Ai (p.aE.map AB)::I p.aE.length::I (i+1:Nat)::Bn p):=by
   rw[Qtp];simp only[go_sem,ag,aj,L2 hlt];rw[aa (by omega),aa (by omega),Ae (x:=(p.aE.length:Int)-1) (by omega),Ae (x:=(i:Int)+1) (by omega)];by_cases c:s<(sgA p.aE i).len
   ·rw[aa c,aa c]
   ·rw[ab c,ab c];by_cases c2:k=0
    ·rw[aa (by omega),aa c2]
    ·rw[ab (by omega),ab c2,Ae (by omega)];rfl
  by_cases c:s<(sgA p.aE i).len
  ·rw[aa c]at hst;rw[Bf hst (by simp),e];cases p.aE.drop (i+1)with
   |nil=>rw[Bl,aa c];rfl
   |cons b l=>rw[Bl,aa c];rfl
  ·rw[ab c]at hst;by_cases c2:k=0
   ·rw[aa c2]at hst;rw[Bf hst (by simp),e,List.drop_of_length_le (by omega),Bl,ab c];rfl
   ·rw[ab c2]at hst;rw[BC hst,Qz2 h k (i+1) _ (by omega) (by omega) (by omega),e];have e2:p.aE.drop (i+1)=sgA p.aE (i+1)::p.aE.drop (i+1+1):=by rw[OK (show i+1<p.aE.length by omega)];exact OY _ _ (by omega)
    rw[e2,Qvb c,<-e2];simp only;rw[show i+1+(Bl (p.aE.drop (i+1)) (s-(sgA p.aE i).len)).1=i+((Bl (p.aE.drop (i+1)) (s-(sgA p.aE i).len)).1+1) by omega]
theorem Qcj {p:Pth} (h:SegOK p.aE) {s:Int} (hs:i64 s):EV (Bn p++[I s])=if p.aE=[]then some [I (-1),I 0]else some [I (Bl p.aE (max s 0)).1,I (Bl p.aE (max s 0)).2]:=by
 unfold i64 at hs;have hmx:mx s 0=max s 0:=mx_max' s 0;by_cases c:p.aE=[]
 ·rw[aa c];have hend:Mw (I (max s 0):: .view Ai []::I 0::I 0::Bn p)=some (2,[]):=by
   refine Bf ?_ (by simp);rw[Qtp,A3 (by omega)]
  unfold EV;generalize Mw=N at*;have he:=Q34 N p.start.x p.start.y p.start.z (p.aE.map AB) (p.aC.map Au) s;refine Eq.trans he ?_;rw[hmx,c];have hend':N [I (max s 0), .view Ai [],I 0,I 0,I p.start.x,I p.start.y,I p.start.z, .view Ai [], .view AH (p.aC.map Au)]=some (2,[]):=by
   have:=hend;unfold Bn at this;rw[c]at this;exact this
  simp only[go_sem,dk,cq];simp only[Int.natCast_zero];rw[hend'];simp
 ·rw[ab c];have hpos:0<p.aE.length:=by
   cases hh:p.aE with
   |nil=>exact absurd hh c
   |cons _ _=>simp
  have hL:=Qz2 h p.aE.length 0 (max s 0) (by omega) (by omega) (by omega);have hL':Mw [I (max s 0), .view Ai (p.aE.map AB),I p.aE.length,I 0,I p.start.x,I p.start.y,I p.start.z, .view Ai (p.aE.map AB), .view AH (p.aC.map Au)]=some (1,[I (0+(Bl (p.aE.drop 0) (max s 0)).1:Nat),I (Bl (p.aE.drop 0) (max s 0)).2]):=hL;rw[List.drop_zero,Nat.zero_add]at hL';unfold EV;generalize Mw=N at*;have he:=Q34 N p.start.x p.start.y p.start.z (p.aE.map AB) (p.aC.map Au) s;refine Eq.trans he ?_;rw[hmx];simp only[go_sem,ag,hL']
 where mx_max' (a b:Int):mx a b=max a b:=by unfold mx;rw[Int.max_def];split<;>split<;>omega
theorem Zl8 {MM MF:Fn} {p:Pth} (h:GoodPath p) {s:Int} (hF:MF (Bn p++[I s])=if p.aE=[]then some [I (-1),I 0]else some [I (Bl p.aE (max s 0)).1,I (Bl p.aE (max s 0)).2])
  (hM:∀{a b c:Int},a.natAbs<=134217728->b.natAbs<=268435456->(0<c/\c<=268435456)->MM [I a,I b,I c,I 2]=some [I (Bo (a*b) c),B true]):
  Qd6 MM MF (Bn p++[I s])=some (ptR (atP p s)):=by
 have he:=Zn5 (AJ:=MM) (DG:=MF) p.start.x p.start.y p.start.z (p.aE.map AB) (p.aC.map Au) s;refine Eq.trans he ?_;simp only[ax,az,Bn]at hF;unfold atP;by_cases c:p.aE=[]
 ·rw[aa c]at hF;simp only[hF,go_sem];rw[aa (by omega),c];rfl
 ·rw[ab c]at hF;have hok:=h.ok;obtain⟨f1,f2,f3,f4⟩:=Qok (l:=p.aE) (a:=p.start) (s:=max s 0) c (λg hg=>(hok.seg g hg).1) (by omega);rw[f4];have hg:=hok.seg _ (GL f1);have hv:=Q4r h.start hok f1;have hr:=L2 f1;have hcnt:=hok.count;generalize(Bl p.aE (max s 0)).1=i at*;generalize(Bl p.aE (max s 0)).2=d at*;have hdn:d.natAbs<=268435456:=by omega
  have fin:∀{a:Pt},bd B26 a->(MM [I (wrap .i64 ((sgA p.aE i).to.x-a.x)),I d,I (sgA p.aE i).len,I 2]=some [I (Bo (((sgA p.aE i).to.x-a.x)*d) (sgA p.aE i).len),B true]/\wrap .i64 (a.x+Bo (((sgA p.aE i).to.x-a.x)*d) (sgA p.aE i).len)=a.x+Bo (((sgA p.aE i).to.x-a.x)*d) (sgA p.aE i).len)/\
    (MM [I (wrap .i64 ((sgA p.aE i).to.y-a.y)),I d,I (sgA p.aE i).len,I 2]=some [I (Bo (((sgA p.aE i).to.y-a.y)*d) (sgA p.aE i).len),B true]/\wrap .i64 (a.y+Bo (((sgA p.aE i).to.y-a.y)*d) (sgA p.aE i).len)=a.y+Bo (((sgA p.aE i).to.y-a.y)*d) (sgA p.aE i).len)/\
    (MM [I (wrap .i64 ((sgA p.aE i).to.z-a.z)),I d,I (sgA p.aE i).len,I 2]=some [I (Bo (((sgA p.aE i).to.z-a.z)*d) (sgA p.aE i).len),B true]/\wrap .i64 (a.z+Bo (((sgA p.aE i).to.z-a.z)*d) (sgA p.aE i).len)=a.z+Bo (((sgA p.aE i).to.z-a.z)*d) (sgA p.aE i).len):=by
   intro a ha;have key:∀u v:Int,u.natAbs<=B26->v.natAbs<=B26->MM [I (wrap .i64 (u-v)),I d,I (sgA p.aE i).len,I 2]=some [I (Bo ((u-v)*d) (sgA p.aE i).len),B true]/\wrap .i64 (v+Bo ((u-v)*d) (sgA p.aE i).len)=v+Bo ((u-v)*d) (sgA p.aE i).len:=by
    intro u v hu hv;have h1:=Im hu hv;rw[H3 h1 (by decide)];refine⟨hM (cd h1 (by decide)) hdn (by omega),?_⟩;exact H3 (SX hv (Qu1 (by omega) (cd h1 (by decide)) ⟨f2,f3⟩)) (by decide)
   exact⟨key _ _ hg.2.2.1 ha.1,key _ _ hg.2.2.2.1 ha.2.1,key _ _ hg.2.2.2.2 ha.2.2⟩
  have hin:(0:Int)<=(i:Int)/\(i:Int)<(p.aE.length:Int):=by omega
  simp only[hF,go_sem,ag,aj,hr,aa hin];rw[ab (by omega)];by_cases c0:i=0
  ·subst c0;obtain⟨⟨m1,w1⟩,⟨m2,w2⟩,m3,w3⟩:=fin h.start;rw[ab (by omega),JK];simp only[m1,m2,m3,go_sem,w1,w2,w3];rfl
  ·obtain⟨j,rfl⟩:∃j,i=j+1:=⟨i-1,by omega⟩;have hj:=L2 (l:=p.aE) (i:=j) (by omega);have hgj:=hok.seg _ (GL (l:=p.aE) (i:=j) (by omega));obtain⟨⟨m1,w1⟩,⟨m2,w2⟩,m3,w3⟩:=fin hgj.2.2;rw[aa (by omega),T4 (by omega)];have e1:wrap .i64 (((j+1:Nat):Int)-1)=(j:Int):=by rw[Ae (by omega)];omega
   rw[e1];simp only[aj,hj,go_sem];rw[aa (by omega)];simp only[m1,m2,m3,go_sem,w1,w2,w3];rfl
theorem Quk {a b c:Int} (ha:a.natAbs<=134217728) (hb:b.natAbs<=268435456) (hc:0<c/\c<=268435456):Bz [I a,I b,I c,I 2]=some [I (Bo (a*b) c),B true]:=by
 have:=dp ha hb;exact S3 (by unfold i64;omega) (by unfold i64;omega) (by omega) (by omega)
theorem Zxf {p:Pth} (h:GoodPath p) {s:Int} (hs:i64 s):PS (Bn p++[I s])=some (ptR (atP p s)):=
 Zl8 h (Qcj h.ok hs) Quk
theorem O7 {p:Pth} (h:GoodPath p):0<=Aw p.aE/\Aw p.aE<=263886834032640:=by
 have h1:=Qmq h.ok.seg;have h2:=h.count;omega
theorem Za6 {α:Type} (d x:α) (l:List α):nth d (x::l) 40=nth d l 39:=by simp[nth]
theorem Zss {α:Type} (d x:α) (l:List α):nth d (x::l) 41=nth d l 40:=by simp[nth]
theorem Zu2 {α:Type} (d x:α) (l:List α):nth d (x::l) 42=nth d l 41:=by simp[nth]
theorem Z1l {α:Type} (d x:α) (l:List α):nth d (x::l) 43=nth d l 42:=by simp[nth]
theorem Zq7 {α:Type} (d x:α) (l:List α):nth d (x::l) 44=nth d l 43:=by simp[nth]
theorem Zei {α:Type} (d x:α) (l:List α):nth d (x::l) 45=nth d l 44:=by simp[nth]
theorem Zfc {α:Type} (d x:α) (l:List α):nth d (x::l) 46=nth d l 45:=by simp[nth]
theorem Zdu {α:Type} (d x:α) (l:List α):nth d (x::l) 47=nth d l 46:=by simp[nth]
theorem Zvh {α:Type} (d x:α) (l:List α):nth d (x::l) 48=nth d l 47:=by simp[nth]
theorem Za4 {α:Type} (d x:α) (l:List α):nth d (x::l) 49=nth d l 48:=by simp[nth]
theorem Zeb {α:Type} (d x:α) (l:List α):nth d (x::l) 50=nth d l 49:=by simp[nth]
theorem Zv4 {α:Type} (d x:α) (l:List α):nth d (x::l) 51=nth d l 50:=by simp[nth]
theorem Zgl {α:Type} (d x:α) (l:List α):nth d (x::l) 52=nth d l 51:=by simp[nth]
theorem Zay {α:Type} (d x:α) (l:List α):nth d (x::l) 53=nth d l 52:=by simp[nth]
theorem Z36 {α:Type} (d x:α) (l:List α):nth d (x::l) 54=nth d l 53:=by simp[nth]
theorem Zps {α:Type} (d x:α) (l:List α):nth d (x::l) 55=nth d l 54:=by simp[nth]
attribute [go_sem] Za6 Zss Zu2 Z1l Zq7 Zei Zfc Zdu Zvh Za4 Zeb Zv4 Zgl Zay Z36 Zps
theorem Kj (a b:Int):mn a b=min a b:=by unfold mn;rw[Int.min_def];split<;>split<;>omega
theorem NX (a b:Int):mx a b=max a b:=by unfold mx;rw[Int.max_def];split<;>split<;>omega
def T5 (now a b mv:Int):Int:=if b>a then mv else if b<a then-mv else now
def Dt (now a b:Pt) (mv:Int):Pt:=⟨T5 now.x a.x b.x mv,T5 now.y a.y b.y mv,T5 now.z a.z b.z mv⟩
def slk (was dirs n v:Int):Int:=if was=dirs then v else max v n
def CQ (x:Ax3) (was dirs:Pt):Int:=slk was.z dirs.z x.c.back (slk was.y dirs.y x.b.back (slk was.x dirs.x x.a.back 0))
def pc0:Pce:=⟨0,0,0,0,⟨0,0,0⟩,⟨0,0,0⟩⟩
def AX (l:List Pce):Pce:=l.getD (l.length-1) pc0
def D9 (t:Trk) (c:Pce):Trk:=
 if t.aD≠[]/\c.move≠0/\(AX t.aD).move=c.move/\(AX t.aD).dirs=c.dirs then
  {t with aD:=t.aD.set (t.aD.length-1) {AX t.aD with units:=(AX t.aD).units+c.units},length:=t.length+c.units}
 else{t with aD:=t.aD++[{c with at_:=t.length}],length:=t.length+c.units}
def Av (l:List Sgm) (i:Nat):Int:=Aw (l.take i)
def B4 (x:Ax3) (mv:Int) (a b:Pt) (s units:Int) (st:Trk×Pt):Trk×Pt:=
 (D9 (if CQ x st.2 (Dt st.2 a b mv) > 0 then D9 st.1 ⟨0, CQ x st.2 (Dt st.2 a b mv), s, 0, st.2, Dt st.2 a b mv⟩ else st.1)
  ⟨0,units,s,mv,Dt st.2 a b mv,Dt st.2 a b mv⟩,Dt st.2 a b mv)
def Ct (p:Pth) (x:Ax3) (mv lo hi:Int) (i:Nat) (s:Trk×Pt):Trk×Pt:=
 if max (Av p.aE i) lo<min (Av p.aE (i+1)) hi then
  B4 x mv (Ef p.start p.aE i) (sgA p.aE i).to (if mv<0 then min (Av p.aE (i+1)) hi else max (Av p.aE i) lo) (min (Av p.aE (i+1)) hi-max (Av p.aE i) lo) s
 else s
def C5 (n:Nat) (mv:Int) (j:Nat):Nat:=if mv<0 then n-1-j else j
def Bi (p:Pth) (x:Ax3) (mv lo hi:Int) (t0:Trk×Pt):Nat->Trk×Pt
 |0=>t0
 |j+1=>Ct p x mv lo hi (C5 p.aE.length mv j) (Bi p x mv lo hi t0 j)
def A5 (n hi:Int):Int:=max 0 (min n hi)
def Bb (p:Pth) (x:Ax3) (d:Pt) (from_ to:Int):Trk:=
 let n:=Aw p.aE
 let f:=A5 from_ n
 let t:=A5 to n
 (Bi p x (if f>t then-1 else 1) (min f t) (max f t) (⟨[],0,f,d⟩,d) p.aE.length).1
structure Ax3OK (x : Ax3) : Prop where
 a:0<=x.a.back/\x.a.back<=1000
 b:0<=x.b.back/\x.b.back<=1000
 c:0<=x.c.back/\x.c.back<=1000
theorem T_ {x:Ax3} (h:Ax3OK x) (a b:Pt):0<=CQ x a b/\CQ x a b<=1000:=by
 obtain⟨h1,h2,h3⟩:=h;unfold CQ slk
 (repeat' split)<;>omega
structure TB (t : Trk) (n m : Int) : Prop where
 count:(t.aD.length:Int)<=n
 len:0<=t.length/\t.length<=m
 each:∀c∈t.aD,0<=c.units/\c.units<=t.length
theorem Q7l {l:List Pce} (h:l≠[]):AX l∈l:=by
 have hp:0<l.length:=by cases l with
  |nil=>exact absurd rfl h
  |cons _ _=>simp
 have hlt:l.length-1<l.length:=by omega
 unfold AX;rw[List.getD_eq_getElem?_getD,ai hlt,Option.getD_some];exact bn _
theorem Qhv {t:Trk} {n m:Int} (h:TB t n m) {c:Pce} {k:Int} (hc:0<=c.units/\c.units<=k):TB (D9 t c) (n+1) (m+k):=by
 obtain⟨h1,h2,h3⟩:=h;unfold D9;by_cases g:t.aD≠[]/\c.move≠0/\(AX t.aD).move=c.move/\(AX t.aD).dirs=c.dirs
 ·rw[aa g];refine⟨by simp only[List.length_set];omega,by simp only;omega,?_⟩;intro q hq;rcases List.mem_or_eq_of_mem_set hq with hq|rfl
  ·have:=h3 q hq;simp only;omega
  ·have:=h3 _ (Q7l g.1);simp only;omega
 ·rw[ab g];refine⟨by simp only[ao,bf,cq];omega,by simp only;omega,?_⟩;intro q hq;rcases bm.1 hq with hq|hq
  ·have:=h3 q hq;simp only;omega
  ·rw[dm]at hq;subst hq;simp only;omega
theorem Qub (t:Trk) (c:Pce):(D9 t c).start=t.start/\(D9 t c).dirs=t.dirs:=by
 unfold D9;split<;>exact⟨rfl,rfl⟩
theorem Rp (l:List Sgm):Av l 0=0:=by unfold Av;rw[List.take_zero];rfl
theorem Nl {l:List Sgm} {i:Nat} (h:i<l.length):Av l (i+1)=Av l i+(sgA l i).len:=by
 unfold Av;rw[List.take_add_one,ai h,Option.toList_some,SN,OK h]
theorem Q4q (l:List Sgm):Av l l.length=Aw l:=by unfold Av;rw[List.take_length]
theorem Qj2 {l:List Sgm} (h:SegOK l):∀i,i<=l.length->0<=Av l i/\Av l i<=i*268435456
 |0,_=>by rw[Rp];simp
 |i+1,hi=>by
  have:=Qj2 h i (by omega);have:=h.seg _ (GL (show i<l.length by omega));rw[Nl (by omega)];omega
theorem Zve {p:Pth} {x:Ax3} {mv lo hi:Int} {i:Nat} {s:Trk×Pt} {n m:Int} (hx:Ax3OK x) (hp:SegOK p.aE) (hi':i<p.aE.length) (h:TB s.1 n m):TB (Ct p x mv lo hi i s).1 (n+2) (m+268436456):=by
 have hl:=hp.seg _ (GL hi');have e:=Nl hi';unfold Ct;by_cases c:max (Av p.aE i) lo<min (Av p.aE (i+1)) hi
 ·rw[aa c];unfold B4;have hs:=T_ hx s.2 (Dt s.2 (Ef p.start p.aE i) (sgA p.aE i).to mv);have e1:n+2=n+1+1:=by omega
  have e2:m+268436456=m+1000+268435456:=by omega
  rw[e1,e2];refine Qhv ?_ (by simp only;omega);by_cases c2:CQ x s.2 (Dt s.2 (Ef p.start p.aE i) (sgA p.aE i).to mv)>0
  ·rw[aa c2];exact Qhv h (by simp only;omega)
  ·rw[ab c2];exact⟨by have:=h.count;omega,by have:=h.len;omega,h.each⟩
 ·rw[ab c];exact⟨by have:=h.count;omega,by have:=h.len;omega,h.each⟩
theorem SK {n j:Nat} (mv:Int) (h:j<n):C5 n mv j<n:=by unfold C5;split<;>omega
theorem Qh4 {p:Pth} {x:Ax3} {mv lo hi f:Int} {d:Pt} (hx:Ax3OK x) (hp:SegOK p.aE):∀j,j<=p.aE.length->TB (Bi p x mv lo hi (⟨[],0,f,d⟩,d) j).1 (j*2) (j*268436456)
 |0,_=>⟨by simp[Bi],by simp[Bi],by simp[Bi]⟩
 |j+1,hj=>by
  have h:=Zve (mv:=mv) (lo:=lo) (hi:=hi) hx hp (SK mv (show j<p.aE.length by omega)) (Qh4 (mv:=mv) (lo:=lo) (hi:=hi) (f:=f) (d:=d) hx hp j (by omega));rw[Bi];have e1:((j+1:Nat):Int)*2=j*2+2:=by omega
  have e2:((j+1:Nat):Int)*268436456=j*268436456+268436456:=by omega
  rw[e1,e2];exact h
theorem Q66 {p:Pth} {x:Ax3} {mv lo hi:Int} {i:Nat} (s:Trk×Pt):(Ct p x mv lo hi i s).1.start=s.1.start/\(Ct p x mv lo hi i s).1.dirs=s.1.dirs:=by
 unfold Ct;by_cases c:max (Av p.aE i) lo<min (Av p.aE (i+1)) hi
 ·rw[aa c];unfold B4;simp only[Qub];by_cases c2:CQ x s.2 (Dt s.2 (Ef p.start p.aE i) (sgA p.aE i).to mv)>0
  ·rw[aa c2];simp only[Qub];exact⟨trivial,trivial⟩
  ·rw[ab c2];exact⟨rfl,rfl⟩
 ·rw[ab c];exact⟨rfl,rfl⟩
def Dv (x:Ax3) (mv:Int) (Q:Int->Pt->Prop):Int->Int->Pt->List Pce->Prop
 |_,_,_,[]=>True
 |at_,s,d,c::l=>c.at_=at_/\c.s=s/\1<=c.units/\((c.move=mv/\c.was=c.dirs/\CQ x d c.dirs=0/\∀k,0<=k->k<c.units->Q (s+mv*k) c.dirs)\/(c.move=0/\c.was=d/\c.units=CQ x d c.dirs))/\Dv x mv Q (at_+c.units) (s+c.move*c.units) c.dirs l
def BO:Int->List Pce->Int
 |a,[]=>a
 |a,c::l=>BO (a+c.units) l
def C4:Int->List Pce->Int
 |s,[]=>s
 |s,c::l=>C4 (s+c.move*c.units) l
def Iz:Pt->List Pce->Pt
 |d,[]=>d
 |_,c::l=>Iz c.dirs l
theorem R5 (c:Pce):∀(a:Int) (l:List Pce),BO a (l++[c])=BO a l+c.units
 |_,[]=>rfl
 |_,k::l=>R5 c _ l
theorem Td (c:Pce):∀(s:Int) (l:List Pce),C4 s (l++[c])=C4 s l+c.move*c.units
 |_,[]=>rfl
 |_,k::l=>Td c _ l
theorem SJ (c:Pce):∀(d:Pt) (l:List Pce),Iz d (l++[c])=c.dirs
 |_,[]=>rfl
 |_,k::l=>SJ c _ l
theorem Tx {x:Ax3} {mv:Int} {Q:Int->Pt->Prop} {c:Pce}:∀{at_ s:Int} {d:Pt} {l:List Pce},
  Dv x mv Q at_ s d (l++[c])↔Dv x mv Q at_ s d l/\c.at_=BO at_ l/\c.s=C4 s l/\1<=c.units/\((c.move=mv/\c.was=c.dirs/\CQ x (Iz d l) c.dirs=0/\∀k,0<=k->k<c.units->Q (C4 s l+mv*k) c.dirs)\/(c.move=0/\c.was=Iz d l/\c.units=CQ x (Iz d l) c.dirs))
 |at_,s,d,[]=>by
  simp only[az,Dv,BO,C4,Iz,and_true,true_and]
 |at_,s,d,k::l=>by
  simp only[ax,Dv,BO,C4,Iz];rw[Tx];constructor
  ·rintro⟨h1,h2,h4,h5,h6,h7⟩;exact⟨⟨h1,h2,h4,h5,h6⟩,h7⟩
  ·rintro⟨⟨h1,h2,h4,h5,h6⟩,h7⟩;exact⟨h1,h2,h4,h5,h6,h7⟩
theorem Z3i {l:List Pce} (h:l≠[]) (v:Pce):l.set (l.length-1) v=l.dropLast++[v]:=by
 have e:=List.dropLast_concat_getLast h;have hl:l.length-1=l.dropLast.length:=by rw[List.length_dropLast]
 conv=>lhs;arg 1;rw[<-e]
 rw[hl,List.set_append_right _ _ (bz _),Nat.sub_self];rfl
theorem Z4d {l:List Pce} (h:l≠[]):l.dropLast++[AX l]=l:=by
 have e:=List.dropLast_concat_getLast h;have hp:0<l.length:=by
  cases l with
  |nil=>exact absurd rfl h
  |cons _ _=>simp
 have hlt:l.length-1<l.length:=by omega
 have hl:AX l=l.getLast h:=by
  unfold AX;rw[List.getD_eq_getElem?_getD,ai hlt,Option.getD_some,List.getLast_eq_getElem]
 rw[hl];exact e
structure TC (x : Ax3) (mv : Int) (Q : Int -> Pt -> Prop) (t : Trk) (s : Int) (d : Pt) : Prop where
 ch:Dv x mv Q 0 t.start t.dirs t.aD
 len:BO 0 t.aD=t.length
 s:C4 t.start t.aD=s
 d:Iz t.dirs t.aD=d
theorem Qdu {x:Ax3} {mv:Int} {Q:Int->Pt->Prop} {t:Trk} {s:Int} {d:Pt} (hm:mv≠0) (h:TC x mv Q t s d) {c:Pce} (hs:c.s=s) (hu:1<=c.units)
  (hc:(c.move=mv/\c.was=c.dirs/\CQ x d c.dirs=0/\∀k,0<=k->k<c.units->Q (s+mv*k) c.dirs)\/(c.move=0/\c.was=d/\c.units=CQ x d c.dirs)):TC x mv Q (D9 t c) (s+c.move*c.units) c.dirs:=by
 obtain⟨h1,h2,h3,h4⟩:=h;unfold D9;by_cases g:t.aD≠[]/\c.move≠0/\(AX t.aD).move=c.move/\(AX t.aD).dirs=c.dirs
 ·rw[aa g];obtain⟨g1,g2,g3,g4⟩:=g;have e:=Z4d g1;rw[Z3i g1];rw[<-e]at h1 h2 h3 h4;rw[Tx]at h1;rw[R5]at h2;rw[Td]at h3;rw[SJ]at h4;generalize t.aD.dropLast=I at*;generalize AX t.aD=L at*;obtain⟨k0,k1,k2,k4,k5⟩:=h1
  replace hc:=hc.resolve_right λh=>g2 h.1
  replace k5:=k5.resolve_right λh=>g2 (g3▸h.1)
  obtain⟨c1,c2,-,c3⟩:=hc;obtain⟨q1,q2,q4,q3⟩:=k5;refine⟨?_,?_,?_,?_⟩
  ·show Dv x mv Q 0 t.start t.dirs (I++[_]);rw[Tx];refine⟨k0,k1,k2,by simp only;omega, .inl ⟨q1,q2,q4,?_⟩⟩;intro k hk0 hk1;simp only at hk1;by_cases hlt:k<L.units
   ·exact q3 k hk0 hlt
   ·have:=c3 (k-L.units) (by omega) (by omega);rw[<-h3,q1,<-g4]at this;have ea:C4 t.start I+mv*L.units+mv*(k-L.units)=C4 t.start I+mv*k:=by rw[Int.mul_sub];omega
    rw[ea]at this;exact this
  ·show BO 0 (I++[_])=t.length+c.units;rw[R5];simp only;omega
  ·show C4 t.start (I++[_])=s+c.move*c.units;rw[Td];simp only;rw[g3]at h3⊢;rw[Int.mul_add];omega
  ·show Iz t.dirs (I++[_])=c.dirs;rw[SJ];exact g4
 ·rw[ab g];refine⟨?_,?_,?_,?_⟩
  ·show Dv x mv Q 0 t.start t.dirs (t.aD++[_]);rw[Tx];refine⟨h1,h2.symm,by rw[h3];exact hs,hu,?_⟩;rw[h3,h4];exact hc
  ·show BO 0 (t.aD++[_])=t.length+c.units;rw[R5,h2]
  ·show C4 t.start (t.aD++[_])=s+c.move*c.units;rw[Td,h3]
  ·show Iz t.dirs (t.aD++[_])=c.dirs;rw[SJ]
theorem Zm4 (x:Ax3) (d:Pt):CQ x d d=0:=by unfold CQ slk;simp
theorem Qxa {x:Ax3} {mv:Int} {Q:Int->Pt->Prop} {t:Trk} {s units:Int} {d a b:Pt} (hm:mv≠0) (hx:∀w d,0<=CQ x w d) (h:TC x mv Q t s d) (hu:1<=units) (hQ:∀k,0<=k->k<units->Q (s+mv*k) (Dt d a b mv)):
  TC x mv Q (B4 x mv a b s units (t,d)).1 (s+mv*units) (Dt d a b mv):=by
 unfold B4;simp only;generalize Dt d a b mv=nx at*;by_cases c:CQ x d nx>0
 ·rw[aa c];have h1:=Qdu hm h (c:=⟨0,CQ x d nx,s,0,d,nx⟩) rfl (by simp only;omega) (.inr ⟨rfl,rfl,rfl⟩);simp only[Int.zero_mul,Int.add_zero]at h1;exact Qdu hm h1 (c:=⟨0,units,s,mv,nx,nx⟩) rfl hu (.inl ⟨rfl,rfl,Zm4 x nx,hQ⟩)
 ·rw[ab c];have:=hx d nx;exact Qdu hm h (c:=⟨0,units,s,mv,nx,nx⟩) rfl hu (.inl ⟨rfl,rfl,by simp only;omega,hQ⟩)
def Ku (l:List Sgm) (mv lo hi:Int) (j:Nat):Int:=if mv<0 then min (max (Av l (l.length-j)) lo) hi else min (max (Av l j) lo) hi
def Qur (p:Pth) (mv:Int) (Q:Int->Pt->Prop):Prop:=∀i,i<p.aE.length->∀(d:Pt) (s:Int),Av p.aE i<=s->s<=Av p.aE (i+1)->Av p.aE i<=s+mv->s+mv<=Av p.aE (i+1)->Q s (Dt d (Ef p.start p.aE i) (sgA p.aE i).to mv)
theorem Q5t {p:Pth} {x:Ax3} {mv lo hi f:Int} {d:Pt} {Q:Int->Pt->Prop} (hv:mv=1\/mv= -1) (hx:Ax3OK x) (hp:SegOK p.aE) (hlo:0<=lo/\lo<=hi/\hi<=Aw p.aE) (hf:(mv=1/\f=lo)\/(mv= -1/\f=hi)) (hQ:Qur p mv Q):
  ∀j,j<=p.aE.length->TC x mv Q (Bi p x mv lo hi (⟨[],0,f,d⟩,d) j).1 (Ku p.aE mv lo hi j) (Bi p x mv lo hi (⟨[],0,f,d⟩,d) j).2
 |0,_=>by
  have hs:Ku p.aE mv lo hi 0=f:=by
   unfold Ku;have:=Q4q p.aE;rcases hf with⟨rfl,rfl⟩|⟨rfl,rfl⟩
   ·rw[ab (by omega),Rp];omega
   ·rw[aa (by omega),Nat.sub_zero,this];omega
  rw[hs];exact⟨trivial,rfl,rfl,rfl⟩
 |j+1,hj=>by
  have ih:=Q5t hv hx hp hlo hf hQ (f:=f) (d:=d) j (by omega);have hil:=SK mv (show j<p.aE.length by omega);have hg:=hp.seg _ (GL hil);have hsucc:=Nl hil;have hq:=hQ _ hil;rw[Bi];unfold Ct;have hcase:(mv=1/\C5 p.aE.length mv j=j)\/(mv= -1/\C5 p.aE.length mv j=p.aE.length-1-j):=by
   unfold C5;rcases hv with rfl|rfl
   ·exact .inl ⟨rfl,ab (by omega)⟩
   ·exact .inr ⟨rfl,aa (by omega)⟩
  have hway:Ku p.aE mv lo hi j=(if mv<0 then min (max (Av p.aE (C5 p.aE.length mv j+1)) lo) hi else min (max (Av p.aE (C5 p.aE.length mv j)) lo) hi)/\
    Ku p.aE mv lo hi (j+1)=(if mv<0 then min (max (Av p.aE (C5 p.aE.length mv j)) lo) hi else min (max (Av p.aE (C5 p.aE.length mv j+1)) lo) hi):=by
   unfold Ku;rcases hcase with⟨rfl,e⟩|⟨rfl,e⟩
   ·rw[e,ab (by omega),ab (by omega),ab (by omega),ab (by omega)];exact⟨rfl,rfl⟩
   ·rw[e,aa (by omega),aa (by omega),aa (by omega),aa (by omega),show p.aE.length-1-j+1=p.aE.length-j by omega,show p.aE.length-(j+1)=p.aE.length-1-j by omega];exact⟨rfl,rfl⟩
  rw[hway.1]at ih;rw[hway.2];generalize C5 p.aE.length mv j=i at*;generalize Bi p x mv lo hi (⟨[],0,f,d⟩,d) j=w at*;obtain⟨t,dn⟩:=w;simp only at ih⊢;by_cases c:max (Av p.aE i) lo<min (Av p.aE (i+1)) hi
  ·rw[aa c];rcases hcase with⟨rfl,-⟩|⟨rfl,-⟩
   ·rw[ab (by omega)]at ih⊢;rw[ab (by omega)];have e1:min (max (Av p.aE i) lo) hi=max (Av p.aE i) lo:=by omega
    rw[e1]at ih;have:=Qxa (a:=Ef p.start p.aE i) (b:=(sgA p.aE i).to) (units:=min (Av p.aE (i+1)) hi-max (Av p.aE i) lo) (by omega) (λw d=>(T_ hx w d).1) ih (by omega) (λk h0 h1=>hq dn _ (by omega) (by omega) (by omega) (by omega));have e2:max (Av p.aE i) lo+1*(min (Av p.aE (i+1)) hi-max (Av p.aE i) lo)=min (max (Av p.aE (i+1)) lo) hi:=by omega
    rw[e2]at this;exact this
   ·rw[aa (by omega)]at ih⊢;rw[aa (by omega)];have e1:min (max (Av p.aE (i+1)) lo) hi=min (Av p.aE (i+1)) hi:=by omega
    rw[e1]at ih;have:=Qxa (a:=Ef p.start p.aE i) (b:=(sgA p.aE i).to) (units:=min (Av p.aE (i+1)) hi-max (Av p.aE i) lo) (by omega) (λw d=>(T_ hx w d).1) ih (by omega) (λk h0 h1=>hq dn _ (by omega) (by omega) (by omega) (by omega));have e2:min (Av p.aE (i+1)) hi+ -1*(min (Av p.aE (i+1)) hi-max (Av p.aE i) lo)=min (max (Av p.aE i) lo) hi:=by omega
    rw[e2]at this;exact this
  ·rw[ab c];have e:(if mv<0 then min (max (Av p.aE (i+1)) lo) hi else min (max (Av p.aE i) lo) hi)=(if mv<0 then min (max (Av p.aE i) lo) hi else min (max (Av p.aE (i+1)) lo) hi):=by
    split<;>omega
   rw[<-e];exact ih
end Go.Bm
