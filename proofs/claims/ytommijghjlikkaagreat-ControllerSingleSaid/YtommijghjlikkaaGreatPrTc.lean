/- laid together -/
import Derived.Test.YtommijghjlikkaaGreatMx3
import Derived.Test.YtommijghjlikkaaGreatBmTy
set_option linter.unusedVariables false
set_option linter.unusedSimpArgs false
set_option maxRecDepth 100000
open Go.IntKind (wrap)
namespace Go.Bm
theorem HY {x:Int} (h:i64 x):F7 [I x]=some [U (x.natAbs:Int)]:=by
  unfold i64 at h;unfold F7;rw[Zei];by_cases hx:x<0
  · rw[Dx hx,Ae (x:=x+1) (by omega),Ae (x:=0-(x+1)) (by omega),Hx (x:=0-(x+1)) (by omega),Hx (x:=0-(x+1)+1) (by omega)]
    rw[show 0-(x+1)+1=(x.natAbs:Int) by omega]
  · rw[AZ hx,Hx (x:=x) (by omega)]
    rw[show x=(x.natAbs:Int) by omega];simp
def sgn (a b:Int):Int:=if a=0 then 0 else if b=0 then 0 else if(a<0↔b<0)then 1 else-1
theorem Qar (a b:Int):Fs [I a,I b]=some [I (sgn a b)]:=by
  unfold Fs;rw[Qpu];simp only[go_sem];unfold sgn
  repeat' split
  all_goals rfl
def GI (a b:Nat):Int:=if a<b then-1 else if a=b then 0 else 1
def KA (a b:Int):Int:=if a<b then-1 else if a=b then 0 else 1
noncomputable def w64:Nat:=Classical.choose (⟨18446744073709551616,rfl⟩:∃n:Nat,n=18446744073709551616)
theorem BJ:w64=18446744073709551616:=Classical.choose_spec (⟨18446744073709551616,rfl⟩:∃n:Nat,n=18446744073709551616)
theorem Ow {x:Int} (h:i64 x):x.natAbs<w64:=by unfold i64 at h;have:=BJ;omega
theorem Q31 {x y:Nat} (hx:x<w64) (hy:y<w64):H0 [U x,U y]=some [U ((x*y/w64:Nat):Int),U ((x*y%w64:Nat):Int)]:=by
  rw[BJ]at hx hy;have hu:∀z:Nat,z<18446744073709551616->inU (z:Int)=true:=by
    intro z hz;have e64:FF=18446744073709551616:=rfl;simp only[inU,e64,Bool.and_eq_true,decide_eq_true_eq];omega
  show Sh (x:Int) (y:Int)=_;unfold Sh;rw[hu x hx,hu y hy,BJ];rfl
theorem Qun {x y:Nat} (hx:x<w64) (hy:y<w64):En [U x,U y]=some [U ((x*y/w64:Nat):Int),U ((x*y%w64:Nat):Int)]:=by
  unfold En;rw[Zqd,Q31 hx hy];simp only[go_sem]
theorem Qvb (a b c d:Nat) (hb:b<w64) (hd:d<w64):HU [U a,U b,U c,U d]=some [I (GI (a*w64+b) (c*w64+d))]:=by
  unfold HU;rw[Zgt];simp only[go_sem,and_true];unfold GI;simp only[BJ]at*;by_cases h1:a<c
  · rw[if_pos (by omega),if_pos (by omega)]
  · rw[if_neg (by omega)]
    by_cases h2:a=c
    · rw[if_pos (by omega)]
      by_cases h3:b<d
      · rw[if_pos (by omega),if_pos (by omega)]
      · rw[if_neg (by omega)]
        by_cases h4:b=d
        · rw[if_pos (by omega),if_neg (by omega),if_pos (by omega)]
        · rw[if_neg (by omega),if_neg (by omega),if_neg (by omega)]
    · rw[if_neg (by omega),if_neg (by omega),if_neg (by omega),if_neg (by omega)]
theorem QD (a b:Int):sgn a b*((a.natAbs*b.natAbs:Nat):Int)=a*b:=by
  unfold sgn;by_cases h1:a=0
  · subst h1;simp
  · by_cases h2:b=0
    · subst h2;simp
    · rw[if_neg h1,if_neg h2]
      have e:((a.natAbs*b.natAbs:Nat):Int)=(a.natAbs:Int)*(b.natAbs:Int):=by simp
      rw[e];by_cases h3:a<0<;>by_cases h4:b<0
      · rw[if_pos (by simp[h3,h4]),show(a.natAbs:Int)= -a by omega,show(b.natAbs:Int)= -b by omega,Int.neg_mul_neg,Int.one_mul]
      · rw[if_neg (by simp[h3,h4]),show(a.natAbs:Int)= -a by omega,show(b.natAbs:Int)=b by omega,Int.neg_mul,Int.one_mul,Int.neg_mul,Int.neg_neg]
      · rw[if_neg (by simp[h3,h4]),show(a.natAbs:Int)=a by omega,show(b.natAbs:Int)= -b by omega,Int.mul_neg,Int.neg_mul_neg,Int.one_mul]
      · rw[if_pos (by simp[h3,h4]),show(a.natAbs:Int)=a by omega,show(b.natAbs:Int)=b by omega,Int.one_mul]
theorem Sc (a b:Int):(sgn a b=0/\a*b=0)\/(sgn a b=1/\0<a*b)\/(sgn a b= -1/\a*b<0):=by
  have h:=QD a b;by_cases h1:a=0
  · subst h1;left;simp[sgn]
  · by_cases h2:b=0
    · subst h2;left;simp[sgn]
    · have hp:0<a.natAbs*b.natAbs:=Nat.mul_pos (by omega) (by omega)
      generalize a.natAbs*b.natAbs=p at*;generalize a*b=x at*;unfold sgn at h⊢;rw[if_neg h1,if_neg h2]at h⊢;by_cases h3:(a<0↔b<0)
      · rw[if_pos h3]at h⊢;right;left;exact⟨rfl,by omega⟩
      · rw[if_neg h3]at h⊢;right;right;exact⟨rfl,by omega⟩
theorem Zec {a b c d:Int}:(if sgn a b≠sgn c d then(if sgn a b<sgn c d then-1 else 1)else sgn a b*GI (a.natAbs*b.natAbs) (c.natAbs*d.natAbs))=KA (a*b) (c*d):=by
  have h1:=QD a b;have h2:=QD c d;have k1:=Sc a b;have k2:=Sc c d;unfold KA GI;generalize a.natAbs*b.natAbs=p at*;generalize c.natAbs*d.natAbs=q at*;generalize a*b=x at*;generalize c*d=y at*;generalize sgn a b=u at*;generalize sgn c d=v at*;rcases k1 with⟨rfl,g1⟩|⟨rfl,g1⟩|⟨rfl,g1⟩<;>rcases k2 with⟨rfl,g2⟩|⟨rfl,g2⟩|⟨rfl,g2⟩
  · rw[if_neg (by simp),if_neg (show¬x<y by omega),if_pos (show x=y by omega)];exact Int.zero_mul _
  · rw[if_pos (by simp),if_pos (by omega),if_pos (by omega)]
  · rw[if_pos (by simp),if_neg (by omega),if_neg (by omega),if_neg (by omega)]
  · rw[if_pos (by simp),if_neg (by omega),if_neg (by omega),if_neg (by omega)]
  · rw[if_neg (by simp)]
    have e1:(p:Int)=x:=by omega
    have e2:(q:Int)=y:=by omega
    by_cases h:x<y
    · rw[if_pos (by omega),if_pos h];rfl
    · rw[if_neg (by omega),if_neg h]
      by_cases h':x=y
      · rw[if_pos (by omega),if_pos h'];rfl
      · rw[if_neg (by omega),if_neg h'];rfl
  · rw[if_pos (by simp),if_neg (by omega),if_neg (by omega),if_neg (by omega)]
  · rw[if_pos (by simp),if_pos (by omega),if_pos (by omega)]
  · rw[if_pos (by simp),if_pos (by omega),if_pos (by omega)]
  · rw[if_neg (by simp)]
    have e1:(p:Int)= -x:=by omega
    have e2:(q:Int)= -y:=by omega
    by_cases h:x<y
    · rw[if_neg (by omega),if_neg (by omega),if_pos h];rfl
    · rw[if_neg h]
      by_cases h':x=y
      · rw[if_neg (by omega),if_pos (by omega),if_pos h'];rfl
      · rw[if_pos (by omega),if_neg h'];rfl
theorem Qui (p:Nat):p/w64*w64+p%w64=p:=by have:=Nat.div_add_mod p w64;rw[Nat.mul_comm]at this;exact this
theorem PH:0<w64:=by rw[BJ];omega
theorem Zhg (p q:Nat): -1<=GI p q/\GI p q<=1:=by unfold GI;(repeat' split)<;>omega
theorem Z01 (a b:Int): -1<=sgn a b/\sgn a b<=1:=by unfold sgn;(repeat' split)<;>omega
theorem Zl6 {u v:Int} (hu: -1<=u/\u<=1) (hv: -1<=v/\v<=1): -1<=u*v/\u*v<=1:=by
  have:u= -1\/u=0\/u=1:=by omega
  rcases this with rfl|rfl|rfl<;>omega
theorem L7 {x y:Nat} (hx:x<w64) (hy:y<w64):∃hi lo:Nat,En [U x,U y]=some [U hi,U lo]/\hi*w64+lo=x*y/\lo<w64:=
  ⟨_,_,Qun hx hy,Qui _,Nat.mod_lt _ PH⟩
theorem Zfh {a b c d:Int} (M1 M2 M3 M4:Fn) (h1 l1 h2 l2:Nat)
   (ka:M3 [I a]=some [U a.natAbs]) (kb:M3 [I b]=some [U b.natAbs]) (kc:M3 [I c]=some [U c.natAbs]) (kd:M3 [I d]=some [U d.natAbs])
   (ks:∀a b,M4 [I a,I b]=some [I (sgn a b)])
   (e1:M2 [U a.natAbs,U b.natAbs]=some [U h1,U l1]) (f1:M2 [U c.natAbs,U d.natAbs]=some [U h2,U l2])
   (hcmp:M1 [U h1,U l1,U h2,U l2]=some [I (GI (a.natAbs*b.natAbs) (c.natAbs*d.natAbs))]):W8 M1 M2 M3 M4 [I a,I b,I c,I d]=some [I (KA (a*b) (c*d))]:=by
  have hm:=Zl6 (Z01 a b) (Zhg (a.natAbs*b.natAbs) (c.natAbs*d.natAbs));rw[Zgj];simp only[go_sem,ks,ka,kb,kc,kd,e1,f1,hcmp];rw[<-Zec];rw[Ae (by omega)];by_cases h1:sgn a b≠sgn c d
  · rw[if_pos h1,if_pos h1]
    by_cases h2:sgn a b<sgn c d
    · rw[if_pos h2,if_pos h2]
    · rw[if_neg h2,if_neg h2]
  · rw[if_neg h1,if_neg h1]
theorem Q98 {a b c d:Int} (ha:i64 a) (hb:i64 b) (hc:i64 c) (hd:i64 d):Nz [I a,I b,I c,I d]=some [I (KA (a*b) (c*d))]:=by
  obtain⟨h1,l1,e1,e2,e3⟩:=L7 (Ow ha) (Ow hb);obtain⟨h2,l2,f1,f2,f3⟩:=L7 (Ow hc) (Ow hd);have hcmp:=Qvb h1 l1 h2 l2 e3 f3;rw[e2,f2]at hcmp;unfold Nz;exact Zfh _ _ _ _ _ _ _ _ (HY ha) (HY hb) (HY hc) (HY hd) Qar e1 f1 hcmp
end Go.Bm
namespace Go.Bm
theorem Zdq {m k:Nat} (h:2^(k+1)*m+2^k<w64):wrap .u64 (((BitVec.ofInt IntKind.u64.bits ((2^(k+1)*m:Nat):Int)|||BitVec.ofInt IntKind.u64.bits ((2^k:Nat):Int)).toNat:Nat):Int)=((2^(k+1)*m+2^k:Nat):Int):=by
 rw[BJ]at h;have e:(BitVec.ofInt IntKind.u64.bits ((2^(k+1)*m:Nat):Int)|||BitVec.ofInt IntKind.u64.bits ((2^k:Nat):Int)).toNat=2^(k+1)*m+2^k:=by
  rw[BitVec.toNat_or];have e1:∀v:Nat,v<18446744073709551616->(BitVec.ofInt IntKind.u64.bits (v:Int)).toNat=v:=by
   intro v hv;simp only[IntKind.bits,BitVec.toNat_ofInt];omega
  have hpos:0<2^k:=Nat.two_pow_pos _;generalize hA:2^(k+1)*m=A at*;rw[e1 _ (by omega),e1 _ (by omega),<-hA];exact(Nat.two_pow_add_eq_or_of_lt (Nat.pow_lt_pow_right (by omega) (by omega)) m).symm
 rw[e,Hx (by omega)]
theorem Z08 (k:Nat):((2^(k+1):Nat):Int).fdiv (2^min (Int.toNat 1) IntKind.u64.bits)=((2^k:Nat):Int):=by
 have e:(2^min (Int.toNat 1) IntKind.u64.bits:Int)=2:=rfl;rw[e,Int.fdiv_eq_ediv_of_nonneg _ (by omega),Nat.pow_succ];omega
theorem Zh1:(1:Int).fdiv (2^min (Int.toNat 1) IntKind.u64.bits)=0:=rfl
theorem Qr4 {M1 M2:Fn} (hp:∀x y:Nat,x<w64->y<w64->∃hi lo:Nat,M2 [U x,U y]=some [U hi,U lo]/\hi*w64+lo=x*y/\lo<w64)
  (hc:∀a b c d:Nat,b<w64->d<w64->M1 [U a,U b,U c,U d]=some [I (GI (a*w64+b) (c*w64+d))]) {k m hi lo:Nat} {bit:Int} (hlo:lo<w64) (hb:((2^k:Nat):Int).fdiv (2^min (Int.toNat 1) IntKind.u64.bits)=bit) (h:2^(k+1)*m+2^k<w64):
  K8 M1 M2 [U ((2^(k+1)*m:Nat):Int),U ((2^k:Nat):Int),U hi,U lo]=
   some (0,[U (((if(2^(k+1)*m+2^k)*(2^(k+1)*m+2^k)<=hi*w64+lo then 2^(k+1)*m+2^k else 2^(k+1)*m):Nat):Int),U bit,U hi,U lo]):=by
 obtain⟨h1,l1,e1,e2,e3⟩:=hp _ _ h h;have hcmp:=hc h1 l1 hi lo e3 hlo;rw[e2]at hcmp;have hpos:0<2^k:=Nat.two_pow_pos _;rw[Q6m,Zdq h,hb];simp only[go_sem,e1,hcmp];rw[if_pos (by omega)];generalize(2^(k+1)*m+2^k)*(2^(k+1)*m+2^k)=q at*;unfold GI;by_cases h1:q<hi*w64+lo
 ·rw[if_pos h1,if_pos (by omega),if_pos (by omega)]
 ·rw[if_neg h1];by_cases h2:q=hi*w64+lo
  ·rw[if_pos h2,if_pos (by omega),if_pos (by omega)]
  ·rw[if_neg h2,if_neg (by omega),if_neg (by omega)]
theorem Qfh {M1 M2:Fn} (hp:∀x y:Nat,x<w64->y<w64->∃hi lo:Nat,M2 [U x,U y]=some [U hi,U lo]/\hi*w64+lo=x*y/\lo<w64)
  (hc:∀a b c d:Nat,b<w64->d<w64->M1 [U a,U b,U c,U d]=some [I (GI (a*w64+b) (c*w64+d))]) {hi lo:Nat} (hlo:lo<w64):∀(k m:Nat),2^(k+1)*m+2^(k+1)<=w64->
  (2^(k+1)*m)*(2^(k+1)*m)<=hi*w64+lo->hi*w64+lo<(2^(k+1)*m+2^(k+1))*(2^(k+1)*m+2^(k+1))->
  ∃r:Nat,An (K8 M1 M2) [U ((2^(k+1)*m:Nat):Int),U ((2^k:Nat):Int),U hi,U lo]=some (1,[U r])/\r*r<=hi*w64+lo/\hi*w64+lo<(r+1)*(r+1)/\r<w64
 |0,m,hw,h1,h2=>by
  have hs:=Qr4 hp hc (k:=0) (m:=m) (hi:=hi) (bit:=0) hlo Zh1 (by simp at hw⊢;omega);rw[Bt hs];have hend:∀r:Nat,An (K8 M1 M2) [U (r:Int),U 0,U hi,U lo]=some (1,[U r]):=by
   intro r;refine A_ ?_ (by simp);rw[Q6m];simp only[go_sem];rw[if_neg (by omega)]
  simp only[Nat.zero_add,Nat.pow_one,Nat.pow_zero]at*;by_cases h:(2*m+1)*(2*m+1)<=hi*w64+lo
  ·rw[if_pos h,hend];exact⟨_,rfl,h,h2,by omega⟩
  ·rw[if_neg h,hend];exact⟨_,rfl,h1,by omega,by omega⟩
 |k+1,m,hw,h1,h2=>by
  have e1:2^(k+1+1)*m=2^(k+1)*(2*m):=by rw[Nat.pow_succ 2 (k+1),Nat.mul_assoc]
  have e2:2^(k+1+1)*m+2^(k+1)=2^(k+1)*(2*m+1):=by rw[e1,Nat.mul_add,Nat.mul_one]
  have e3:2^(k+1+1)=2^(k+1)+2^(k+1):=by rw[Nat.pow_succ 2 (k+1)];omega
  have hpos:0<2^(k+1):=Nat.two_pow_pos _;have hs:=Qr4 hp hc (k:=k+1) (m:=m) (hi:=hi) (bit:=((2^k:Nat):Int)) hlo (Z08 k) (by omega);rw[Bt hs];by_cases h:(2^(k+1+1)*m+2^(k+1))*(2^(k+1+1)*m+2^(k+1))<=hi*w64+lo
  ·rw[if_pos h,e2];rw[e2]at h;refine Qfh hp hc hlo k (2*m+1) ?_ h ?_
   ·rw[<-e2];omega
   ·rw[<-e2];rw[show 2^(k+1+1)*m+2^(k+1)+2^(k+1)=2^(k+1+1)*m+2^(k+1+1) by omega];exact h2
  ·rw[if_neg h];have h3:hi*w64+lo<(2^(k+1+1)*m+2^(k+1))*(2^(k+1+1)*m+2^(k+1)):=by omega
   have hw':2^(k+1+1)*m+2^(k+1)<=w64:=by omega
   rw[e1]at h1 h3 hw'⊢;exact Qfh hp hc hlo k (2*m) hw' h1 h3
theorem Zqu {M1 M2:Fn} (hp:∀x y:Nat,x<w64->y<w64->∃hi lo:Nat,M2 [U x,U y]=some [U hi,U lo]/\hi*w64+lo=x*y/\lo<w64)
  (hc:∀a b c d:Nat,b<w64->d<w64->M1 [U a,U b,U c,U d]=some [I (GI (a*w64+b) (c*w64+d))]) {hi lo:Nat} (hhi:hi<w64) (hlo:lo<w64):
  ∃r:Nat,Qlj M1 M2 (An (K8 M1 M2)) [U hi,U lo]=some [U r]/\r*r<=hi*w64+lo/\hi*w64+lo<(r+1)*(r+1)/\r<w64:=by
 have hb:hi*w64+lo<w64*w64:=by
  have:hi*w64+w64<=w64*w64:=by rw[<-Nat.succ_mul];exact Nat.mul_le_mul_right _ hhi
  omega
 obtain⟨r,h1,h2,h3,h4⟩:=Qfh hp hc (hi:=hi) (lo:=lo) hlo 63 0 (by rw[BJ];omega) (by simp) (by rw[Nat.mul_zero,Nat.zero_add,show 2^(63+1)=w64 by rw[BJ]];exact hb);refine⟨r,?_,h2,h3,h4⟩;rw[Nat.mul_zero]at h1;generalize An (K8 M1 M2)=N at*;have h1':N [AC.int IntKind.u64 0,AC.int IntKind.u64 9223372036854775808,AC.int IntKind.u64 hi,AC.int IntKind.u64 lo]=some (1,[U r]):=h1;rw[Z2d,h1'];simp only[go_sem]
theorem Qvm {hi lo:Nat} (hhi:hi<w64) (hlo:lo<w64):∃r:Nat,Jw [U hi,U lo]=some [U r]/\r*r<=hi*w64+lo/\hi*w64+lo<(r+1)*(r+1)/\r<w64:=
 Zqu (fun _ _ hx hy=>L7 hx hy) Qvb hhi hlo
theorem WZ {n:Nat} (h:n<9223372036854775808):EY [U n,B false]=some [I n,B true]:=by
 unfold EY;rw[Va];simp only[go_sem];rw[if_neg (by simp),if_pos (by simp),if_pos (by omega),Ae (by omega)]
theorem Zwl {x y b:Nat} (hx:x<w64) (hy:y<w64) (hb:b=0\/b=1):J2 [U x,U y,U b]=some [U (((x:Int)-y-b)%FF),U (if x<y+b then 1 else 0)]:=by
 rw[BJ]at hx hy;have e64:FF=18446744073709551616:=rfl;have hu:∀z:Nat,z<18446744073709551616->inU (z:Int)=true:=by
  intro z hz;simp only[inU,e64,Bool.and_eq_true,decide_eq_true_eq];omega
 have hb':(decide ((b:Int)=0)||decide ((b:Int)=1))=true:=by
  rcases hb with rfl|rfl<;>simp
 unfold J2;simp only[HC,LA,LU,Hl,gA,jA,wA,bA];rw[hu x hx,hu y hy,hb'];by_cases h:x<y+b
 ·rw[if_pos h,Dx (p:=(x:Int)<y+b) (by omega)];simp
 ·rw[if_neg h,AZ (p:=(x:Int)<y+b) (by omega)];simp
theorem Qxa {x y:Nat} (hx:x<w64) (hyx:y<=x):J2 [U x,U y,U 0]=some [U ((x-y:Nat):Int),U 0]:=by
 have:=Zwl (x:=x) (y:=y) (b:=0) hx (by omega) (.inl rfl);have e64:FF=18446744073709551616:=rfl;rw[BJ]at hx;rw[if_neg (by omega),e64,show((x:Int)-y-((0:Nat):Int))%18446744073709551616=((x-y:Nat):Int) by omega]at this;exact this
theorem Ztj {M1 M2 M3 M4:Fn} {n r:Nat} {mode:Int} (hn:n<9223372036854775807) (hrn:r*r<=n) (hr:M4 [U 0,U n]=some [U r]) (hm:M3 [U r,U r]=some [U 0,U ((r*r:Nat):Int)]) (hs1:M2 [U n,U ((r*r:Nat):Int),U 0]=some [U ((n-r*r:Nat):Int),U 0])
  (hs2:M2 [U 0,U 0,U 0]=some [U 0,U 0]) (sg:∀k:Nat,k<9223372036854775808->M1 [U k,B false]=some [I k,B true]) (hmode:mode=1\/mode=2):
  Qm7 M1 M2 M3 M4 [U 0,U n,I mode]=some [I ((if(mode=1/\r*r<n)\/(mode=2/\r*r+r<n)then r+1 else r:Nat):Int),B true]:=by
 have hrr:r<=r*r:=by
  rcases Nat.eq_zero_or_pos r with h|h
  ·subst h;simp
  ·exact Nat.le_mul_of_pos_left r h
 have hw:wrap .u64 ((r:Int)+1)=((r+1:Nat):Int):=by rw[Hx (by omega)];omega
 have s1:=sg r (by omega);have s2:=sg (r+1) (by omega);rw[Zud];simp only[go_sem,hr,hm,hs1,hs2,hw,s1,s2];rcases hmode with rfl|rfl
 ·rw[if_pos rfl,if_neg (by omega)];by_cases h:r*r<n
  ·rw[if_pos (by omega),if_pos (by omega)]
  ·rw[if_neg (by omega),if_neg (by omega),if_neg (by omega)]
 ·rw[if_neg (by omega),if_pos rfl,if_neg (by omega)];by_cases h:r*r+r<n
  ·rw[if_pos (by omega),if_pos (by omega)]
  ·rw[if_neg (by omega),if_neg (by omega)]
theorem Zdm {M1 M2:Fn} {n:Nat} {mode:Int} {k:Int} (hn:n<9223372036854775807) (hk:M2 [I mode]=some [B true]) (hr:M1 [U 0,U n,I mode]=some [I k,B true]):VA M1 M2 [I n,I mode]=some [I k,B true]:=by
 have hw:wrap .u64 (n:Int)=(n:Int):=Hx (by omega);rw[Zb6];simp only[go_sem,hk,hw,hr];rw[if_neg (by omega),if_neg (by simp)]
theorem Qh4 {mode:Int} (h:mode=0\/mode=1\/mode=2):Fu [I mode]=some [B true]:=by
 unfold Fu;rw[Quy];rcases h with rfl|rfl|rfl<;>rfl
theorem Qr1 {n:Nat} {mode:Int} (hn:n<9223372036854775807) (hmode:mode=1\/mode=2):
  ∃r:Nat,Jf [I n,I mode]=some [I ((if(mode=1/\r*r<n)\/(mode=2/\r*r+r<n)then r+1 else r:Nat):Int),B true]/\r*r<=n/\n<(r+1)*(r+1):=by
 have hnw:n<w64:=by rw[BJ];omega
 obtain⟨r,h1,h2,h3,h4⟩:=Qvm (hi:=0) (lo:=n) PH hnw;rw[Nat.zero_mul,Nat.zero_add]at h2 h3;obtain⟨hi,lo,e1,e2,e3⟩:∃hi lo:Nat,H0 [U r,U r]=some [U hi,U lo]/\hi*w64+lo=r*r/\lo<w64:=⟨_,_,Q31 h4 h4,Qui _,Nat.mod_lt _ PH⟩;have hhi:hi=0:=by
  rcases Nat.eq_zero_or_pos hi with h|h
  ·exact h
  ·have:=Nat.mul_le_mul_right w64 h;omega
 subst hhi;have hlo:lo=r*r:=by omega
 subst hlo;have z:=Qxa (x:=0) (y:=0) PH (Nat.le_refl _);refine⟨r,?_,h2,h3⟩;exact Zdm hn (Qh4 (.inr hmode)) (Ztj hn h2 h1 e1 (Qxa hnw h2) z (fun k hk=>WZ hk) hmode)
end Go.Bm
namespace Go.Bm
def Bh (a b:Int):Int:=(2*a+b)/(2*b)
theorem K2 {a b k:Int} (hb:0<b) (h1:k*(2*b)<=2*a+b) (h2:2*a+b<(k+1)*(2*b)):Bh a b=k:=by
 unfold Bh;have g1:k<=(2*a+b)/(2*b):=(Int.le_ediv_iff_mul_le (by omega)).2 h1;have g2:(2*a+b)/(2*b)<k+1:=(Int.ediv_lt_iff_lt_mul (by omega)).2 h2;omega
theorem Qxu {p c:Nat} (hp:p<w64) (hc:0<c):GD [U 0,U p,U c]=some [U ((p/c:Nat):Int),U ((p%c:Nat):Int)]:=by
 rw[BJ]at hp;have h1:(p:Int).tdiv (c:Int)=((p/c:Nat):Int):=by rw[Int.tdiv_eq_ediv_of_nonneg (by omega)];simp
 have h2:(p:Int).tmod (c:Int)=((p%c:Nat):Int):=by rw[Int.tmod_eq_emod_of_nonneg (by omega)];simp
 have h3:p/c<=p:=Nat.div_le_self _ _;unfold GD;generalize H_=M;generalize SO=N1;generalize Qnr=N2;rw[Qpn];rw[Bn (by simp;omega),AZ (by omega),BO (by simp),AZ (by omega),AZ (by omega),h1,h2];generalize p/c=q at*;rw[Hx (by omega)]
theorem Q3s (more:Int) (some_ neg:Bool):Ht [I 2,I more,B some_,B neg]=some [B (if more>0 then true else if more=0 then !neg else false)]:=by
 unfold Ht;rw[Q1f];simp only[go_sem];rw[if_neg (by omega),if_neg (by omega)]
 repeat' split
 all_goals rfl
theorem Qpj {n:Nat} (h:n<=9223372036854775808):EY [U n,B true]=some [I (-(n:Int)),B true]:=by
 unfold EY;rw[Va];simp only[go_sem];rw[if_pos (by omega),NK,YT];have:((0-(n:Int))%18446744073709551616+9223372036854775808)%18446744073709551616-9223372036854775808= -(n:Int):=by omega
 rw[this]
def Gy (q r c:Nat) (neg:Bool):Nat:=if r>c-r then q+1 else if r<c-r then q else if neg then q else q+1
theorem Zf8 {M1 M2 M3 M4 M5 M6 M7:Fn} {a b s:Int} {A C p q r c:Nat} (hc0:0<c) (hc1:c<9223372036854775808) (hr:r<c) (hq:q<9223372036854775807)
  (k1:M7 [I 2]=some [B true]) (k2:M6 [I a]=some [U A]) (k3:M6 [I b]=some [U C]) (k4:M6 [I c]=some [U c]) (k5:M5 [U A,U C]=some [U 0,U p]) (k6:M4 [U 0,U p,U c]=some [U q,U r]) (k7:M3 [I a,I b]=some [I s])
  (k8:∀(more:Int) (some_ neg:Bool),M2 [I 2,I more,B some_,B neg]=some [B (if more>0 then true else if more=0 then !neg else false)])
  (k9:∀k:Nat,k<9223372036854775808->M1 [U k,B false]=some [I k,B true]) (k10:∀k:Nat,k<9223372036854775808->M1 [U k,B true]=some [I (-(k:Int)),B true]):
  Tc M1 M2 M3 M4 M5 M6 M7 [I a,I b,I c,I 2]=some [I (if s<0 then-(Gy q r c true:Int)else(Gy q r c false:Int)),B true]:=by
 have w1:wrap .u64 ((c:Int)-(r:Int))=((c-r:Nat):Int):=by rw[Hx (by omega)];omega
 have w2:wrap .u64 ((q:Int)+1)=((q+1:Nat):Int):=by rw[Hx (by omega)];omega
 have n1:=k9 q (by omega);have n2:=k9 (q+1) (by omega);rw[Q10];simp only[go_sem,k1,k2,k3,k4,k5,k6,k7,k8,w1,w2,n1,n2];rw[if_neg (by omega),if_neg (by simp),if_neg (by omega)];by_cases hs:s<0
 ·rw[if_pos hs];rw[if_pos (show¬(s<0↔(c:Int)<0) by omega)];have hne:(s !=0)=true:=by simp;omega
  rw[hne];unfold Gy;by_cases g1:r>c-r
  ·rw[if_pos g1];rw[if_pos (show(r:Int)>((c-r:Nat):Int) by omega),if_pos (by decide),if_neg (show¬((q+1:Nat):Int)=0 by omega),k10 (q+1) (by omega)];simp only[go_sem]
  ·rw[if_neg g1];rw[if_neg (show¬(r:Int)>((c-r:Nat):Int) by omega)];by_cases g2:r<c-r
   ·rw[if_pos g2];rw[if_pos (show(r:Int)<((c-r:Nat):Int) by omega),if_neg (by decide),k10 q (by omega)];simp only[go_sem]
   ·rw[if_neg g2,if_pos rfl];rw[if_neg (show¬(r:Int)<((c-r:Nat):Int) by omega),if_neg (by decide),k10 q (by omega)];simp only[go_sem]
 ·rw[if_neg hs];rw[if_neg (show¬¬(s<0↔(c:Int)<0) by omega)];unfold Gy;by_cases g1:r>c-r
  ·rw[if_pos g1,if_pos (show(r:Int)>((c-r:Nat):Int) by omega),if_pos (by decide),if_neg (show¬((q+1:Nat):Int)=0 by omega)]
  ·rw[if_neg g1,if_neg (show¬(r:Int)>((c-r:Nat):Int) by omega)];by_cases g2:r<c-r
   ·rw[if_pos g2,if_pos (show(r:Int)<((c-r:Nat):Int) by omega),if_neg (by decide)]
   ·rw[if_neg g2,if_neg (show¬(r:Int)<((c-r:Nat):Int) by omega),if_pos (by decide),if_neg (show¬((q+1:Nat):Int)=0 by omega),if_neg (by decide)]
theorem Zqh (q r c:Nat):Gy q r c false=if r<c-r then q else q+1:=by
 unfold Gy;by_cases h1:r>c-r
 ·rw[if_pos h1,if_neg (by omega)]
 ·rw[if_neg h1];by_cases h2:r<c-r
  ·rw[if_pos h2,if_pos h2]
  ·rw[if_neg h2,if_neg h2,if_neg (by simp)]
theorem Z2i (q r c:Nat):Gy q r c true=if r>c-r then q+1 else q:=by
 unfold Gy;by_cases h1:r>c-r
 ·rw[if_pos h1,if_pos h1]
 ·rw[if_neg h1,if_neg h1];by_cases h2:r<c-r
  ·rw[if_pos h2]
  ·rw[if_neg h2,if_pos rfl]
theorem Qps {p q r c:Nat} (hc:0<c) (h:p=c*q+r) (hr:r<c):Bh p c=Gy q r c false:=by
 have e:(p:Int)=(c:Int)*q+r:=by rw[h];simp
 have e3:(q:Int)*(2*c)=2*((c:Int)*q):=by grind
 have e4:((q+1:Nat):Int)*(2*c)=2*((c:Int)*q)+2*c:=by grind
 have e5:((q:Int)+1)*(2*c)=2*((c:Int)*q)+2*c:=by grind
 have e6:(((q+1:Nat):Int)+1)*(2*c)=2*((c:Int)*q)+4*c:=by grind
 rw[Zqh];by_cases g:r<c-r
 ·rw[if_pos g];exact K2 (by omega) (by rw[e3];omega) (by rw[e5];omega)
 ·rw[if_neg g];exact K2 (by omega) (by rw[e4];omega) (by rw[e6];omega)
theorem Zwj {p q r c:Nat} (hc:0<c) (h:p=c*q+r) (hr:r<c):Bh (-(p:Int)) c= -(Gy q r c true:Int):=by
 have e:(p:Int)=(c:Int)*q+r:=by rw[h];simp
 have e3: -(q:Int)*(2*c)= -(2*((c:Int)*q)):=by grind
 have e4: -((q+1:Nat):Int)*(2*c)= -(2*((c:Int)*q))-2*c:=by grind
 have e5:(-(q:Int)+1)*(2*c)= -(2*((c:Int)*q))+2*c:=by grind
 have e6:(-((q+1:Nat):Int)+1)*(2*c)= -(2*((c:Int)*q)):=by grind
 rw[Z2i];by_cases g:r>c-r
 ·rw[if_pos g];exact K2 (by omega) (by rw[e4];omega) (by rw[e6];omega)
 ·rw[if_neg g];exact K2 (by omega) (by rw[e3];omega) (by rw[e5];omega)
theorem Sv {a b c:Int} (ha:i64 a) (hb:i64 b) (hc:0<c/\c<9223372036854775808) (hp:a.natAbs*b.natAbs<9223372036854775807):Bs [I a,I b,I c,I 2]=some [I (Bh (a*b) c),B true]:=by
 obtain⟨hi,lo,e1,e2,e3⟩:=L7 (Ow ha) (Ow hb);have hm:=QD a b;have hs:=Sc a b;have hz:a*b=0->a.natAbs*b.natAbs=0:=fun h=>by rw[<-Int.natAbs_mul,h];rfl
 generalize a.natAbs*b.natAbs=p at*;have hhi:hi=0:=by
  rcases Nat.eq_zero_or_pos hi with h|h
  ·exact h
  ·have:=Nat.mul_le_mul_right w64 h;have:=BJ;omega
 subst hhi;have hlo:lo=p:=by omega
 subst hlo;obtain⟨n,rfl⟩:=Int.eq_ofNat_of_zero_le (show 0<=c by omega);have hn:0<n:=by omega
 have h1:=Nat.div_add_mod lo n;have h2:=Nat.mod_lt lo hn;have h3:lo/n<=lo:=Nat.div_le_self _ _;have hd:=Qxu e3 hn;have hcs:=HY (x:=(n:Int)) (by unfold i64;omega);rw[Int.natAbs_natCast]at hcs;generalize lo/n=q at*;generalize lo%n=r at*;have hmain:=Zf8 (M1:=EY) (M2:=Ht) (M3:=Fs) (M4:=GD) (M5:=En) (M6:=F7) (M7:=Fu) hn (by omega) h2 (by omega)
  (Qh4 (.inr (.inr rfl))) (HY ha) (HY hb) hcs e1 hd (Qar a b) Q3s (fun k hk=>WZ hk) (fun k hk=>Qpj (by omega))
 have hv:(if sgn a b<0 then-(Gy q r n true:Int)else(Gy q r n false:Int))=Bh (a*b) n:=by
  rcases hs with⟨g1,g2⟩|⟨g1,g2⟩|⟨g1,g2⟩
  ·rw[if_neg (by omega),g2];rw[g1]at hm;have:lo=0:=hz g2;rw[<-Qps hn h1.symm h2,this];rfl
  ·rw[if_neg (by omega),<-Qps hn h1.symm h2,<-hm,g1,Int.one_mul]
  ·rw[if_pos (by omega),<-Zwj hn h1.symm h2,<-hm,g1,Int.neg_mul,Int.one_mul]
 rw[hv]at hmain;exact hmain
end Go.Bm
namespace Go.Bm
def val:List Nat->Nat
 |[]=>0
 |d::l=>d+65536*val l
def Dig (l:List Nat):Prop:=∀d∈l,d<65536
theorem Dig.sub {l m:List Nat} (h:Dig l) (hs:∀d∈m,d∈l):Dig m:=fun d hd=>h d (hs d hd)
end Go.Bm
namespace Go.Bm
theorem Dig.set {l:List Nat} (h:Dig l) (j d:Nat) (hd:d<65536):Dig (l.set j d):=by
 intro x hx;rcases List.mem_or_eq_of_mem_set hx with h'|rfl
 ·exact h x h'
 ·exact hd
end Go.Bm
namespace Go.Bm
def bd (A:Nat) (p:Pt):Prop:=p.x.natAbs<=A/\p.y.natAbs<=A/\p.z.natAbs<=A
def I9 (a b:Pt):Int:=a.x*b.x+a.y*b.y+a.z*b.z
def GB (a b:Pt):Pt:=⟨a.x-b.x,a.y-b.y,a.z-b.z⟩
theorem Hw {x y:Int} {A B:Nat} (hx:x.natAbs<=A) (hy:y.natAbs<=B):(x*y).natAbs<=A*B:=by rw[Int.natAbs_mul];exact Nat.mul_le_mul hx hy
theorem AW {A B:Nat} {a:Pt} (h:bd A a) (hab:A<=B):bd B a:=⟨Nat.le_trans h.1 hab,Nat.le_trans h.2.1 hab,Nat.le_trans h.2.2 hab⟩
theorem Ze3 (a b:Pt):I9 (GB a b) (GB a b)=I9 (GB b a) (GB b a):=by
 simp only[I9,GB];have h:∀x y:Int,(x-y)*(x-y)=(y-x)*(y-x):=by intro x y;rw[<-Int.neg_mul_neg,Int.neg_sub]
 rw[h a.x,h a.y,h a.z]
theorem Z2l {x y:Int}:KA x y<=0↔x<=y:=by
 unfold KA;by_cases h:x<y
 ·rw[if_pos h];omega
 ·rw[if_neg h];by_cases h':x=y
  ·rw[if_pos h'];omega
  ·rw[if_neg h'];omega
end Go.Bm
namespace Go.Bm
theorem Q2w (v:Nat) (h:v<w64):wrap .u64 (((BitVec.ofInt IntKind.u64.bits (v:Int)&&&BitVec.ofInt IntKind.u64.bits 4294967295).toNat:Nat):Int)=((v%4294967296:Nat):Int):=by
 rw[BJ]at h;have e:(BitVec.ofInt IntKind.u64.bits (v:Int)&&&BitVec.ofInt IntKind.u64.bits 4294967295).toNat=v%4294967296:=by
  rw[BitVec.toNat_and];have e1:(BitVec.ofInt IntKind.u64.bits (v:Int)).toNat=v:=by
   simp only[IntKind.bits,BitVec.toNat_ofInt];omega
  have e2:(BitVec.ofInt IntKind.u64.bits 4294967295).toNat=2^32-1:=by
   simp only[IntKind.bits,BitVec.toNat_ofInt];rfl
  rw[e1,e2,Nat.and_two_pow_sub_one_eq_mod]
 rw[e,Hx (by omega)]
theorem Q5v (v:Nat):(v:Int).fdiv (2^min (Int.toNat 32) IntKind.u64.bits)=((v/4294967296:Nat):Int):=by
 have e:(2^min (Int.toNat 32) IntKind.u64.bits:Int)=4294967296:=rfl;rw[e,Int.fdiv_eq_ediv_of_nonneg _ (by omega)];omega
def Ev (a n:Nat) (down:Bool) (j:Nat):Prop:=
 (j=0\/if down=true then(2*j-1)*(2*j-1)*n<4*(a*a)else(2*j-1)*(2*j-1)*n<=4*(a*a))/\
 (if down=true then 4*(a*a)<=(2*j+1)*(2*j+1)*n else 4*(a*a)<(2*j+1)*(2*j+1)*n)
theorem Px {p q n:Nat} (h:p<=q):p*p*n<=q*q*n:=Nat.mul_le_mul_right _ (Nat.mul_le_mul h h)
theorem Zlu {a n:Nat} {down:Bool} {i j:Nat} (hi:Ev a n down i) (hj:Ev a n down j):i=j:=by
 have key:∀{i j:Nat},Ev a n down i->Ev a n down j-> ¬i<j:=by
  rintro i j ⟨-,h2⟩ ⟨h3,-⟩ hlt;have h4:=Px (n:=n) (show 2*i+1<=2*j-1 by omega);rcases h3 with h3|h3
  ·omega
  ·by_cases hd:down=true
   ·rw[if_pos hd]at h2 h3;omega
   ·rw[if_neg hd]at h2 h3;omega
 have h1:=key hi hj;have h2:=key hj hi;omega
open Classical in
noncomputable def rnd (a n:Nat) (down:Bool):Nat:=if h:∃j,Ev a n down j then Classical.choose h else 0
theorem SR {a n:Nat} {down:Bool} {j:Nat} (h:Ev a n down j):rnd a n down=j:=by
 have hx:∃j,Ev a n down j:=⟨j,h⟩;unfold rnd;rw[dif_pos hx];exact Zlu (Classical.choose_spec hx) h
noncomputable def BY (x r n:Int):Int:=if x<0 then-(rnd (x.natAbs*r.natAbs) n.natAbs true:Int)else(rnd (x.natAbs*r.natAbs) n.natAbs false:Int)
theorem Qha {X R n j:Nat} {down:Bool} (hn:0<n) (hx:X*X<=n) (h:Ev (X*R) n down j):j<=R:=by
 by_cases c:j<=R
 ·exact c
 exfalso;have e:4*(X*R*(X*R))=(2*R)*(2*R)*(X*X):=by grind
 have h2:(2*R)*(2*R)*(X*X)<=(2*R)*(2*R)*n:=Nat.mul_le_mul_left _ hx;have h3:(2*R)*(2*R)*n<(2*R+1)*(2*R+1)*n:=Nat.mul_lt_mul_of_pos_right (Nat.mul_self_lt_mul_self (by omega)) hn;have h4:(2*R+1)*(2*R+1)*n<=(2*j-1)*(2*j-1)*n:=Px (by omega);obtain⟨h5,-⟩:=h;rcases h5 with h5|h5
 ·omega
 ·split at h5<;>omega
theorem Zuf {X R n j:Nat} {down:Bool} (hn:0<n) (hx:R*R<=n) (h:Ev (X*R) n down j):j<=X:=by
 rw[Nat.mul_comm]at h;exact Qha hn hx h
theorem Zfq {a n q:Nat} (down:Bool) (h1:q*q*n<=a*a) (h2:a*a<(q+1)*(q+1)*n):
  Ev a n down (if(if down=true then(2*q+1)*(2*q+1)*n<2*a*(2*a)else(2*q+1)*(2*q+1)*n<=2*a*(2*a))then q+1 else q):=by
 have e4:2*a*(2*a)=4*(a*a):=by grind
 rw[e4];have e1:4*(q*q*n)<=4*(a*a):=Nat.mul_le_mul_left _ h1;have e2:4*(a*a)<4*((q+1)*(q+1)*n):=by omega
 have e5:(2*q-1)*(2*q-1)*n<=(2*q)*(2*q)*n:=Px (by omega);have e6:(2*q)*(2*q)*n=4*(q*q*n):=by grind
 have e7:(2*(q+1))*(2*(q+1))*n=4*((q+1)*(q+1)*n):=by grind
 have e8:(2*(q+1))*(2*(q+1))*n<=(2*(q+1)+1)*(2*(q+1)+1)*n:=Px (by omega);have e9:n=0\/q=0\/(2*q-1)*(2*q-1)*n<(2*q)*(2*q)*n:=by
  by_cases hn:n=0
  ·exact .inl hn
  ·by_cases hq:q=0
   ·exact .inr (.inl hq)
   ·right;right;refine Nat.mul_lt_mul_of_pos_right ?_ (by omega);exact Nat.mul_self_lt_mul_self (by omega)
 have hn:n≠0:=by rintro rfl;simp at h2
 unfold Ev;cases down
 ·simp only[Bool.false_eq_true,if_false];by_cases c:(2*q+1)*(2*q+1)*n<=4*(a*a)
  ·rw[if_pos c];refine⟨.inr ?_,by omega⟩;rw[show 2*(q+1)-1=2*q+1 by omega];exact c
  ·rw[if_neg c];exact⟨by omega,by omega⟩
 ·simp only[if_true];by_cases c:(2*q+1)*(2*q+1)*n<4*(a*a)
  ·rw[if_pos c];refine⟨.inr ?_,by omega⟩;rw[show 2*(q+1)-1=2*q+1 by omega];exact c
  ·rw[if_neg c];exact⟨by omega,by omega⟩
theorem Zuy {A N:Nat} (hN:0<N):∃q:Nat,q*q*N<=A*A/\A*A<(q+1)*(q+1)*N:=by
 have key:∀n:Nat,∃r:Nat,r*r<=n/\n<(r+1)*(r+1):=by
  intro n;induction n with
  |zero=>exact⟨0,by simp,by simp⟩
  |succ n ih=>
   obtain⟨r,h1,h2⟩:=ih;by_cases h:n+1<(r+1)*(r+1)
   ·exact⟨r,by omega,h⟩
   ·refine⟨r+1,by omega,?_⟩;have:(r+1+1)*(r+1+1)=(r+1)*(r+1)+2*(r+1)+1:=by grind
    omega
 obtain⟨q,h1,h2⟩:=key (A*A/N);exact⟨q,(Nat.le_div_iff_mul_le hN).1 h1,(Nat.div_lt_iff_lt_mul hN).1 h2⟩
theorem S2 {x r n:Int} (hx:x.natAbs<=33554432*4) (hr:0<=r/\r<=33554432*4) (hn:0<n/\n<=4611686018427387904) (hxn:x*x<=n):
  True/\(BY x r n).natAbs<=268435456/\Ev (x.natAbs*r.natAbs) n.natAbs (decide (x<0)) (BY x r n).natAbs:=by
 obtain⟨R,rfl⟩:=Int.eq_ofNat_of_zero_le hr.1;obtain⟨N,rfl⟩:=Int.eq_ofNat_of_zero_le (show 0<=n by omega);have hxx:x.natAbs*x.natAbs<=N:=by
  have:((x.natAbs*x.natAbs:Nat):Int)=x*x:=by rw[Int.natAbs_mul_self]
  omega
 simp only[BY,Int.natAbs_natCast];obtain⟨q,l2,l3⟩:=Zuy (A:=x.natAbs*R) (N:=N) (by omega);obtain⟨j,hi⟩:∃j,Ev (x.natAbs*R) N (decide (x<0)) j:=⟨_,Zfq (decide (x<0)) l2 l3⟩;have hle:=Qha (X:=x.natAbs) (R:=R) (by omega) hxx hi;have hrr:=SR hi;by_cases hx0:x<0
 ·have e:=decide_eq_true hx0;rw[e]at hi hrr⊢;rw[if_pos hx0,hrr,Int.natAbs_neg,Int.natAbs_natCast];exact⟨trivial,by omega,hi⟩
 ·have e:=decide_eq_false hx0;rw[e]at hi hrr⊢;rw[if_neg hx0,hrr,Int.natAbs_natCast];exact⟨trivial,by omega,hi⟩
def HP (n k:Int):Prop:=0<=k/\n<=k*k/\(k=0\/(k-1)*(k-1)<n)
theorem Zt0 {n i j:Int} (hi:HP n i) (hj:HP n j):i=j:=by
 have key:∀{i j:Int},HP n i->HP n j-> ¬i<j:=by
  rintro i j ⟨h1,h2,-⟩ ⟨h4,h5,h6⟩ hlt;rcases h6 with h6|h6
  ·omega
  ·have:=Int.mul_self_le_mul_self h1 (show i<=j-1 by omega);omega
 have h1:=key hi hj;have h2:=key hj hi;omega
open Classical in
noncomputable def upR (n:Int):Int:=if h:∃j,HP n j then Classical.choose h else 0
theorem Q2h {n k:Int} (h:HP n k):upR n=k:=by
 have hx:∃j,HP n j:=⟨k,h⟩;unfold upR;rw[dif_pos hx];exact Zt0 (Classical.choose_spec hx) h
theorem Qzk {n r:Nat} (h1:r*r<=n) (h2:n<(r+1)*(r+1)):HP n (if r*r<n then r+1 else r:Nat):=by
 unfold HP;by_cases c:r*r<n
 ·rw[if_pos c];have e1:((r+1:Nat):Int)*((r+1:Nat):Int)=(((r+1)*(r+1):Nat):Int):=(Int.natCast_mul _ _).symm;have e2:(((r+1:Nat):Int)-1)*(((r+1:Nat):Int)-1)=((r*r:Nat):Int):=by
   rw[show((r+1:Nat):Int)-1=(r:Int) by omega];exact(Int.natCast_mul _ _).symm
  rw[e1,e2];generalize(r+1)*(r+1)=A at*;generalize r*r=B at*;exact⟨by omega,by omega, .inr (by omega)⟩
 ·rw[if_neg c];have e1:(r:Int)*(r:Int)=((r*r:Nat):Int):=(Int.natCast_mul _ _).symm;rw[e1];refine⟨by omega,by omega,?_⟩;rcases Nat.eq_zero_or_pos r with h|h
  ·left;omega
  ·right;have e2:((r:Int)-1)*((r:Int)-1)=(((r-1)*(r-1):Nat):Int):=by
    rw[show(r:Int)-1=((r-1:Nat):Int) by omega];exact(Int.natCast_mul _ _).symm
   have:=Nat.mul_self_lt_mul_self (show r-1<r by omega);rw[e2];omega
theorem Ziw (k:Nat):((2^(k+1):Nat):Int).fdiv (2^min (Int.toNat 1) IntKind.i64.bits)=((2^k:Nat):Int):=by
 have e:(2^min (Int.toNat 1) IntKind.i64.bits:Int)=2:=rfl;rw[e,Int.fdiv_eq_ediv_of_nonneg _ (by omega),Nat.pow_succ];omega
theorem Zss:(1:Int).fdiv (2^min (Int.toNat 1) IntKind.i64.bits)=0:=rfl
theorem Zkc:∀n:Nat,∃r:Nat,r*r<=n/\n<(r+1)*(r+1):=by
 intro n;induction n with
 |zero=>exact⟨0,by simp,by simp⟩
 |succ n ih=>
  obtain⟨r,h1,h2⟩:=ih;by_cases h:n+1<(r+1)*(r+1)
  ·exact⟨r,by omega,h⟩
  ·refine⟨r+1,by omega,?_⟩;have:(r+1+1)*(r+1+1)=(r+1)*(r+1)+2*(r+1)+1:=by grind
   omega
theorem TJ {n:Nat} (hn:n<4611686018427387904):∃r:Nat,True/\r*r<=n/\n<(r+1)*(r+1)/\r<2147483648:=by
 obtain⟨r,h1,h2⟩:=Zkc n;refine⟨r,trivial,h1,h2,?_⟩;by_cases c:r<2147483648
 ·exact c
 ·have:=Nat.mul_le_mul (show 2147483648<=r by omega) (show 2147483648<=r by omega);omega
def sqD (a b:Pt):Int:=I9 (GB a b) (GB a b)
theorem O5 (a b:Pt):0<=sqD a b:=by
 unfold sqD I9;have h:∀u:Int,0<=u*u:=fun u=>by rw[<-Int.natAbs_mul_self];omega
 have:=h (GB a b).x;have:=h (GB a b).y;have:=h (GB a b).z;omega
theorem Dv {x:Int} {A:Nat} (h:x.natAbs<=A):0<=x*x/\x*x<=((A*A:Nat):Int):=by
 have:=Nat.mul_le_mul h h;rw[<-Int.natAbs_mul_self];omega
theorem O3 {A:Nat} {a b:Pt} (ha:bd A a) (hb:bd A b) (hA:A<=67108864):sqD a b<=54043195528445952:=by
 have h:∀x y:Int,x.natAbs<=A->y.natAbs<=A->(x-y)*(x-y)<=18014398509481984:=by
  intro x y hx hy;exact(Dv (x:=x-y) (A:=134217728) (by omega)).2
 have h1:=h _ _ ha.1 hb.1;have h2:=h _ _ ha.2.1 hb.2.1;have h3:=h _ _ ha.2.2 hb.2.2;unfold sqD I9 GB;simp only;omega
noncomputable def AE (a b:Pt):Int:=upR (sqD a b)
theorem Xb {a b:Pt} (ha:bd 67108864 a) (hb:bd 67108864 b):True/\HP (sqD a b) (AE a b):=by
 have h0:=O5 a b;have h1:=O3 ha hb (Nat.le_refl _);obtain⟨d,hd⟩:=Int.eq_ofNat_of_zero_le h0;unfold AE;rw[hd]at h1⊢;obtain⟨r,-,h2,h3,h4⟩:=TJ (n:=d) (by omega);have hu:=Qzk h2 h3;rw[Q2h hu];exact⟨trivial,hu⟩
theorem HL {a b:Pt} (ha:bd 67108864 a) (hb:bd 67108864 b):0<=AE a b/\AE a b<=268435456:=by
 obtain⟨-,h1,h2,h3⟩:=Xb ha hb;have h4:=O3 ha hb (Nat.le_refl _);refine⟨h1,?_⟩;rcases h3 with h3|h3
 ·omega
 ·by_cases c:AE a b<=268435456
  ·exact c
  ·have:=Int.mul_self_le_mul_self (a:=268435456) (b:=AE a b-1) (by omega) (by omega);omega
def IK (n k:Int):Prop:=0<=k/\n<=k*(k+1)/\(k=0\/(k-1)*k<n)
end Go.Bm
namespace Go.Bm
theorem Il {x:Int} {A:Nat} (h:x.natAbs<=A) (hA:A<=9223372036854775807):wrap .i64 x=x:=Ae (by omega)
theorem H8 {x y:Int} {A B:Nat} (hx:x.natAbs<=A) (hy:y.natAbs<=B):(x-y).natAbs<=A+B:=by omega
theorem QK {x y:Int} {A B:Nat} (hx:x.natAbs<=A) (hy:y.natAbs<=B):(x+y).natAbs<=A+B:=by omega
theorem XD {c u x:Int} {A:Nat} (hc:c.natAbs<=A) (ha:(c+x).natAbs<=A) (h:(0<=x->0<=u/\u<=x)/\(x<=0->x<=u/\u<=0)):(c+u).natAbs<=A:=by
 rcases Int.le_total 0 x with g|g
 ·have:=h.1 g;omega
 ·have:=h.2 g;omega
theorem Qii (a b:Pt):sqD a b=(a.x-b.x)*(a.x-b.x)+(a.y-b.y)*(a.y-b.y)+(a.z-b.z)*(a.z-b.z):=rfl
theorem Fz (u:Int):0<=u*u:=by rw[<-Int.natAbs_mul_self];omega
theorem Qhl {a b:Pt}:sqD a b=0↔a=b:=by
 rw[Qii];obtain⟨a1,a2,a3⟩:=a;obtain⟨b1,b2,b3⟩:=b;have h1:=Fz (a1-b1);have h2:=Fz (a2-b2);have h3:=Fz (a3-b3);constructor
 ·intro h;simp only at h;have e1:(a1-b1)*(a1-b1)=0:=by omega
  have e2:(a2-b2)*(a2-b2)=0:=by omega
  have e3:(a3-b3)*(a3-b3)=0:=by omega
  have z:∀u:Int,u*u=0->u=0:=fun u hu=>by
   rcases Int.mul_eq_zero.1 hu with h|h<;>exact h
  have:=z _ e1;have:=z _ e2;have:=z _ e3;rw[Pt.mk.injEq];omega
 ·intro h;injection h with h4 h5 h6;subst h4 h5 h6;simp
theorem Q13 (a b:Pt):(a.x-b.x)*(a.x-b.x)<=sqD a b/\(a.y-b.y)*(a.y-b.y)<=sqD a b/\(a.z-b.z)*(a.z-b.z)<=sqD a b:=by
 rw[Qii];have h1:=Fz (a.x-b.x);have h2:=Fz (a.y-b.y);have h3:=Fz (a.z-b.z);omega
noncomputable def BP (c a:Pt) (d:Int):Pt:=⟨c.x+BY (a.x-c.x) d (sqD a c),c.y+BY (a.y-c.y) d (sqD a c),c.z+BY (a.z-c.z) d (sqD a c)⟩
abbrev B24:Nat:=16777216
theorem Qia {x r n:Int} (hx:x.natAbs<=33554432*4) (hr:0<=r/\r<=33554432*4) (hn:0<n/\n<=4611686018427387904) (hxn:x*x<=n) (hrn:r*r<=n):
  (0<=x->0<=BY x r n/\BY x r n<=x)/\(x<=0->x<=BY x r n/\BY x r n<=0):=by
 obtain⟨-,h2,h3⟩:=S2 hx hr hn hxn;have h4 := Zuf (by omega) (by
  have:((r.natAbs*r.natAbs:Nat):Int)=r*r:=Int.natAbs_mul_self;omega) h3
 unfold BY at*;constructor
 ·intro h;rw[if_neg (by omega)]at h4⊢;omega
 ·intro h;by_cases c:x<0
  ·rw[if_pos c]at h4⊢;omega
  ·rw[if_neg c]at h4⊢;omega
theorem Zq4 {a b:Pt} (ha:bd B24 a) (hb:bd B24 b):sqD a b<=3377699720527872:=by
 have h:∀x y:Int,x.natAbs<=B24->y.natAbs<=B24->(x-y)*(x-y)<=1125899906842624:=by
  intro x y hx hy;unfold B24 at*;exact(Dv (x:=x-y) (A:=33554432) (by omega)).2
 have h1:=h _ _ ha.1 hb.1;have h2:=h _ _ ha.2.1 hb.2.1;have h3:=h _ _ ha.2.2 hb.2.2;rw[Qii];omega
theorem Jg {c a:Pt} {d:Int} (hc:bd B24 c) (ha:bd B24 a) (hne:a≠c) (hd:0<=d/\d<AE a c):bd B24 (BP c a d):=by
 have h0:sqD a c≠0:=fun h=>hne (Qhl.1 h);have h1:=O5 a c;have h2:=O3 (AW ha (by decide)) (AW hc (by decide)) (show 67108864<=67108864 by omega);obtain⟨-,g1,g2,g3⟩:=Xb (AW ha (show B24<=67108864 by decide)) (AW hc (show B24<=67108864 by decide));have hl:=HL (AW ha (show B24<=67108864 by decide)) (AW hc (show B24<=67108864 by decide));have hdd:d*d<=sqD a c:=by
  have:=Int.mul_self_le_mul_self hd.1 (show d<=AE a c-1 by omega);omega
 have hd2:d<=33554432*4:=by
  by_cases c2:d<=33554432*4
  ·exact c2
  ·exfalso;have h3:=Int.mul_self_le_mul_self (a:=33554432*4+1) (b:=d) (by omega) (by omega);have h4:=Zq4 ha hc;omega
 obtain⟨q1,q2,q3⟩:=Q13 a c;have hn:0<sqD a c/\sqD a c<=4611686018427387904:=⟨Int.lt_iff_le_and_ne.2 ⟨h1,fun h=>h0 h.symm⟩,Int.le_trans h2 (by decide)⟩;have hd3:0<=d/\d<=33554432*4:=⟨hd.1,hd2⟩;have k1:=Qia (x:=a.x-c.x) (r:=d) (n:=sqD a c) (Nat.le_trans (H8 ha.1 hc.1) (by decide)) hd3 hn q1 hdd;have k2:=Qia (x:=a.y-c.y) (r:=d) (n:=sqD a c) (Nat.le_trans (H8 ha.2.1 hc.2.1) (by decide)) hd3 hn q2 hdd;have k3:=Qia (x:=a.z-c.z) (r:=d) (n:=sqD a c) (Nat.le_trans (H8 ha.2.2 hc.2.2) (by decide)) hd3 hn q3 hdd;have e:∀x y:Int,x+(y-x)=y:=fun x y=>by omega
 exact⟨XD hc.1 (by rw[e];exact ha.1) k1,XD hc.2.1 (by rw[e];exact ha.2.1) k2,XD hc.2.2 (by rw[e];exact ha.2.2) k3⟩
def FP (p c q:Pt):Pt:=⟨p.x-c.x+(q.x-c.x),p.y-c.y+(q.y-c.y),p.z-c.z+(q.z-c.z)⟩
def G8 (p c q:Pt):Int:=I9 (FP p c q) (FP p c q)
theorem Zuo {p c q:Pt} (hp:bd B24 p) (hc:bd B24 c) (hq:bd B24 q):bd 67108864 (FP p c q):=by
 unfold bd B24 FP at*;simp only;omega
def GZ (a c b:Pt) (tol d:Int):Prop:=d<=mn (AE a c) (AE c b)-2/\G8 (BP c a d) c (BP c b d)<=16*tol*tol
theorem Q6 (x y:Int):mn x y<=x/\mn x y<=y:=by unfold mn;split<;>omega
theorem Z1n (a b:Pt):sqD a b=sqD b a:=by
 unfold sqD;exact Ze3 a b
theorem Ro (a b:Pt):AE a b=AE b a:=by unfold AE;rw[Z1n]
open Classical in
noncomputable def FJ (P:Int->Prop):Nat->Int->Int
 |0,d=>if P (d+1)then d+1 else d
 |k+1,d=>FJ P k (if P (d+((2^(k+1):Nat):Int))then d+((2^(k+1):Nat):Int)else d)
open Classical in
theorem Q4e {P:Int->Prop}:∀(k:Nat) (d:Int),d<=FJ P k d/\FJ P k d<d+((2^(k+1):Nat):Int)/\(FJ P k d=d\/P (FJ P k d))
 |0,d=>by
  have e:((2^(0+1):Nat):Int)=2:=rfl;rw[e];unfold FJ;split
  ·rename_i h;exact⟨by omega,by omega, .inr h⟩
  ·exact⟨by omega,by omega, .inl rfl⟩
 |k+1,d=>by
  unfold FJ;have hp:0<2^(k+1):=Nat.two_pow_pos _;have e3:2^(k+1+1)=2^(k+1)+2^(k+1):=by rw[Nat.pow_succ 2 (k+1)];omega
  rw[e3];have hif:(if P (d+((2^(k+1):Nat):Int))then d+((2^(k+1):Nat):Int)else d)=d\/((if P (d+((2^(k+1):Nat):Int))then d+((2^(k+1):Nat):Int)else d)=d+((2^(k+1):Nat):Int)/\P (if P (d+((2^(k+1):Nat):Int))then d+((2^(k+1):Nat):Int)else d)):=by
   split
   ·rename_i h;exact .inr ⟨rfl,h⟩
   ·exact .inl rfl
  generalize(if P (d+((2^(k+1):Nat):Int))then d+((2^(k+1):Nat):Int)else d)=d' at*;obtain⟨h1,h2,h3⟩:=Q4e (P:=P) k d';generalize FJ P k d'=x at*;generalize 2^(k+1)=m at*;rcases hif with hif|⟨hif,hP⟩
  ·subst hif;exact⟨by omega,by omega,h3⟩
  ·refine⟨by omega,by omega, .inr ?_⟩;rcases h3 with h3|h3
   ·rw[h3];exact hP
   ·exact h3
open Classical in
noncomputable def Dj (a c b:Pt) (tol:Int):Int:=if a=c\/b=c then 0 else if FJ (GZ a c b tol) 24 0<16 then 0 else FJ (GZ a c b tol) 24 0
theorem Qdy {a c b:Pt} {tol:Int} (h:Dj a c b tol≠0):a≠c/\b≠c/\16<=Dj a c b tol/\Dj a c b tol<33554432/\GZ a c b tol (Dj a c b tol):=by
 unfold Dj at*;split at h
 ·exact absurd rfl h
 ·rename_i h1;rw[if_neg h1];split at h
  ·exact absurd rfl h
  ·rename_i h2;rw[if_neg h2];obtain⟨h3,h4,h5⟩:=Q4e (P:=GZ a c b tol) 24 0;have e:((2^(24+1):Nat):Int)=33554432:=rfl;rw[e]at h4;refine⟨fun h=>h1 (.inl h),fun h=>h1 (.inr h),by omega,by omega,?_⟩;rcases h5 with h5|h5
   ·omega
   ·exact h5
theorem DS {a b:Pt}:a=b↔a.x=b.x/\a.y=b.y/\a.z=b.z:=by
 obtain⟨a1,a2,a3⟩:=a;obtain⟨b1,b2,b3⟩:=b;simp
def KG (bend:Int):Nat->Int->Int
 |0,n=>n
 |k+1,n=>if n<64/\bend>16*n*n*n*n*4*4 then KG bend k (n*2)else n
def JI (n:Int):Prop:=n=2\/n=4\/n=8\/n=16\/n=32\/n=64
def LH (p c q:Pt):Int:=KG (G8 p c q) 5 2
theorem Qos (b:Int):∀(k:Nat) (n:Int),JI n->JI (KG b k n)
 |0,n,h=>by unfold KG;exact h
 |k+1,n,h=>by
  unfold KG;split
  ·rename_i c;refine Qos b k (n*2) ?_;rcases h with rfl|rfl|rfl|rfl|rfl|rfl<;>simp[JI]at c⊢
  ·exact h
theorem Qly {p c q:Pt} (hp:bd B24 p) (hc:bd B24 c) (hq:bd B24 q):True/\JI (LH p c q):=⟨trivial,Qos _ 5 2 (.inl rfl)⟩
def Nw (n i p c q:Int):Int:=c+Bh ((n-i)*(n-i)*(p-c)+i*i*(q-c)) (n*n)
def Nk (n i:Int) (p c q:Pt):Pt:=⟨Nw n i p.x c.x q.x,Nw n i p.y c.y q.y,Nw n i p.z c.z q.z⟩
theorem R8 {a b n:Int} (hn:0<n) (h:a<=b):Bh a n<=Bh b n:=by
 unfold Bh;exact Int.ediv_le_ediv (by omega) (by omega)
theorem SB {k n:Int} (hn:0<n):Bh (k*n) n=k:=K2 hn (by rw[show k*(2*n)=2*(k*n) by grind];omega) (by rw[show(k+1)*(2*n)=2*(k*n)+2*n by grind];omega)
theorem Ne {n i p c q:Int} {A:Nat} (hn:0<n) (hi:0<=i/\i<=n) (hp:p.natAbs<=A) (hc:c.natAbs<=A) (hq:q.natAbs<=A):(Nw n i p c q).natAbs<=A:=by
 have hnn:0<n*n:=Int.mul_pos hn hn;have h1:0<=(n-i)*(n-i):=Fz _;have h2:0<=i*i:=Fz _;have h3:(n-i)*(n-i)+i*i<=n*n:=by
  have:n*n-((n-i)*(n-i)+i*i)=2*(i*(n-i)):=by grind
  have:0<=i*(n-i):=Int.mul_nonneg hi.1 (by omega);omega
 have key:∀s:Int,(s=1\/s= -1)->s*((n-i)*(n-i)*(p-c)+i*i*(q-c))<=(A-s*c)*(n*n):=by
  intro s hs;have hp':s*p<=A:=by rcases hs with rfl|rfl<;>omega
  have hc':s*c<=A:=by rcases hs with rfl|rfl<;>omega
  have hq':s*q<=A:=by rcases hs with rfl|rfl<;>omega
  have g1:(n-i)*(n-i)*(s*p-s*c)<=(n-i)*(n-i)*(A-s*c):=Int.mul_le_mul_of_nonneg_left (by omega) h1;have g2:i*i*(s*q-s*c)<=i*i*(A-s*c):=Int.mul_le_mul_of_nonneg_left (by omega) h2;have g3:((n-i)*(n-i)+i*i)*(A-s*c)<=n*n*(A-s*c):=Int.mul_le_mul_of_nonneg_right h3 (by omega);have e1:s*((n-i)*(n-i)*(p-c)+i*i*(q-c))=(n-i)*(n-i)*(s*p-s*c)+i*i*(s*q-s*c):=by grind
  have e2:((n-i)*(n-i)+i*i)*(A-s*c)=(n-i)*(n-i)*(A-s*c)+i*i*(A-s*c):=Int.add_mul ..;have e3:(A-s*c)*(n*n)=n*n*(A-s*c):=Int.mul_comm ..;omega
 unfold Nw;have k1:=R8 hnn (key 1 (.inl rfl)|>fun h=>(by rw[Int.one_mul,Int.one_mul]at h;exact h));rw[SB hnn]at k1;have k2:=key (-1) (.inr rfl);have k3:(-(A:Int)-c)*(n*n)<=(n-i)*(n-i)*(p-c)+i*i*(q-c):=by
  have e:(-(A:Int)-c)*(n*n)= -((A- -1*c)*(n*n)):=by grind
  omega
 have k4:=R8 hnn k3;rw[SB hnn]at k4;omega
noncomputable def F2 (a c b:Pt) (tol:Int):List Pt:=
 if Dj a c b tol=0 then [c]
 else(List.range ((LH (BP c a (Dj a c b tol)) c (BP c b (Dj a c b tol))).toNat+1)).map fun(i:Nat)=>Nk (LH (BP c a (Dj a c b tol)) c (BP c b (Dj a c b tol))) i (BP c a (Dj a c b tol)) c (BP c b (Dj a c b tol))
theorem Q19 {a c b:Pt} {tol:Int} (ha:bd B24 a) (hc:bd B24 c) (hb:bd B24 b):(∀p∈F2 a c b tol,bd B24 p)/\1<=(F2 a c b tol).length/\(F2 a c b tol).length<=65:=by
 unfold F2;by_cases h:Dj a c b tol=0
 ·rw[if_pos h];simp;exact hc
 ·rw[if_neg h];obtain⟨h1,h2,h3,h4,h5,-⟩:=Qdy h;obtain⟨m1,m2⟩:=Q6 (AE a c) (AE c b);generalize Dj a c b tol=d at*;have k1:bd B24 (BP c a d):=Jg hc ha h1 (by omega);have k2:bd B24 (BP c b d):=Jg hc hb h2 (by rw[Ro b c];omega);have k3:=(Qly k1 hc k2).2;generalize LH (BP c a d) c (BP c b d)=n at*;have hn:2<=n/\n<=64:=by rcases k3 with rfl|rfl|rfl|rfl|rfl|rfl<;>omega
  refine⟨?_,by simp,by simp;omega⟩;intro p hp;simp only[List.mem_map,List.mem_range]at hp;obtain⟨i,hi,rfl⟩:=hp;exact⟨Ne (by omega) (by omega) k1.1 hc.1 k2.1,Ne (by omega) (by omega) k1.2.1 hc.2.1 k2.2.1,Ne (by omega) (by omega) k1.2.2 hc.2.2 k2.2.2⟩
end Go.Bm
namespace Go.Bm
theorem Zc0 {v n:Int} (_:i64 v) (hn:0<n/\n<=4611686018427387904):Mh [I v,I n]=some [I (v%n)]:=by
 unfold Mh;rw[Zef,AZ (by omega),AZ (by omega)];have h1: -n<v.tmod n/\v.tmod n<n:=by
  have a1:=Int.tmod_lt_of_pos v hn.1;have a2:=Int.lt_tmod_of_pos v hn.1;omega
 rw[Ae (by omega)];have h2:(v.tmod n+n).tmod n=v%n:=by
  rw[Int.tmod_eq_emod_of_nonneg (by omega),Int.add_emod_right];have h3:=Int.tmod_add_mul_tdiv v n;have h4:v%n=(v.tmod n+n*v.tdiv n)%n:=by rw[h3]
  rw[h4,Int.add_mul_emod_self_left]
 rw[h2]
end Go.Bm
namespace Go.Bm
def Src (l:Rw):Prop:=l.length<=9223372036854775807/\∀c∈l,i64 (Af (nth .dead c 0))
theorem Zow {l:Rw} {i:Nat} (h:i<l.length):nth [] l i∈l:=by rw[GP [] l i h];exact List.getElem_mem h
theorem Zvo {M:Fn} (hM:∀v n:Int,i64 v->0<n/\n<=4611686018427387904->M [I v,I n]=some [I (v%n)]) {l:Rw} (hl:Src l) {k:Nat} {n:Int} (hn:0<n/\n<=4611686018427387904):
  ∃(v:Int) (k':Nat),Qbf M [I n, .view Aa l,I k]=some [I v, .view Aa l,I k']/\0<=v/\v<n/\k<=k'/\(k<l.length->k'=k+1)/\(l.length<=k->k'=k):=by
 have hl1:=hl.1;rw[Z2k];by_cases h:k<l.length
 ·have h1:=hM _ n (hl.2 _ (Zow h)) hn;simp only[go_sem,Int.toNat_natCast,h1];rw[if_neg (by omega),if_pos (by omega),Ae (by omega)];exact⟨_,k+1,rfl,Int.emod_nonneg _ (by omega),Int.emod_lt_of_pos _ hn.1,by omega,fun _=>rfl,by omega⟩
 ·simp only[go_sem];rw[if_pos (by omega)];exact⟨0,k,rfl,by omega,hn.1,by omega,by omega,fun _=>rfl⟩
theorem Zp0 {l:Rw} (hl:Src l) (k:Nat) {n:Int} (hn:0<n/\n<=4611686018427387904):
  ∃(v:Int) (k':Nat),Cj [I n, .view Aa l,I k]=some [I v, .view Aa l,I k']/\0<=v/\v<n/\k<=k'/\(k<l.length->k'=k+1)/\(l.length<=k->k'=k):=
 Zvo (fun _ _ hv hn=>Zc0 hv hn) hl hn
theorem Zb5 (l:Rw) (k:Nat):Kh [.view Aa l,I k]=some [B (decide (k<l.length)), .view Aa l,I k]:=by
 unfold Kh;rw[Zet];congr 3;simp
theorem RF (l:Rw):DA [.view Aa l]=some [.view Aa l,I 0]:=by
 unfold DA;rw[Zhd]
def AR (r:Int) (k:Int):Int:=if k%4=0 then r else if k%4=2 then-r else 0
def AQ (r:Int) (k:Int):Int:=if k%4=1 then r else if k%4=3 then-r else 0
theorem Zuw {r k:Int} (hr:0<=r/\r<=1000000) (hk:0<=k/\k<=1000):Oi [I r,I k]=some [I (AR r k),I (AQ r k)]:=by
 unfold Oi;rw[Zm1,Ae (by omega),Int.tmod_eq_emod_of_nonneg hk.1];have hc:k%4=0\/k%4=1\/k%4=2\/k%4=3:=by omega
 unfold AR AQ;rcases hc with h|h|h|h<;>rw[h]<;>simp[nth,Af]
end Go.Bm
namespace Go.Bm
def plU (pl:Int) (p:Pt):Int:=if pl=17 then p.x else if pl=18 then p.z else p.y
def plW (pl:Int) (p:Pt):Int:=if pl=17 then p.y else if pl=18 then p.x else p.z
def plH (pl:Int) (p:Pt):Int:=if pl=17 then p.z else if pl=18 then p.y else p.x
def spP (pl u w h:Int):Pt:=if pl=17 then⟨u,w,h⟩else if pl=18 then⟨w,h,u⟩else⟨h,u,w⟩
def Dc (pl:Int):Prop:=pl=17\/pl=18\/pl=19
theorem Zwg {p:Pt} {pl:Int} (h:Dc pl):M8 [I p.x,I p.y,I p.z,I pl]=some [I (plU pl p),I (plW pl p),I (plH pl p)]:=by
 unfold M8;rw[Zhz];rcases h with rfl|rfl|rfl<;>rfl
theorem Q9y {u w h pl:Int} (hp:Dc pl):NZ [I u,I w,I h,I pl]=some (ptR (spP pl u w h)):=by
 unfold NZ;rw[Zbm];rcases hp with rfl|rfl|rfl<;>rfl
theorem OH {pl u w h:Int} (hp:Dc pl):plU pl (spP pl u w h)=u/\plW pl (spP pl u w h)=w/\plH pl (spP pl u w h)=h:=by
 rcases hp with rfl|rfl|rfl<;>exact⟨rfl,rfl,rfl⟩
structure ArcMade (size : Int) (it : Itm) : Prop where
 kind:it.kind=3
 aG:Dc it.aG
 dir:it.dir=1\/it.dir= -1
 ends:∃r k t g h:Int,8<=r/\r<8+size/\0<=k/\k<=3/\0<=t/\t<=3/\0<=g/\g<=4/\(h=0\/h=7\/h= -12)/\(t=0->g=0)/\it.full=decide (t=0)/\
  it.ce=spP it.aG (plU it.aG it.fr-AR r k) (plW it.aG it.fr-AQ r k) (plH it.aG it.fr)/\
  it.to=spP it.aG (plU it.aG it.fr-AR r k+AR (r+g) (k+t)) (plW it.aG it.fr-AQ r k+AQ (r+g) (k+t)) (plH it.aG it.fr+h)
theorem On {r k:Int} (hr:0<=r):(-r<=AR r k/\AR r k<=r)/\(-r<=AQ r k/\AQ r k<=r):=by
 unfold AR AQ;constructor<;>constructor<;>split<;>(try split)<;>omega
theorem Zk4 {r:Int} (hr:1<=r) (k:Int):((AR r k).tdiv r=AR 1 k)/\((AQ r k).tdiv r=AQ 1 k):=by
 have h1:r.tdiv r=1:=Int.tdiv_self (by omega);have h2:(-r).tdiv r= -1:=by rw[Int.neg_tdiv,h1]
 unfold AR AQ;constructor<;>split<;>(try split)<;>simp[h1,h2]
theorem Zxk (r k e f:Int):∃g,(g=e\/g=f)/\AR r k+AR 1 k*e=AR (r+g) k/\AQ r k+AQ 1 k*f=AQ (r+g) k:=by
 unfold AR AQ;by_cases h:k%4=0\/k%4=2
 ·refine⟨e, .inl rfl,?_,?_⟩
  ·rcases h with h|h<;>simp[h]<;>omega
  ·rcases h with h|h<;>simp[h]
 ·have hc:k%4=1\/k%4=3:=by omega
  refine⟨f, .inr rfl,?_,?_⟩
  ·rcases hc with h|h<;>simp[h]
  ·rcases hc with h|h<;>simp[h]<;>omega
theorem Hg {pl:Int} {p:Pt} {b:Nat} (h:bd b p):(plU pl p).natAbs<=b/\(plW pl p).natAbs<=b/\(plH pl p).natAbs<=b:=by
 obtain⟨h1,h2,h3⟩:=h;unfold plU plW plH;refine⟨?_,?_,?_⟩<;>split<;>(try split)<;>assumption
def HI (l:Rw) (M:Fn):Prop:=∀(k:Nat) {n:Int},0<n/\n<=4611686018427387904->
  ∃(v:Int) (k':Nat),M [I n, .view Aa l,I k]=some [I v, .view Aa l,I k']/\0<=v/\v<n/\k<=k'/\(k<l.length->k'=k+1)/\(l.length<=k->k'=k)
abbrev FG (it:Itm):Prop:=it.block=0/\it.side=0/\it.radius=0/\it.speed=0/\it.on=false
theorem Zm5 {v:Int} (h:0<=v/\v<3):Af (nth .dead (nth [] [[I 17],[I 18],[I 19]] v.toNat) 0)=17+v:=by
 have hc:v=0\/v=1\/v=2:=by omega
 rcases hc with rfl|rfl|rfl<;>rfl
theorem Qy3 {v:Int} (h:0<=v/\v<4):∃x,Af (nth .dead (nth [] [[I 0],[I 0],[I 7],[I (-12)]] v.toNat) 0)=x/\(x=0\/x=7\/x= -12):=by
 have hc:v=0\/v=1\/v=2\/v=3:=by omega
 rcases hc with rfl|rfl|rfl|rfl<;>exact⟨_,rfl,by decide⟩
theorem Q9x {MS MT MP MN:Fn} {l:Rw} (hN:HI l MN)
  (hP:∀{p:Pt} {pl:Int},Dc pl->MP [I p.x,I p.y,I p.z,I pl]=some [I (plU pl p),I (plW pl p),I (plH pl p)])
  (hS:∀{u w h pl:Int},Dc pl->MS [I u,I w,I h,I pl]=some (ptR (spP pl u w h)))
  (hT:∀{r k:Int},(0<=r/\r<=1000000)->(0<=k/\k<=1000)->MT [I r,I k]=some [I (AR r k),I (AQ r k)])
  {p:Pt} (hp:bd 100000000 p) {size:Int} (hs:0<size/\size<=100000) (k:Nat):
  ∃(it:Itm) (k':Nat),Yu MS MT MP MN [I p.x,I p.y,I p.z,I size, .view Aa l,I k]=some (Ag it++[.view Aa l,I k'])/\k<=k'/\it.fr=p/\ArcMade size it/\
   it.feed=0/\it.perRev=false/\it.blend=0/\it.n=0/\FG it:=by
 obtain⟨v1,k1,e1,a1,b1,c1,-,-⟩:=hN k (n:=3) (by omega);obtain⟨v2,k2,e2,a2,b2,c2,-,-⟩:=hN k1 (n:=2) (by omega);obtain⟨v3,k3,e3,a3,b3,c3,-,-⟩:=hN k2 (n:=size) (by omega);obtain⟨v4,k4,e4,a4,b4,c4,-,-⟩:=hN k3 (n:=4) (by omega);obtain⟨v5,k5,e5,a5,b5,c5,-,-⟩:=hN k4 (n:=4) (by omega);rw[Zt4];simp only[go_sem,e1,e2,e3,e4,e5];rw[if_pos (by simp;omega)];have hpl:Dc (17+v1):=by unfold Dc;omega
 have w1:wrap .i64 (8+v3)=8+v3:=Ae (by omega);have w2:wrap .i64 (v4+v5)=v4+v5:=Ae (by omega);simp only[Zm5 ⟨a1,b1⟩,hP hpl,go_sem,w1,w2,hT (r:=8+v3) (k:=v4) (by omega) (by omega),hT (r:=8+v3) (k:=v4+v5) (by omega) (by omega),hS hpl];obtain⟨q1,q2,q3⟩:=Hg (pl:=17+v1) hp;obtain⟨⟨r1,r2⟩,r3,r4⟩:=On (r:=8+v3) (k:=v4) (by omega);obtain⟨⟨r5,r6⟩,r7,r8⟩:=On (r:=8+v3) (k:=v4+v5) (by omega);obtain⟨d1,d2⟩:=Zk4 (r:=8+v3) (by omega) (v4+v5);obtain⟨⟨r9,r10⟩,r11,r12⟩:=On (r:=1) (k:=v4+v5) (by omega);have w3:wrap .i64 (plU (17+v1) p-AR (8+v3) v4)=plU (17+v1) p-AR (8+v3) v4:=Ae (by omega);have w4:wrap .i64 (plW (17+v1) p-AQ (8+v3) v4)=plW (17+v1) p-AQ (8+v3) v4:=Ae (by omega);have w5:wrap .i64 (1-wrap .i64 (v2*2))=1-v2*2:=by rw[Ae (x:=v2*2) (by omega),Ae (by omega)]
 have w6:wrap .i64 (plU (17+v1) p-AR (8+v3) v4+AR (8+v3) (v4+v5))=plU (17+v1) p-AR (8+v3) v4+AR (8+v3) (v4+v5):=Ae (by omega);have w7:wrap .i64 (plW (17+v1) p-AQ (8+v3) v4+AQ (8+v3) (v4+v5))=plW (17+v1) p-AQ (8+v3) v4+AQ (8+v3) (v4+v5):=Ae (by omega);rw[w3,w4,w5,w6,w7];have hdir:1-v2*2=1\/1-v2*2= -1:=by omega
 have fin:∀(g:Int) (u w:Int) (k8:Nat),k5<=k8->0<=g->g<=4->(v5=0->g=0)->u=AR (8+v3+g) (v4+v5)->w=AQ (8+v3+g) (v4+v5)->∀v9:Int,0<=v9/\v9<4->
   ∃it:Itm,[I 3,I 0,I p.x,I p.y,I p.z,I (spP (17+v1) (plU (17+v1) p-AR (8+v3) v4+u) (plW (17+v1) p-AQ (8+v3) v4+w) (plH (17+v1) p+Af (nth .dead (nth [] [[I 0],[I 0],[I 7],[I (-12)]] v9.toNat) 0))).x,
    I (spP (17+v1) (plU (17+v1) p-AR (8+v3) v4+u) (plW (17+v1) p-AQ (8+v3) v4+w) (plH (17+v1) p+Af (nth .dead (nth [] [[I 0],[I 0],[I 7],[I (-12)]] v9.toNat) 0))).y,
    I (spP (17+v1) (plU (17+v1) p-AR (8+v3) v4+u) (plW (17+v1) p-AQ (8+v3) v4+w) (plH (17+v1) p+Af (nth .dead (nth [] [[I 0],[I 0],[I 7],[I (-12)]] v9.toNat) 0))).z,
    I (17+v1),I (spP (17+v1) (plU (17+v1) p-AR (8+v3) v4) (plW (17+v1) p-AQ (8+v3) v4) (plH (17+v1) p)).x,I (spP (17+v1) (plU (17+v1) p-AR (8+v3) v4) (plW (17+v1) p-AQ (8+v3) v4) (plH (17+v1) p)).y,I (spP (17+v1) (plU (17+v1) p-AR (8+v3) v4) (plW (17+v1) p-AQ (8+v3) v4) (plH (17+v1) p)).z,
    I (1-v2*2),B (decide (v5=0)),I 0,B false,I 0,I 0,I 0,I 0,I 0,B false, .view Aa l,I k8]=Ag it++[.view Aa l,I k8]/\it.fr=p/\ArcMade size it/\it.feed=0/\it.perRev=false/\it.blend=0/\it.n=0/\FG it:=by
  intro g u w k8 hk8 hg0 hg4 hg5 hu hw v9 hv9;obtain⟨x,hx,hx3⟩:=Qy3 hv9;rw[hx];refine⟨⟨3,0,p,_,17+v1,_,1-v2*2,decide (v5=0),0,false,0,0,0,0,0,false⟩,rfl,rfl,⟨rfl,hpl,hdir,8+v3,v4,v5,g,x,?_⟩,rfl,rfl,rfl,rfl,rfl,rfl,rfl,rfl,rfl⟩;subst hu hw;exact⟨by omega,by omega,by omega,by omega,by omega,by omega,hg0,hg4,hx3,hg5,rfl,rfl,rfl⟩
 have hgh:∀v9:Int,0<=v9/\v9<4->wrap .i64 (plH (17+v1) p+Af (nth .dead (nth [] [[I 0],[I 0],[I 7],[I (-12)]] v9.toNat) 0))=plH (17+v1) p+Af (nth .dead (nth [] [[I 0],[I 0],[I 7],[I (-12)]] v9.toNat) 0):=by
  intro v9 hv9;obtain⟨x,hx,hx3⟩:=Qy3 hv9;rw[hx];exact Ae (by omega)
 have hfull:(v5==0)=decide (v5=0):=rfl;by_cases hv5:v5>0
 ·rw[if_pos hv5];obtain⟨v6,k6,e6,a6,b6,c6,-,-⟩:=hN k5 (n:=3) (by omega);simp only[go_sem,e6];by_cases hv6:v6=0
  ·rw[if_pos hv6,if_neg (by omega)];obtain⟨v7,k7,e7,a7,b7,c7,-,-⟩:=hN k6 (n:=5) (by omega);obtain⟨v8,k8,e8,a8,b8,c8,-,-⟩:=hN k7 (n:=5) (by omega);obtain⟨v9,k9,e9,a9,b9,c9,-,-⟩:=hN k8 (n:=4) (by omega);simp only[go_sem,e7,e8,e9];rw[if_neg (by omega),if_pos (by simp;omega),hgh v9 ⟨a9,b9⟩,d1,d2];obtain⟨g,hg,hu,hw⟩:=Zxk (8+v3) (v4+v5) v7 v8;have mu: -4<=AR 1 (v4+v5)*v7/\AR 1 (v4+v5)*v7<=4:=by
    have hc:AR 1 (v4+v5)= -1\/AR 1 (v4+v5)=0\/AR 1 (v4+v5)=1:=by omega
    rcases hc with h|h|h<;>rw[h]<;>omega
   have mw: -4<=AQ 1 (v4+v5)*v8/\AQ 1 (v4+v5)*v8<=4:=by
    have hc:AQ 1 (v4+v5)= -1\/AQ 1 (v4+v5)=0\/AQ 1 (v4+v5)=1:=by omega
    rcases hc with h|h|h<;>rw[h]<;>omega
   rw[Ae (x:=AR 1 (v4+v5)) (by omega),Ae (x:=AQ 1 (v4+v5)) (by omega),Ae (x:=AR 1 (v4+v5)*v7) (by omega),Ae (x:=AQ 1 (v4+v5)*v8) (by omega),
    Ae (x:=AR (8+v3) (v4+v5)+_) (by omega),Ae (x:=AQ (8+v3) (v4+v5)+_) (by omega),hu,hw]
   obtain⟨⟨s1,s2⟩,s3,s4⟩:=On (r:=8+v3+g) (k:=v4+v5) (by omega);rw[Ae (x:=_+AR (8+v3+g) (v4+v5)) (by omega),Ae (x:=_+AQ (8+v3+g) (v4+v5)) (by omega)];obtain⟨it,h1,h2⟩:=fin g _ _ k9 (by omega) (by omega) (by omega) (by omega) rfl rfl v9 ⟨a9,b9⟩;refine⟨it,k9,?_,by omega,h2⟩;exact congrArg some h1
  ·rw[if_neg hv6];obtain⟨v9,k9,e9,a9,b9,c9,-,-⟩:=hN k6 (n:=4) (by omega);simp only[go_sem,e9];rw[if_pos (by simp;omega),hgh v9 ⟨a9,b9⟩];obtain⟨it,h1,h2⟩:=fin 0 _ _ k9 (by omega) (by omega) (by omega) (by omega) (by rw[Int.add_zero]) (by rw[Int.add_zero]) v9 ⟨a9,b9⟩;refine⟨it,k9,?_,by omega,h2⟩;exact congrArg some h1
 ·rw[if_neg hv5];obtain⟨v9,k9,e9,a9,b9,c9,-,-⟩:=hN k5 (n:=4) (by omega);simp only[go_sem,e9];rw[if_pos (by simp;omega),hgh v9 ⟨a9,b9⟩];obtain⟨it,h1,h2⟩:=fin 0 _ _ k9 (by omega) (by omega) (by omega) (by omega) (by rw[Int.add_zero]) (by rw[Int.add_zero]) v9 ⟨a9,b9⟩;refine⟨it,k9,?_,by omega,h2⟩;exact congrArg some h1
theorem Jc {l:Rw} (hl:Src l):HI l Cj:=fun k _ hn=>Zp0 hl k hn
theorem Zbs {l:Rw} (hl:Src l) {p:Pt} (hp:bd 100000000 p) {size:Int} (hs:0<size/\size<=100000) (k:Nat):
  ∃(it:Itm) (k':Nat),PW [I p.x,I p.y,I p.z,I size, .view Aa l,I k]=some (Ag it++[.view Aa l,I k'])/\k<=k'/\it.fr=p/\ArcMade size it/\
   it.feed=0/\it.perRev=false/\it.blend=0/\it.n=0/\FG it:=
 Q9x (Jc hl) Zwg Q9y Zuw hp hs k
end Go.Bm
namespace Go.Bm
structure Made (it : Itm) : Prop where
 kind:1<=it.kind/\it.kind<=6
 line:it.kind≠3->(it.to.x-it.fr.x).natAbs<=16/\(it.to.y-it.fr.y).natAbs<=16/\(it.to.z-it.fr.z).natAbs<=16
 arc:it.kind=3->ArcMade 8 it
 feed:it.kind≠1->1<=it.feed/\it.feed<=60000000
 blend:0<=it.blend/\it.blend<=9
 sync:it.kind=5\/it.kind=6->it.blend=0/\it.feed<=60
 free:it.kind<=4->it.perRev=false
 full:it.kind≠3->it.full=false
theorem Q2y {v:Int} (h:0<=v/\v<5):∃x,Af (nth .dead (nth [] [[I 300000],[I 1],[I 60000],[I 2000000],[I 60000000]] v.toNat) 0)=x/\1<=x/\x<=60000000:=by
 have hc:v=0\/v=1\/v=2\/v=3\/v=4:=by omega
 rcases hc with rfl|rfl|rfl|rfl|rfl<;>exact⟨_,rfl,by decide⟩
theorem Qpi {v:Int} (h:0<=v/\v<5):∃x,Af (nth .dead (nth [] [[I 0],[I 1],[I 2],[I 4],[I 9]] v.toNat) 0)=x/\0<=x/\x<=9:=by
 have hc:v=0\/v=1\/v=2\/v=3\/v=4:=by omega
 rcases hc with rfl|rfl|rfl|rfl|rfl<;>exact⟨_,rfl,by decide⟩
theorem Z1e {size:Int} {it:Itm} (h:ArcMade size it) (f b:Int) (pr:Bool) (n:Int):ArcMade size {it with feed:=f,blend:=b,perRev:=pr,n:=n}:=⟨h.kind,h.aG,h.dir,h.ends⟩
theorem Zs2 {MA MN:Fn} {l:Rw} (hN:HI l MN)
  (hA:∀{p:Pt},bd 100000000 p->∀k:Nat,∃(it:Itm) (k':Nat),MA [I p.x,I p.y,I p.z,I 8, .view Aa l,I k]=some (Ag it++[.view Aa l,I k'])/\k<=k'/\it.fr=p/\ArcMade 8 it/\it.feed=0/\it.perRev=false/\it.blend=0/\it.n=0/\FG it)
  {p:Pt} (hp:bd 100000000 p) {kind:Int} (hk:1<=kind/\kind<=6) (k:Nat):
  ∃(it:Itm) (k':Nat),Y8 MN MA [I p.x,I p.y,I p.z,I kind, .view Aa l,I k]=some (Ag it++[.view Aa l,I k'])/\k<=k'/\it.fr=p/\it.kind=kind/\Made it/\FG it:=by
 rw[Q8w];obtain⟨hp1,hp2,hp3⟩:=hp;by_cases h3:kind=3
 ·subst h3;obtain⟨it,k1,e1,c1,g1,g2,g3,g4,g5,g6,g7,g8,g9,g10,g11⟩:=hA ⟨hp1,hp2,hp3⟩ k;obtain⟨v2,k2,e2,a2,b2,c2,-,-⟩:=hN k1 (n:=5) (by omega);obtain⟨v3,k3,e3,a3,b3,c3,-,-⟩:=hN k2 (n:=5) (by omega);simp only[go_sem,e1,Ag,List.cons_append,List.nil_append,e2,e3];rw[if_neg (by omega),if_pos (by simp;omega),if_pos (by simp;omega),if_neg (by omega),if_neg (by omega),if_neg (by omega)];obtain⟨f,hf,hf1,hf2⟩:=Q2y ⟨a2,b2⟩;obtain⟨b,hb,hb1,hb2⟩:=Qpi ⟨a3,b3⟩;rw[hf,hb];have hka:=g2.kind;refine⟨{it with feed:=f,blend:=b,perRev:=it.perRev,n:=it.n},k3,rfl,by omega,g1,hka,⟨?_,?_,?_,?_,?_,?_,?_,?_⟩,g7,g8,g9,g10,g11⟩
  ·show 1<=it.kind/\it.kind<=6;omega
  ·exact fun h=>absurd hka h
  ·exact fun _=>Z1e g2 f b _ _
  ·exact fun _=>⟨hf1,hf2⟩
  ·exact⟨hb1,hb2⟩
  ·intro h;change it.kind=5\/it.kind=6 at h;omega
  ·exact fun _=>g4
  ·exact fun h=>absurd hka h
 ·simp only[go_sem];rw[if_neg h3];obtain⟨v1,k1,e1,a1,b1,c1,-,-⟩:=hN k (n:=25) (by omega);obtain⟨v2,k2,e2,a2,b2,c2,-,-⟩:=hN k1 (n:=25) (by omega);obtain⟨v3,k3,e3,a3,b3,c3,-,-⟩:=hN k2 (n:=3) (by omega);obtain⟨v4,k4,e4,a4,b4,c4,-,-⟩:=hN k3 (n:=9) (by omega);obtain⟨v5,k5,e5,a5,b5,c5,-,-⟩:=hN k4 (n:=2) (by omega);simp only[go_sem,e1,e2,e3,e4,e5];have hm:0<=v3*v4/\v3*v4<=16:=by
   have hc:v3=0\/v3=1\/v3=2:=by omega
   rcases hc with rfl|rfl|rfl<;>omega
  generalize v3*v4=m at hm;have w1:wrap .i64 (wrap .i64 (p.x+v1)-12)=p.x+v1-12:=by rw[Ae (x:=p.x+v1) (by omega),Ae (by omega)]
  have w2:wrap .i64 (wrap .i64 (p.y+v2)-12)=p.y+v2-12:=by rw[Ae (x:=p.y+v2) (by omega),Ae (by omega)]
  have w3:wrap .i64 (wrap .i64 (p.z+wrap .i64 m)-wrap .i64 (8*v5))=p.z+m-8*v5:=by
   rw[Ae (x:=m) (by omega),Ae (x:=p.z+m) (by omega),Ae (x:=8*v5) (by omega),Ae (by omega)]
  rw[w1,w2,w3]
  have mk:∀(f b n:Int) (pr:Bool),(kind≠1->1<=f/\f<=60000000)->(0<=b/\b<=9)->(kind=5\/kind=6->b=0/\f<=60)->(kind<=4->pr=false)->
    ∃it:Itm,Ag it=[I kind,I 0,I p.x,I p.y,I p.z,I (p.x+v1-12),I (p.y+v2-12),I (p.z+m-8*v5),I 0,I 0,I 0,I 0,I 0,B false,I f,B pr,I 0,I 0,I b,I n,I 0,B false]/\it.fr=p/\it.kind=kind/\Made it/\FG it:=by
   intro f b n pr h1 h2 h4 h5;refine⟨⟨kind,0,p,⟨p.x+v1-12,p.y+v2-12,p.z+m-8*v5⟩,0,⟨0,0,0⟩,0,false,f,pr,0,0,b,n,0,false⟩,rfl,rfl,rfl,⟨hk,fun _=> ?_,fun h=>absurd h h3,h1,h2,h4,h5,fun _=>rfl⟩,rfl,rfl,rfl,rfl,rfl⟩;show(p.x+v1-12-p.x).natAbs<=16/\(p.y+v2-12-p.y).natAbs<=16/\(p.z+m-8*v5-p.z).natAbs<=16;omega
  have en:∀(f b n:Int) (pr:Bool) (k':Nat),k<=k'->(kind≠1->1<=f/\f<=60000000)->(0<=b/\b<=9)->(kind=5\/kind=6->b=0/\f<=60)->(kind<=4->pr=false)->
    ∃(it:Itm) (k'':Nat),some [I kind,I 0,I p.x,I p.y,I p.z,I (p.x+v1-12),I (p.y+v2-12),I (p.z+m-8*v5),I 0,I 0,I 0,I 0,I 0,B false,I f,B pr,I 0,I 0,I b,I n,I 0,B false, .view Aa l,I k']=some (Ag it++[.view Aa l,I k''])/\k<=k''/\it.fr=p/\it.kind=kind/\Made it/\FG it:=by
   intro f b n pr k' h0 h1 h2 h4 h5;obtain⟨it,i1,i2⟩:=mk f b n pr h1 h2 h4 h5;refine⟨it,k',?_,h0,i2⟩;rw[i1];rfl
  by_cases h1:kind=1
  ·rw[if_pos h1];exact en _ _ _ _ _ (by omega) (fun h=>absurd h1 h) (by omega) (by omega) (fun _=>rfl)
  ·rw[if_neg h1];obtain⟨v6,k6,e6,a6,b6,c6,-,-⟩:=hN k5 (n:=5) (by omega);obtain⟨v7,k7,e7,a7,b7,c7,-,-⟩:=hN k6 (n:=5) (by omega);obtain⟨v8,k8,e8,a8,b8,c8,-,-⟩:=hN k7 (n:=60) (by omega);obtain⟨v9,k9,e9,a9,b9,c9,-,-⟩:=hN k8 (n:=2) (by omega);simp only[go_sem,e6,e7,e8,e9];rw[if_pos (by simp;omega),if_pos (by simp;omega)];obtain⟨f,hf,hf1,hf2⟩:=Q2y ⟨a6,b6⟩;obtain⟨b,hb,hb1,hb2⟩:=Qpi ⟨a7,b7⟩;rw[hf,hb,Ae (x:=1+v8) (by omega),Ae (x:=3+v9) (by omega)];by_cases h5:kind=5
   ·rw[if_pos h5,if_neg (by omega)];exact en _ _ _ _ _ (by omega) (by omega) (by omega) (by omega) (by omega)
   ·rw[if_neg h5];by_cases h6:kind=6
    ·rw[if_pos h6,if_pos h6];exact en _ _ _ _ _ (by omega) (by omega) (by omega) (by omega) (by omega)
    ·rw[if_neg h6];by_cases h4:kind=4
     ·rw[if_pos h4];exact en _ _ _ _ _ (by omega) (by omega) (by omega) (by omega) (fun _=>rfl)
     ·rw[if_neg h4];exact en _ _ _ _ _ (by omega) (by omega) (by omega) (by omega) (fun _=>rfl)
theorem Ze9 {l:Rw} (hl:Src l) {p:Pt} (hp:bd 100000000 p) {kind:Int} (hk:1<=kind/\kind<=6) (k:Nat):
  ∃(it:Itm) (k':Nat),LR [I p.x,I p.y,I p.z,I kind, .view Aa l,I k]=some (Ag it++[.view Aa l,I k'])/\k<=k'/\it.fr=p/\it.kind=kind/\Made it/\FG it:=
 Zs2 (Jc hl) (fun hp k=>Zbs hl hp (by omega) k) hp hk k
end Go.Bm
namespace Go.Bm
def Qte:Pt->List Itm->Prop
 |_,[]=>True
 |p,it::l=>it.fr=p/\Qte it.to l
structure Motions (B : Nat) (p : Pt) (l : List Itm) : Prop where
 D5:Qte p l
 made:∀it∈l,Made it/\FG it/\it.kind<=3/\bd B it.fr/\bd B it.to
theorem Qas {size:Int} {b:Nat} {it:Itm} (h:ArcMade size it) (hs:size<=1000) (hf:bd b it.fr):bd (b+2*(12+size.toNat)) it.to/\bd (b+8+size.toNat) it.ce:=by
 obtain⟨r,k,t,g,x,h1,h2,h3,h4,h5,h6,h7,h8,h9,h10,h11,h12,h13⟩:=h.ends;obtain⟨q1,q2,q3⟩:=Hg (pl:=it.aG) hf;obtain⟨⟨r1,r2⟩,r3,r4⟩:=On (r:=r) (k:=k) (by omega);obtain⟨⟨r5,r6⟩,r7,r8⟩:=On (r:=r+g) (k:=k+t) (by omega);rw[h12,h13];unfold bd spP;constructor<;>split<;>(try split)<;>refine⟨?_,?_,?_⟩<;>simp only<;>omega
theorem Qye {b:Nat} {it:Itm} (h:Made it) (hf:bd b it.fr):bd (b+40) it.to:=by
 by_cases h3:it.kind=3
 ·exact AW (Qas (h.arc h3) (by omega) hf).1 (by omega)
 ·obtain⟨h1,h2,h4⟩:=h.line h3;obtain⟨g1,g2,g3⟩:=hf;exact⟨by omega,by omega,by omega⟩
end Go.Bm
namespace Go.Bm
instance (pl:Int):Decidable (Dc pl):=by unfold Dc;infer_instance
instance (A:Nat) (p:Pt):Decidable (bd A p):=by unfold bd;infer_instance
def dU (it:Itm) (p:Pt):Int:=plU it.aG p-plU it.aG it.ce
def dW (it:Itm) (p:Pt):Int:=plW it.aG p-plW it.aG it.ce
def sq2 (u w:Int):Int:=u*u+w*w
def crs (u w x y:Int):Int:=u*y-w*x
def dt2 (u w x y:Int):Int:=u*x+w*y
def qA (it:Itm):Int:=sq2 (dU it it.fr) (dW it it.fr)
def qB (it:Itm):Int:=sq2 (dU it it.to) (dW it it.to)
def cAB (it:Itm):Int:=crs (dU it it.fr) (dW it it.fr) (dU it it.to) (dW it it.to)
def dAB (it:Itm):Int:=dt2 (dU it it.fr) (dW it it.fr) (dU it it.to) (dW it it.to)
def HF (X Y:Int):Prop:=X+Y-16<=0\/(X+Y-16)*(X+Y-16)<=4*X*Y
def Qhm (it:Itm):Prop:=64<=qA it/\64<=qB it/\HF (qA it) (qB it)/\(it.full=true->dU it it.fr=dU it it.to/\dW it it.fr=dW it it.to)/\(it.full=false->cAB it≠0\/dAB it<0)
def Zf3 (it:Itm):Prop:=Dc it.aG/\(it.dir=1\/it.dir= -1)/\bd 1048576 it.ce/\Qhm it
def Dt (it:Itm):Prop:=(1<=it.kind/\it.kind<=6)/\bd 1048576 it.fr/\bd 1048576 it.to/\(it.kind=3->Zf3 it)
theorem Qio {it:Itm} {p:Pt} {b c:Nat} (hc:bd c it.ce) (h:bd b p):(dU it p).natAbs<=b+c/\(dW it p).natAbs<=b+c:=by
 obtain⟨h1,h2,h3⟩:=Hg (pl:=it.aG) h;obtain⟨g1,g2,g3⟩:=Hg (pl:=it.aG) hc;unfold dU dW;omega
theorem Qyb (x:Int) {b:Nat} (h:x.natAbs<=b):0<=x*x/\x*x<=((b*b:Nat):Int):=by
 have h1:=Hw h h;have h2:0<=x*x:=by rw[<-Int.natAbs_mul_self];omega
 omega
theorem Qrm {u w:Int} {b:Nat} (hu:u.natAbs<=b) (hw:w.natAbs<=b):0<=sq2 u w/\sq2 u w<=((2*(b*b):Nat):Int):=by
 have h1:=Qyb u hu;have h2:=Qyb w hw;unfold sq2;omega
theorem Q4f {u w x y:Int} {b c:Nat} (hu:u.natAbs<=b) (hw:w.natAbs<=b) (hx:x.natAbs<=c) (hy:y.natAbs<=c):(dt2 u w x y).natAbs<=2*(b*c)/\(crs u w x y).natAbs<=2*(b*c):=by
 have h1:=Hw hu hx;have h2:=Hw hw hy;have h3:=Hw hu hy;have h4:=Hw hw hx;unfold dt2 crs;omega
theorem Zih {X Y:Int} (hX:64<=X) (hY:64<=Y):HF X Y↔(max X Y-min X Y-16<=0\/(max X Y-min X Y-16)*(max X Y-min X Y-16)<=64*min X Y):=by
 unfold HF;have key:∀M m:Int,64<=M->64<=m->m<=M->((M+m-16<=0\/(M+m-16)*(M+m-16)<=4*M*m)↔(M-m-16<=0\/(M-m-16)*(M-m-16)<=64*m)):=by
  intro M m h1 h2 h3;have e:(M-m-16)*(M-m-16)-64*m=(M+m-16)*(M+m-16)-4*M*m:=by grind
  by_cases hk:M-m-16<=0
  ·refine iff_of_true (.inr ?_) (.inl hk);have h5:(16-(M-m))*(M-m+16)>=0:=Int.mul_nonneg (by omega) (by omega);have h6:(M+m-16)*(M+m-16)-4*M*m=512-(16-(M-m))*(M-m+16)-32*(M+m):=by grind
   omega
  ·constructor
   ·rintro(h|h)
    ·omega
    ·exact .inr (by omega)
   ·rintro(h|h)
    ·omega
    ·exact .inr (by omega)
 by_cases h:X<=Y
 ·rw[Int.max_eq_right h,Int.min_eq_left h,<-key Y X hY hX h];have e1:X+Y-16=Y+X-16:=by omega
  have e2:4*X*Y=4*Y*X:=by grind
  rw[e1,e2]
 ·rw[Int.max_eq_left (by omega),Int.min_eq_right (by omega),<-key X Y hX hY (by omega)]
end Go.Bm
namespace Go.Bm
theorem Zq2 (p:Pt):Ou [I p.x,I p.y,I p.z]=some [B (decide (bd 1048576 p))]:=by
 unfold Ou;rw[Zvv];simp only[go_sem];by_cases h:bd 1048576 p
 ·obtain⟨h1,h2,h3⟩:=h;rw[if_neg (by omega),if_neg (by omega),if_neg (by omega),if_neg (by omega),if_neg (by omega),if_neg (by omega)];congr 3;symm;exact decide_eq_true ⟨h1,h2,h3⟩
 ·have e:decide (bd 1048576 p)=false:=decide_eq_false h;rw[e];unfold bd at h;by_cases c1:p.x< -1048576
  ·rw[if_pos c1]
  rw[if_neg c1];by_cases c2:p.x>1048576
  ·rw[if_pos c2]
  rw[if_neg c2];by_cases c3:p.y< -1048576
  ·rw[if_pos c3]
  rw[if_neg c3];by_cases c4:p.y>1048576
  ·rw[if_pos c4]
  rw[if_neg c4];by_cases c5:p.z< -1048576
  ·rw[if_pos c5]
  rw[if_neg c5,if_pos (by omega)]
def axI (pl:Int):Int×Int×Int:=if pl=17 then(0,1,2)else if pl=18 then(2,0,1)else if pl=19 then(1,2,0)else(0,0,0)
theorem Qf8 (pl:Int):Fo [I pl]=some [I (axI pl).1,I (axI pl).2.1,I (axI pl).2.2,B (decide (Dc pl))]:=by
 unfold Fo;rw[Zis];simp only[go_sem];unfold axI Dc;by_cases h1:pl=17
 ·rw[if_pos h1,if_pos h1];simp[h1]
 rw[if_neg h1,if_neg h1];by_cases h2:pl=18
 ·rw[if_pos h2,if_pos h2];simp[h2]
 rw[if_neg h2,if_neg h2];by_cases h3:pl=19
 ·rw[if_pos h3,if_pos h3];simp[h3]
 rw[if_neg h3,if_neg h3];simp[h1,h2,h3]
theorem Zi6 {M:Fn} (hM:∀pl:Int,M [I pl]=some [I (axI pl).1,I (axI pl).2.1,I (axI pl).2.2,B (decide (Dc pl))]) {p:Pt} {pl:Int} (hp:Dc pl):
  Qfv M [I p.x,I p.y,I p.z,I pl]=some [I (plU pl p),I (plW pl p),I (plH pl p)]:=by
 rw[Zjj];simp only[go_sem,hM];rw[if_neg (by simpa using hp)];rcases hp with rfl|rfl|rfl<;>rfl
theorem Q5g {p:Pt} {pl:Int} (hp:Dc pl):If [I p.x,I p.y,I p.z,I pl]=some [I (plU pl p),I (plW pl p),I (plH pl p)]:=Zi6 Qf8 hp
def Ax (p:Pt):Pt:=⟨p.x*16,p.y*16,p.z*16⟩
theorem Fg {b:Nat} {p:Pt} (h:bd b p):bd (b*16) (Ax p):=by
 obtain⟨h1,h2,h3⟩:=h;unfold Ax;exact⟨by simp only;omega,by simp only;omega,by simp only;omega⟩
theorem RB (pl:Int) (p:Pt):plU pl (Ax p)=plU pl p*16/\plW pl (Ax p)=plW pl p*16/\plH pl (Ax p)=plH pl p*16:=by
 unfold plU plW plH Ax;refine⟨?_,?_,?_⟩<;>split<;>(try split)<;>rfl
theorem Qyi {p:Pt} (h:bd 100000000 p):Hs [I p.x,I p.y,I p.z]=some (ptR (Ax p)):=by
 unfold Hs;rw[Zzj];obtain⟨h1,h2,h3⟩:=h;rw[Ae (by omega),Ae (by omega),Ae (by omega)];rfl
theorem Qco {u w r h x y s g:Int} (hu:u.natAbs<=1000000000) (hw:w.natAbs<=1000000000) (hx:x.natAbs<=1000000000) (hy:y.natAbs<=1000000000):Gr [I u,I w,I r,I h,I x,I y,I s,I g]=some [I (dt2 u w x y)]:=by
 unfold Gr;rw[Zng];have h1:=Hw hu hx;have h2:=Hw hw hy;unfold dt2;rw[Ae (x:=u*x) (by omega),Ae (x:=w*y) (by omega),Ae (by omega)]
theorem Uh {u w r h x y s g:Int} (hu:u.natAbs<=1000000000) (hw:w.natAbs<=1000000000) (hx:x.natAbs<=1000000000) (hy:y.natAbs<=1000000000):GA [I u,I w,I r,I h,I x,I y,I s,I g]=some [I (crs u w x y)]:=by
 unfold GA;rw[Zku];have h1:=Hw hu hy;have h2:=Hw hw hx;unfold crs;rw[Ae (x:=u*y) (by omega),Ae (x:=w*x) (by omega),Ae (by omega)]
theorem Zqf {M:Fn} (hM:∀{a b c d:Int},i64 a->i64 b->i64 c->i64 d->M [I a,I b,I c,I d]=some [I (KA (a*b) (c*d))]) {X Y:Int} (hX:64<=X/\X<=1000000000000000) (hY:64<=Y/\Y<=1000000000000000):
  ∃v,Qfn M [I X,I Y]=some [B v]/\(v=true↔HF X Y):=by
 rw[Zxz,Zih hX.1 hY.1];have hmx:mx X Y=max X Y:=by unfold mx;rw[Int.max_def];split<;>split<;>omega
 have hmn:mn X Y=min X Y:=by unfold mn;rw[Int.min_def];split<;>split<;>omega
 have hx1:max X Y<=1000000000000000/\64<=max X Y:=by omega
 have hx2:min X Y<=1000000000000000/\64<=min X Y:=by omega
 rw[hmx,hmn];generalize max X Y=a at*;generalize min X Y=b at*;simp only[go_sem];rw[Ae (x:=a-b) (by omega),Ae (x:=a-b-16) (by omega)];by_cases c1:a-b-16<=0
 ·rw[if_pos c1];exact⟨_,rfl,iff_of_true rfl (.inl c1)⟩
 ·rw[if_neg c1,hM (by unfold i64;omega) (by unfold i64;omega) (by unfold i64;omega) (by unfold i64;omega)];refine⟨_,rfl,?_⟩;simp only[go_sem,decide_eq_true_eq,Z2l];exact⟨fun h=> .inr h,fun h=>h.resolve_left c1⟩
theorem Zwq {X Y:Int} (hX:64<=X/\X<=1000000000000000) (hY:64<=Y/\Y<=1000000000000000):∃v,Qm [I X,I Y]=some [B v]/\(v=true↔HF X Y):=Zqf Q98 hX hY
theorem Zzl {MP MS:Fn} {it:Itm} (hP:∀p:Pt,MP [I p.x,I p.y,I p.z,I it.aG]=some [I (plU it.aG p),I (plW it.aG p),I (plH it.aG p)]) (hS:∀{p:Pt},bd 100000000 p->MS [I p.x,I p.y,I p.z]=some (ptR (Ax p)))
  (h1:bd 1048576 it.fr) (h2:bd 1048576 it.to) (h3:bd 1048576 it.ce):
  UO MP MS (An (Uo MP MS)) (Ag it)=some [I (dU it it.fr*16),I (dW it it.fr*16),I 0,I (plH it.aG it.fr*16),I (dU it it.to*16),I (dW it it.to*16),I 0,I (plH it.aG it.to*16)]:=by
 rw[Zyb];obtain⟨q1,q2,q3⟩:=Hg (pl:=it.aG) h1;obtain⟨q4,q5,q6⟩:=Hg (pl:=it.aG) h2;obtain⟨q7,q8,q9⟩:=Hg (pl:=it.aG) h3;simp only[hS (AW h3 (by omega)),hP,go_sem];have w0:wrap .i64 (0+1)=1:=Ae (by omega);have w1:wrap .i64 (1+1)=2:=Ae (by omega);have f1:=RB it.aG it.fr;have f2:=RB it.aG it.to;have f3:=RB it.aG it.ce;have u1:wrap .i64 (plU it.aG (Ax it.fr)-plU it.aG (Ax it.ce))=dU it it.fr*16:=by rw[f1.1,f3.1];unfold dU;rw[Ae (by omega)];omega
 have u2:wrap .i64 (plW it.aG (Ax it.fr)-plW it.aG (Ax it.ce))=dW it it.fr*16:=by rw[f1.2.1,f3.2.1];unfold dW;rw[Ae (by omega)];omega
 have u3:wrap .i64 (plU it.aG (Ax it.to)-plU it.aG (Ax it.ce))=dU it it.to*16:=by rw[f2.1,f3.1];unfold dU;rw[Ae (by omega)];omega
 have u4:wrap .i64 (plW it.aG (Ax it.to)-plW it.aG (Ax it.ce))=dW it it.to*16:=by rw[f2.2.1,f3.2.1];unfold dW;rw[Ae (by omega)];omega
 have b1:bd 100000000 it.fr:=AW h1 (by omega);have b2:bd 100000000 it.to:=AW h2 (by omega);have e1:=hS b1;have e2:=hS b2;rw[Bt (by rw[WN];simp only[go_sem,e1,e2,hP,u1,u2,w0];rfl),Bt (by rw[WN];simp only[go_sem,e1,e2,hP,u3,u4,w1];rfl),
  A_ (o:=(1,_)) (by rw[WN];simp only[go_sem];rfl) (by simp)]
 simp only[go_sem,f1.2.2,f2.2.2]
theorem Qzh {it:Itm} (hp:Dc it.aG) (h1:bd 1048576 it.fr) (h2:bd 1048576 it.to) (h3:bd 1048576 it.ce):
  J0 (Ag it)=some [I (dU it it.fr*16),I (dW it it.fr*16),I 0,I (plH it.aG it.fr*16),I (dU it it.to*16),I (dW it it.to*16),I 0,I (plH it.aG it.to*16)]:=
 Zzl (fun _=>Q5g hp) Qyi h1 h2 h3
theorem Zho {MN:Fn} {X Y C D au aw bu bw:Int} {full:Bool} (hX:0<=X/\X<=1000000000000000) (hY:0<=Y/\Y<=1000000000000000)
  (hN:∀{X Y:Int},(64<=X/\X<=1000000000000000)->(64<=Y/\Y<=1000000000000000)->∃v,MN [I X,I Y]=some [B v]/\(v=true↔HF X Y)):
  ∃ v, (if X * 256 < wrap .i64 (128 * 128) then some [B false] else if Y * 256 < wrap .i64 (128 * 128) then some [B false] else
   (MN [I (wrap .i64 ((X*256).tdiv 256)),I (wrap .i64 ((Y*256).tdiv 256))]).bind fun o=>
   if¬C5 (nth .dead o 0)=true then some [B false]else if full=true then if au*16=bu*16 then some [B (aw*16==bw*16)]else some [B false]else if C*256≠0 then some [B true]else some [B (decide (D*256<0))])=some [B v]/\
   (v=true↔64<=X/\64<=Y/\HF X Y/\(full=true->au=bu/\aw=bw)/\(full=false->C≠0\/D<0)):=by
 rw[Ae (x:=128*128) (by omega),Int.mul_tdiv_cancel _ (by omega),Int.mul_tdiv_cancel _ (by omega),Ae (x:=X) (by omega),Ae (x:=Y) (by omega)];by_cases c1:X*256<128*128
 ·rw[if_pos c1];exact⟨_,rfl,iff_of_false (by simp) fun h=>by omega⟩
 rw[if_neg c1];by_cases c2:Y*256<128*128
 ·rw[if_pos c2];exact⟨_,rfl,iff_of_false (by simp) fun h=>by omega⟩
 rw[if_neg c2];obtain⟨v,h1,h2⟩:=hN (X:=X) (Y:=Y) (by omega) (by omega);simp only[h1,go_sem];by_cases c3:v=true
 case neg=>rw[if_pos c3];exact⟨_,rfl,iff_of_false (by simp) fun h=>c3 (h2.2 h.2.2.1)⟩
 rw[if_neg (by simpa using c3)];have hn':=h2.1 c3;cases full with
 |true=>
  rw[if_pos rfl];by_cases c4:au*16=bu*16
  ·rw[if_pos c4];refine⟨_,rfl,?_⟩;simp only[beq_iff_eq];exact⟨fun h=>⟨by omega,by omega,hn',fun _=>⟨by omega,by omega⟩,fun h=>by simp at h⟩,fun h=>by have:=(h.2.2.2.1 trivial).2;omega⟩
  ·rw[if_neg c4];exact⟨_,rfl,iff_of_false (by simp) fun h=>c4 (by have:=(h.2.2.2.1 rfl).1;omega)⟩
 |false=>
  rw[if_neg (by simp)];by_cases c4:C*256≠0
  ·rw[if_pos c4];exact⟨_,rfl,iff_of_true rfl ⟨by omega,by omega,hn',fun h=>by simp at h,fun _=> .inl (by omega)⟩⟩
  ·rw[if_neg c4];refine⟨_,rfl,?_⟩;simp only[decide_eq_true_eq];exact⟨fun h=>⟨by omega,by omega,hn',fun h=>by simp at h,fun _=> .inr (by omega)⟩,fun h=>by have:=(h.2.2.2.2 trivial);omega⟩
theorem Qzf (a b c d:Int):dt2 (a*16) (b*16) (c*16) (d*16)=dt2 a b c d*256/\crs (a*16) (b*16) (c*16) (d*16)=crs a b c d*256:=by
 unfold dt2 crs;constructor<;>grind
theorem Znv {MC MN MD ME MA MW:Fn} (hA:∀pl:Int,MA [I pl]=some [I (axI pl).1,I (axI pl).2.1,I (axI pl).2.2,B (decide (Dc pl))]) (hW:∀p:Pt,MW [I p.x,I p.y,I p.z]=some [B (decide (bd 1048576 p))])
  {it:Itm} (hE:Dc it.aG->bd 1048576 it.fr->bd 1048576 it.to->bd 1048576 it.ce->ME (Ag it)=some [I (dU it it.fr*16),I (dW it it.fr*16),I 0,I (plH it.aG it.fr*16),I (dU it it.to*16),I (dW it it.to*16),I 0,I (plH it.aG it.to*16)])
  (hD:∀{u w r h x y s g:Int},u.natAbs<=1000000000->w.natAbs<=1000000000->x.natAbs<=1000000000->y.natAbs<=1000000000->MD [I u,I w,I r,I h,I x,I y,I s,I g]=some [I (dt2 u w x y)])
  (hX:∀{u w r h x y s g:Int},u.natAbs<=1000000000->w.natAbs<=1000000000->x.natAbs<=1000000000->y.natAbs<=1000000000->MC [I u,I w,I r,I h,I x,I y,I s,I g]=some [I (crs u w x y)])
  (hN:∀{X Y:Int},(64<=X/\X<=1000000000000000)->(64<=Y/\Y<=1000000000000000)->∃v,MN [I X,I Y]=some [B v]/\(v=true↔HF X Y)):
  ∃v,Qmc MC MN MD ME MA MW (Ag it)=some [B v]/\(v=true↔Dt it):=by
 rw[Zfi];simp only[go_sem,hW,hA];by_cases c1:it.kind<1
 ·rw[if_pos c1];exact⟨_,rfl,iff_of_false (by simp) fun h=>by have:=h.1;omega⟩
 rw[if_neg c1];by_cases c1':it.kind>6
 ·rw[if_pos c1'];exact⟨_,rfl,iff_of_false (by simp) fun h=>by have:=h.1;omega⟩
 rw[if_neg c1'];by_cases c2:bd 1048576 it.fr
 case neg=>rw[if_pos (by simpa using c2)];exact⟨_,rfl,iff_of_false (by simp) fun h=>c2 h.2.1⟩
 rw[if_neg (by simpa using c2)];by_cases c3:bd 1048576 it.to
 case neg=>rw[if_pos (by simpa using c3)];exact⟨_,rfl,iff_of_false (by simp) fun h=>c3 h.2.2.1⟩
 rw[if_neg (by simpa using c3)];by_cases c4:it.kind=3
 case neg=>rw[if_pos c4];exact⟨_,rfl,iff_of_true rfl ⟨by omega,c2,c3,fun h=>absurd h c4⟩⟩
 rw[if_neg (by simpa using c4)];by_cases c5:Dc it.aG
 case neg=>rw[if_pos (by simpa using c5)];exact⟨_,rfl,iff_of_false (by simp) fun h=>c5 (h.2.2.2 c4).1⟩
 rw[if_neg (by simpa using c5)];by_cases c7:bd 1048576 it.ce
 case neg=>
  refine⟨false,?_,iff_of_false (by simp) fun h=>c7 (h.2.2.2 c4).2.2.1⟩;split
  ·split
   ·rfl
   ·first|rfl|(rw[if_pos c7])
  ·first|rfl|(rw[if_pos c7])
 by_cases c6:it.dir=1\/it.dir= -1
 case neg=>
  rw[if_pos (c:=it.dir≠1) (by omega),if_pos (c:=it.dir≠-1) (by omega)];exact⟨false,rfl,iff_of_false (by simp) fun h=>c6 (h.2.2.2 c4).2.1⟩
 have hE':=hE c5 c2 c3 c7;obtain⟨b1,b2⟩:=Qio (it:=it) c7 c2;obtain⟨b3,b4⟩:=Qio (it:=it) c7 c3;simp only[Ag]at hE';have x1:=Qrm b1 b2;have x2:=Qrm b3 b4;have core:Dt it↔64<=qA it/\64<=qB it/\HF (qA it) (qB it)/\(it.full=true->dU it it.fr=dU it it.to/\dW it it.fr=dW it it.to)/\(it.full=false->cAB it≠0\/dAB it<0):=
  ⟨fun h=>(h.2.2.2 c4).2.2.2,fun h=>⟨by omega,c2,c3,fun _=>⟨c5,c6,c7,h⟩⟩⟩
 rw[core];have x1':0<=qA it/\qA it<=1000000000000000:=⟨x1.1,by unfold qA;omega⟩;have x2':0<=qB it/\qB it<=1000000000000000:=⟨x2.1,by unfold qB;omega⟩;have D1:= @hD (dU it it.fr*16) (dW it it.fr*16) 0 (plH it.aG it.fr*16) (dU it it.fr*16) (dW it it.fr*16) 0 (plH it.aG it.fr*16) (by omega) (by omega) (by omega) (by omega);have D2:= @hD (dU it it.to*16) (dW it it.to*16) 0 (plH it.aG it.to*16) (dU it it.to*16) (dW it it.to*16) 0 (plH it.aG it.to*16) (by omega) (by omega) (by omega) (by omega);have D3:= @hD (dU it it.fr*16) (dW it it.fr*16) 0 (plH it.aG it.fr*16) (dU it it.to*16) (dW it it.to*16) 0 (plH it.aG it.to*16) (by omega) (by omega) (by omega) (by omega);have D4:= @hX (dU it it.fr*16) (dW it it.fr*16) 0 (plH it.aG it.fr*16) (dU it it.to*16) (dW it it.to*16) 0 (plH it.aG it.to*16) (by omega) (by omega) (by omega) (by omega);rw[(Qzf _ _ _ _).1]at D1 D2 D3;rw[(Qzf _ _ _ _).2]at D4;have e1:dt2 (dU it it.fr) (dW it it.fr) (dU it it.fr) (dW it it.fr)=qA it:=rfl;have e2:dt2 (dU it it.to) (dW it it.to) (dU it it.to) (dW it it.to)=qB it:=rfl;have e3:dt2 (dU it it.fr) (dW it it.fr) (dU it it.to) (dW it it.to)=dAB it:=rfl;have e4:crs (dU it it.fr) (dW it it.fr) (dU it it.to) (dW it it.to)=cAB it:=rfl;rw[e1]at D1;rw[e2]at D2;rw[e3]at D3;rw[e4]at D4;have T:= @Zho MN (qA it) (qB it) (cAB it) (dAB it) (dU it it.fr) (dW it it.fr) (dU it it.to) (dW it it.to) it.full x1' x2' hN;have n7: ¬ ¬bd 1048576 it.ce:=fun h=>h c7;by_cases d1:it.dir=1
 ·rw[if_neg (c:=it.dir≠1) (fun h=>h d1),if_neg n7];simp only[hE',go_sem,D1,D2,D3,D4];exact T
 ·rw[if_pos (c:=it.dir≠1) d1,if_neg (c:=it.dir≠-1) (by omega),if_neg n7];simp only[hE',go_sem,D1,D2,D3,D4];exact T
theorem Qbr (it:Itm):∃v,GY (Ag it)=some [B v]/\(v=true↔Dt it):=
 Znv Qf8 Zq2 (fun h1 h2 h3 h4=>Qzh h1 h2 h3 h4) Qco Uh Zwq
end Go.Bm
namespace Go.Bm
def okS (s:Spk):Prop:=s.u.natAbs<=50000000/\s.w.natAbs<=50000000/\(0<=s.r/\s.r<=50000000)/\s.h.natAbs<=16777216
def hf (a b:Int):Int:=(a+b+1)/2
def Do (a b:Spk) (dir:Int) (full:Bool):Int×Int:=
 if full=true then(-a.u,-a.w)
 else if 0<dt2 a.u a.w b.u b.w/\0<crs a.u a.w b.u b.w*dir then(a.u+b.u,a.w+b.w)
 else if 0<dt2 a.u a.w b.u b.w then(-(a.u+b.u),-(a.w+b.w))
 else(dir*(b.w-a.w),dir*(a.u-b.u))
noncomputable def HB (a b:Spk) (u w:Int):Spk:=if u=0/\w=0 then⟨0,0,0,0⟩else⟨BY u (hf a.r b.r) (sq2 u w),BY w (hf a.r b.r) (sq2 u w),hf a.r b.r,hf a.h b.h⟩
noncomputable def EH (a b:Spk) (dir:Int) (full:Bool):Spk:=HB a b (Do a b dir full).1 (Do a b dir full).2
theorem NV {a b:Spk} (ha:okS a) (hb:okS b) {dir:Int} (hd:dir=1\/dir= -1) (full:Bool):(Do a b dir full).1.natAbs<=100000000/\(Do a b dir full).2.natAbs<=100000000:=by
 obtain⟨a1,a2,-⟩:=ha;obtain⟨b1,b2,-⟩:=hb;unfold Do;split
 ·exact⟨by simp only;omega,by simp only;omega⟩
 ·split
  ·exact⟨by simp only;omega,by simp only;omega⟩
  ·split
   ·exact⟨by simp only;omega,by simp only;omega⟩
   ·rcases hd with rfl|rfl
    ·exact⟨by simp only;omega,by simp only;omega⟩
    ·exact⟨by simp only;omega,by simp only;omega⟩
theorem Qxs (u w:Int):u*u<=sq2 u w/\w*w<=sq2 u w:=by
 have h1:=Fz u;have h2:=Fz w;unfold sq2;omega
theorem Th {u w:Int} (h: ¬(u=0/\w=0)):0<sq2 u w:=by
 have h1:=Fz u;have h2:=Fz w;have z:∀u:Int,u*u=0->u=0:=fun u hu=>by
  rcases Int.mul_eq_zero.1 hu with h|h<;>exact h
 have h3: ¬(u*u=0/\w*w=0):=fun h4=>h ⟨z _ h4.1,z _ h4.2⟩;unfold sq2;omega
theorem Q26 {a b:Int} (ha:0<=a/\a<=50000000) (hb:0<=b/\b<=50000000):0<=hf a b/\hf a b<=50000000:=by unfold hf;omega
theorem Zi7 {a b:Int} (ha:a.natAbs<=16777216) (hb:b.natAbs<=16777216):(hf a b).natAbs<=16777216:=by unfold hf;omega
theorem Qri {u w r:Int} (hu:u.natAbs<=100000000) (hw:w.natAbs<=100000000) (hr:0<=r/\r<=50000000) (h: ¬(u=0/\w=0)):
  (True/\(BY u r (sq2 u w)).natAbs<=r.natAbs)/\(True/\(BY w r (sq2 u w)).natAbs<=r.natAbs):=by
 have hp:=Th h;have h1:=Dv hu;have h2:=Dv hw;have h3:sq2 u w<=20000000000000000:=by unfold sq2;omega
 obtain⟨q1,q2⟩:=Qxs u w;have key:∀x:Int,x.natAbs<=100000000->x*x<=sq2 u w->True/\(BY x r (sq2 u w)).natAbs<=r.natAbs:=by
  intro x hx hq;obtain⟨g1,-,g3⟩:=S2 (x:=x) (r:=r) (n:=sq2 u w) (Nat.le_trans hx (by decide)) (by omega) (by omega) hq;refine⟨g1,Qha (by omega) ?_ g3⟩;have:((x.natAbs*x.natAbs:Nat):Int)=x*x:=Int.natAbs_mul_self;omega
 exact⟨key u hu q1,key w hw q2⟩
theorem Znj {a b:Spk} (ha:okS a) (hb:okS b) {u w:Int} (hu:u.natAbs<=100000000) (hw:w.natAbs<=100000000):okS (HB a b u w):=by
 unfold HB;split
 ·exact⟨by simp,by simp,by simp,by simp⟩
 ·rename_i h;have hr:=Q26 ha.2.2.1 hb.2.2.1;obtain⟨⟨-,n1⟩,-,n2⟩:=Qri hu hw hr h;exact⟨by simp only;omega,by simp only;omega,hr,Zi7 ha.2.2.2 hb.2.2.2⟩
theorem Qub {a b:Spk} (ha:okS a) (hb:okS b) {dir:Int} (hd:dir=1\/dir= -1) (full:Bool):okS (EH a b dir full):=
 Znj ha hb (NV ha hb hd full).1 (NV ha hb hd full).2
theorem GO {x:Int} (h:x.natAbs<=50000000):x.natAbs<=1000000000:=Nat.le_trans h (by decide)
def HJ (a b:Spk) (dir:Int) (full:Bool):Prop:=full=false/\0<crs a.u a.w b.u b.w*dir/\sq2 (a.u-b.u) (a.w-b.w)<=32*mn a.r b.r-64
instance {a b:Spk} {dir:Int} {full:Bool}:Decidable (HJ a b dir full):=by unfold HJ;infer_instance
noncomputable def Du (dir:Int):Nat->Bool->Spk->Spk->List Spk
 |0,_,_,b=>[b]
 |k+1,full,a,b=>if HJ a b dir full then [b]else Du dir k false a (EH a b dir full)++Du dir k false (EH a b dir full) b
theorem SF {dir:Int}:∀(k:Nat) (full:Bool) (a b:Spk),1<=(Du dir k full a b).length/\(Du dir k full a b).length<=2^k
 |0,_,_,b=>by simp[Du]
 |k+1,full,a,b=>by
  have hp:0<2^k:=Nat.two_pow_pos _;have e3:2^(k+1)=2^k+2^k:=by rw[Nat.pow_succ];omega
  unfold Du;split
  ·simp;omega
  ·have h1:=SF k false a (EH a b dir full) (dir:=dir);have h2:=SF k false (EH a b dir full) b (dir:=dir);rw[List.length_append];omega
theorem W5 {dir:Int} (hd:dir=1\/dir= -1):∀(k:Nat) (full:Bool) {a b:Spk},okS a->okS b->∀s∈Du dir k full a b,okS s
 |0,_,a,b,_,hb,s,hs=>by simp[Du]at hs;subst hs;exact hb
 |k+1,full,a,b,ha,hb,s,hs=>by
  unfold Du at hs;have hm:=Qub ha hb hd full;split at hs
  ·simp at hs;subst hs;exact hb
  ·rcases List.mem_append.1 hs with hs|hs
   ·exact W5 hd k false ha hm s hs
   ·exact W5 hd k false hm hb s hs
end Go.Bm
namespace Go.Bm
theorem Zrn {n i j:Int} (hi:IK n i) (hj:IK n j):i=j:=by
 have key:∀{i j:Int},IK n i->IK n j-> ¬i<j:=by
  rintro i j ⟨h1,h2,-⟩ ⟨h4,h5,h6⟩ hlt;rcases h6 with h6|h6
  ·omega
  ·have h7:=Int.mul_le_mul (show i<=j-1 by omega) (show i+1<=j by omega) (by omega) (by omega);omega
 have h1:=key hi hj;have h2:=key hj hi;omega
open Classical in
noncomputable def FI (n:Int):Int:=if h:∃j,IK n j then Classical.choose h else 0
theorem Rh {n k:Int} (h:IK n k):FI n=k:=by
 have hx:∃j,IK n j:=⟨k,h⟩;unfold FI;rw[dif_pos hx];exact Zrn (Classical.choose_spec hx) h
theorem Sl {n r:Nat} (h1:r*r<=n) (h2:n<(r+1)*(r+1)):IK n (if r*r+r<n then r+1 else r:Nat):=by
 have e0:(r+1)*(r+1)=r*r+r+r+1:=by grind
 unfold IK;by_cases c:r*r+r<n
 ·rw[if_pos c];have e1:((r+1:Nat):Int)*(((r+1:Nat):Int)+1)=((r*r+r+r+r+2:Nat):Int):=by
   have:((r+1:Nat):Int)+1=((r+2:Nat):Int):=by omega
   rw[this,<-Int.natCast_mul];congr 1
   grind
  have e2:(((r+1:Nat):Int)-1)*((r+1:Nat):Int)=((r*r+r:Nat):Int):=by
   rw[show((r+1:Nat):Int)-1=(r:Int) by omega,<-Int.natCast_mul];congr 1
  rw[e1,e2];generalize r*r=A at*;exact⟨by omega,by omega, .inr (by omega)⟩
 ·rw[if_neg c];have e1:(r:Int)*((r:Int)+1)=((r*r+r:Nat):Int):=by
   rw[show(r:Int)+1=((r+1:Nat):Int) by omega,<-Int.natCast_mul];congr 1
  rw[e1];refine⟨by omega,by omega,?_⟩;rcases Nat.eq_zero_or_pos r with h|h
  ·left;omega
  ·right;have e2:((r:Int)-1)*(r:Int)=(((r-1)*r:Nat):Int):=by
    rw[show(r:Int)-1=((r-1:Nat):Int) by omega];exact(Int.natCast_mul _ _).symm
   have:=Nat.mul_lt_mul_of_pos_right (show r-1<r by omega) h;rw[e2];omega
noncomputable def Eo (it:Itm) (p:Pt):Spk:=⟨dU it p*16,dW it p*16,FI (sq2 (dU it p*16) (dW it p*16)),plH it.aG p*16⟩
theorem Zt9 {n:Nat} (hn:n<=2251799813685248):0<=FI n/\FI n<=50000000:=by
 obtain⟨r,-,h2,h3,-⟩:=TJ (n:=n) (by omega);have hm:=Sl h2 h3;rw[Rh hm];have:r<50000000:=by
  by_cases c:r<50000000
  ·exact c
  ·have:=Nat.mul_le_mul (show 50000000<=r by omega) (show 50000000<=r by omega);omega
 split<;>omega
theorem OM {it:Itm} {p:Pt} (hc:bd 1048576 it.ce) (hp:bd 1048576 p):(dU it p*16).natAbs<=33554432/\(dW it p*16).natAbs<=33554432/\0<=sq2 (dU it p*16) (dW it p*16)/\sq2 (dU it p*16) (dW it p*16)<=2251799813685248:=by
 obtain⟨h1,h2⟩:=Qio hc hp;have h3:(dU it p*16).natAbs<=33554432:=by omega
 have h4:(dW it p*16).natAbs<=33554432:=by omega
 have q1:=Dv h3;have q2:=Dv h4;refine⟨h3,h4,?_⟩;unfold sq2;omega
theorem Rm {it:Itm} {p:Pt} (hc:bd 1048576 it.ce) (hp:bd 1048576 p):okS (Eo it p):=by
 obtain⟨h1,h2,h3,h4⟩:=OM hc hp;have h5:=(Hg (pl:=it.aG) hp).2.2;obtain⟨n,hn⟩:=Int.eq_ofNat_of_zero_le h3;refine⟨Nat.le_trans h1 (by decide),Nat.le_trans h2 (by decide),?_,?_⟩
 ·show 0<=FI _/\FI _<=_;rw[hn]at h4⊢;exact Zt9 (by omega)
 ·show(plH it.aG p*16).natAbs<=_;omega
noncomputable def DL (it:Itm):List Spk:=Eo it it.fr::Du it.dir 16 it.full (Eo it it.fr) (Eo it it.to)
theorem Qq9 {it:Itm} (h:Dt it) (h3:it.kind=3):∀s∈DL it,okS s:=by
 obtain⟨-,h1,h2,ha⟩:=h;obtain⟨hp,hd,hc,-⟩:=ha h3;intro s hs;rcases List.mem_cons.1 hs with rfl|hs
 ·exact Rm hc h1
 ·exact W5 hd 16 _ (Rm hc h1) (Rm hc h2) s hs
theorem Qv9 (it:Itm):2<=(DL it).length/\(DL it).length<=65537:=by
 have:=SF (dir:=it.dir) 16 it.full (Eo it it.fr) (Eo it it.to);have e:(2:Nat)^16=65536:=rfl;rw[e]at this;unfold DL;rw[List.length_cons];omega
noncomputable def IG (it:Itm) (s:Spk):Pt:=spP it.aG (plU it.aG (Ax it.ce)+s.u) (plW it.aG (Ax it.ce)+s.w) s.h
noncomputable def Ch (it:Itm):List Pt:=if it.kind=3 then(DL it).map (IG it)else [Ax it.fr,Ax it.to]
theorem Qvy {pl u w h:Int} {b:Nat} (hu:u.natAbs<=b) (hw:w.natAbs<=b) (hh:h.natAbs<=b):bd b (spP pl u w h):=by
 unfold spP bd;split
 ·exact⟨hu,hw,hh⟩
 ·split
  ·exact⟨hw,hh,hu⟩
  ·exact⟨hh,hu,hw⟩
theorem Zri {it:Itm} {s:Spk} (hc:bd 1048576 it.ce) (hs:okS s):bd 67108864 (IG it s):=by
 obtain⟨h1,h2,-⟩:=Hg (pl:=it.aG) (Fg hc);obtain⟨s1,s2,-,s4⟩:=hs;exact Qvy (by omega) (by omega) (by omega)
theorem Qfr {it:Itm} (h:Dt it):∀p∈Ch it,bd 67108864 p:=by
 intro p hp;unfold Ch at hp;split at hp
 ·rename_i h3;simp only[List.mem_map]at hp;obtain⟨s,hs,rfl⟩:=hp;exact Zri (h.2.2.2 h3).2.2.1 (Qq9 h h3 s hs)
 ·simp at hp;rcases hp with rfl|rfl
  ·exact AW (Fg h.2.1) (by decide)
  ·exact AW (Fg h.2.2.1) (by decide)
theorem Q4g (it:Itm):2<=(Ch it).length/\(Ch it).length<=65537:=by
 have:=Qv9 it;unfold Ch;split<;>simp<;>omega
end Go.Bm
namespace Go.Bm
def Hd (t:Itm) (speed:Int):Int:=if t.kind=1 then 0 else mx (Bh (mn (if t.perRev=true then t.feed*mx speed 1 else t.feed) 60000000*4096) 60000) 1
theorem Zdy {f s:Int} (hf:0<=f/\f<=60000000) (hs:0<=s/\s<=30000):0<=f*mx s 1/\f*mx s 1<=1800000000000:=by
 have h1:1<=mx s 1/\mx s 1<=30000:=by unfold mx;split<;>omega
 generalize mx s 1=m at*;have h2:=Int.mul_le_mul hf.2 h1.2 (by omega) (by omega);have h3:=Int.mul_nonneg hf.1 (show 0<=m by omega);omega
theorem Q5r {x:Int} (h:0<=x):0<=mn x 60000000/\mn x 60000000<=60000000:=by unfold mn;split<;>omega
theorem Zt1 {M:Fn} {t:Itm} {speed:Int} (hf:0<=t.feed/\t.feed<=60000000) (hs:0<=speed/\speed<=30000)
  (hM:∀a:Int,0<=a/\a<=60000000->M [I a,I 4096,I 60000,I 2]=some [I (Bh (a*4096) 60000),B true]):Xr M (Ag t++[I speed])=some [I (Hd t speed)]:=by
 have h1:=Zdy hf hs;have h2:=hM _ (Q5r h1.1);have h3:=hM _ (Q5r hf.1);have h4:wrap .i64 (t.feed*mx speed 1)=t.feed*mx speed 1:=Ae (by omega);simp only[Ag,List.cons_append,List.nil_append];rw[Q2m,h4];simp only[go_sem,h2,h3];unfold Hd;by_cases g1:t.kind=1
 ·rw[if_pos g1,if_pos g1]
 ·rw[if_neg g1,if_neg g1];by_cases g2:t.perRev=true
  ·rw[if_pos g2,if_pos g2]
  ·rw[if_neg g2,if_neg g2]
theorem Q75 {t:Itm} {speed:Int} (hf:0<=t.feed/\t.feed<=60000000) (hs:0<=speed/\speed<=30000):JX (Ag t++[I speed])=some [I (Hd t speed)]:=
 Zt1 hf hs fun a ha=>Sv (by unfold i64;omega) (by unfold i64;omega) (by omega) (by have:a.natAbs*(4096:Int).natAbs<=60000000*4096:=Nat.mul_le_mul (by omega) (by omega);omega)
end Go.Bm
namespace Go.Bm
def it0:Itm:=⟨0,0,⟨0,0,0⟩,⟨0,0,0⟩,0,⟨0,0,0⟩,0,false,0,false,0,0,0,0,0,false⟩
def itA (aA:List Itm) (i:Nat):Itm:=aA.getD i it0
theorem Ph {aA:List Itm} {i:Nat} (h:i<aA.length):itA aA i=aA[i]:=by unfold itA;simp[h]
theorem Q4q {aA:List Itm} {i:Nat} (h:i<aA.length):itA aA i∈aA:=by rw[Ph h];exact List.getElem_mem h
theorem E4 {aA:List Itm} {i:Nat} (h:i<aA.length):nth [] (aA.map Ag) i=Ag (itA aA i):=by rw[Ph h];exact I_ _ _ _ _ h
theorem Vb {aA:List Itm} {i:Nat} (h:i<aA.length):aA.drop i=itA aA i::aA.drop (i+1):=by rw[Ph h];exact Nt _ _ h
def AB (it:Itm):Prop:=1<=it.kind/\it.kind<=6
def smI (it:Itm):Prop:=it.kind=2/\it.fr≠it.to
def syI (it:Itm):Prop:=it.kind=5\/it.kind=6
instance (it:Itm):Decidable (AB it):=by unfold AB;infer_instance
instance (it:Itm):Decidable (smI it):=by unfold smI;infer_instance
instance (it:Itm):Decidable (syI it):=by unfold syI;infer_instance
def Ba (it:Itm):Pt:=⟨(it.fr.x+it.to.x)*8,(it.fr.y+it.to.y)*8,(it.fr.z+it.to.z)*8⟩
theorem KN {it:Itm} (h1:bd 1048576 it.fr) (h2:bd 1048576 it.to):bd B24 (Ba it):=by
 unfold bd B24 Ba at*;simp only;omega
def GV:List Itm->Nat->Int
 |[],_=> -1
 |it::l,k=>if it.kind=10 then GV l (k+1)else if smI it then k else-1
def Cb (aA:List Itm) (i:Nat):Int:=if smI (itA aA i)/\(itA aA i).blend≠0 then GV (aA.drop (i+1)) (i+1)else-1
theorem Qtj:∀(l:List Itm) (k:Nat),GV l k= -1\/∃j:Nat,GV l k=((k+j:Nat):Int)/\∃h:j<l.length,smI l[j]/\∀i (hi:i<l.length),i<j->l[i].kind=10
 |[],_=> .inl rfl
 |it::l,k=>by
  unfold GV;split
  ·rename_i h10;rcases Qtj l (k+1)with h|⟨j,h1,h2,h3,h4⟩
   ·exact .inl h
   ·refine .inr ⟨j+1,by rw[h1];omega,by simp;omega,by simpa using h3,?_⟩;intro i hi hij;cases i with
    |zero=>simpa using h10
    |succ i=>simpa using h4 i (by simpa using hi) (by omega)
  ·split
   ·rename_i hs;exact .inr ⟨0,by simp,by simp,by simpa using hs,fun i _ hi=>by omega⟩
   ·exact .inl rfl
theorem Qck (aA:List Itm) (i:Nat):Cb aA i= -1\/(smI (itA aA i)/\(itA aA i).blend≠0/\∃k:Nat,Cb aA i=k/\i<k/\k<aA.length/\smI (itA aA k)/\∀j,i<j->j<k->(itA aA j).kind=10):=by
 unfold Cb;split
 ·rename_i h;rcases Qtj (aA.drop (i+1)) (i+1)with h1|⟨j,h1,h2,h3,h4⟩
  ·exact .inl h1
  ·have h5:i+1+j<aA.length:=by rw[List.length_drop]at h2;omega
   refine .inr ⟨h.1,h.2,i+1+j,h1,by omega,h5,?_,?_⟩
   ·rw[Ph h5];rw[List.getElem_drop]at h3;exact h3
   ·intro m hm1 hm2;have:=h4 (m-(i+1)) (by omega) (by omega);rw[List.getElem_drop]at this;rw[Ph (by omega)];have e:i+1+(m-(i+1))=m:=by omega
    simp only[e]at this;exact this
 ·exact .inl rfl
def KE (it:Itm):Int:=if it.kind=10 then 5 else if it.kind=13 then 4 else 3
def Fx:List Itm->Int
 |[]=>2
 |it::l=>if AB it then(if syI it then 1 else 2)else Fx l
def H6 (aA:List Itm) (i:Nat):Int:=if(itA aA i).kind=4 then 6 else if(itA aA i).blend=0 then 1 else if syI (itA aA i)then 1 else Fx (aA.drop (i+1))
noncomputable def G9 (aA:List Itm) (i k:Nat):List Pt:=F2 (Ba (itA aA i)) (Ax (itA aA i).to) (Ba (itA aA k)) ((itA aA i).blend*16)
def drawn (it:Itm):Prop:=Dt it/\0<=it.blend/\it.blend<=1000
theorem LB {aA:List Itm} {i k:Nat} (h1:drawn (itA aA i)) (h2:drawn (itA aA k)):(∀p∈G9 aA i k,bd B24 p)/\1<=(G9 aA i k).length/\(G9 aA i k).length<=65:=
 Q19 (KN h1.1.2.1 h1.1.2.2.1) (Fg h1.1.2.2.1) (KN h2.1.2.1 h2.1.2.2.1)
noncomputable def I1 (aA:List Itm) (i:Nat) (frm:Int):List Pt:=if 0<=frm then(G9 aA frm.toNat i).drop ((G9 aA frm.toNat i).length/2)else(Ch (itA aA i)).take 1
noncomputable def La (aA:List Itm) (i:Nat):List Pt:=if 0<=Cb aA i then(G9 aA i (Cb aA i).toNat).take ((G9 aA i (Cb aA i).toNat).length/2+1)else(Ch (itA aA i)).drop 1
noncomputable def Cs (aA:List Itm) (i:Nat) (frm:Int):List Pt:=if smI (itA aA i)then I1 aA i frm++[Ba (itA aA i)]++La aA i else Ch (itA aA i)
def Ll (aA:List Itm) (i:Nat) (frm:Int):Prop:=frm= -1\/∃f:Nat,frm=f/\f<aA.length/\drawn (itA aA f)
theorem Zxb {aA:List Itm} {i:Nat} {frm:Int} (hd:drawn (itA aA i)) (hf:Ll aA i frm):(∀p∈I1 aA i frm,bd 67108864 p)/\(I1 aA i frm).length<=65:=by
 unfold I1;rcases hf with rfl|⟨f,rfl,hf1,hf2⟩
 ·rw[if_neg (by omega)];exact⟨fun p hp=>Qfr hd.1 p (List.mem_of_mem_take hp),by rw[List.length_take];omega⟩
 ·rw[if_pos (by omega)];obtain⟨h1,h2,h3⟩:=LB (aA:=aA) (i:=(f:Int).toNat) (k:=i) (by simpa using hf2) hd;exact⟨fun p hp=>AW (h1 p (List.mem_of_mem_drop hp)) (by decide),by rw[List.length_drop];omega⟩
theorem RD {aA:List Itm} {i:Nat} (hall:∀k<aA.length,AB (itA aA k)->drawn (itA aA k)) (hs:0<=Cb aA i):∃k:Nat,Cb aA i=k/\k<aA.length/\drawn (itA aA k):=by
 rcases Qck aA i with h|⟨-,-,k,h1,-,h2,h3,-⟩
 ·omega
 ·exact⟨k,h1,h2,hall k h2 ⟨by have:=h3.1;omega,by have:=h3.1;omega⟩⟩
theorem Zgp {aA:List Itm} {i:Nat} (hd:drawn (itA aA i)) (h2:(itA aA i).kind≠3) (hall:∀k<aA.length,AB (itA aA k)->drawn (itA aA k)):(∀p∈La aA i,bd 67108864 p)/\(La aA i).length<=66:=by
 unfold La;by_cases h:0<=Cb aA i
 ·rw[if_pos h];obtain⟨k,hk,hk1,hk2⟩:=RD hall h;obtain⟨h1,h2,h3⟩:=LB (aA:=aA) (i:=i) (k:=(Cb aA i).toNat) hd (by rw[hk];simpa using hk2);exact⟨fun p hp=>AW (h1 p (List.mem_of_mem_take hp)) (by decide),by rw[List.length_take];omega⟩
 ·rw[if_neg h];refine⟨fun p hp=>Qfr hd.1 p (List.mem_of_mem_drop hp),?_⟩;unfold Ch;rw[if_neg h2];simp
theorem Ul {aA:List Itm} {i:Nat} {frm:Int} (hd:drawn (itA aA i)) (hf:Ll aA i frm) (hall:∀k<aA.length,AB (itA aA k)->drawn (itA aA k)):
  (∀p∈Cs aA i frm,bd 67108864 p)/\(Cs aA i frm).length<=65537:=by
 unfold Cs;by_cases hs:smI (itA aA i)
 ·rw[if_pos hs];obtain⟨h1,h2⟩:=Zxb hd hf;obtain⟨h3,h4⟩:=Zgp hd (by have:=hs.1;omega) hall;refine⟨fun p hp=> ?_,by rw[List.length_append,List.length_append];simp;omega⟩;rcases List.mem_append.1 hp with hp|hp
  ·rcases List.mem_append.1 hp with hp|hp
   ·exact h1 p hp
   ·simp at hp;subst hp;exact AW (KN hd.1.2.1 hd.1.2.2.1) (by decide)
  ·exact h3 p hp
 ·rw[if_neg hs];exact⟨Qfr hd.1,(Q4g _).2⟩
theorem Q1u (l:List Pt):List.drop (Int.toNat 1) (l.map ptR)=(l.drop 1).map ptR:=by rw[show Int.toNat 1=1 from rfl,List.map_drop]
theorem Rl (l:List Pt):List.take (Int.toNat 1) (l.map ptR)=(l.take 1).map ptR:=by rw[show Int.toNat 1=1 from rfl,List.map_take]
end Go.Bm
namespace Go.Bm
open Classical
def BL (it:Itm):Prop:=it.kind<1\/it.kind>14\/(AB it/\(¬Dt it\/(it.kind≠1/\(it.feed<1\/it.feed>60000000))\/it.blend<0\/it.blend>1000))\/(¬AB it/\it.kind=8/\(it.n<3\/it.n>5\/it.speed<0\/it.speed>30000))
noncomputable def GW (aA:List Itm):Nat->Nat->Int->Int
 |0,_,_=>0
 |k+1,i,last=>if BL (itA aA i)then 1 else if AB (itA aA i)then(if 0<=last/\(itA aA last.toNat).to≠(itA aA i).fr then 13 else GW aA k (i+1) i)else GW aA k (i+1) last
noncomputable def C3 (aA:List Itm):Int:=if aA.length>20000 then 10 else GW aA aA.length 0 (-1)
theorem Xi {aA:List Itm}:∀(k i:Nat) (last:Int),i+k=aA.length->GW aA k i last=0->∀j,i<=j->j<aA.length-> ¬BL (itA aA j)
 |0,i,last,hi,_,j,h1,h2=>by omega
 |k+1,i,last,hi,h,j,h1,h2=>by
  unfold GW at h;split at h
  ·omega
  ·rename_i c;by_cases hij:j=i
   ·subst hij;exact c
   ·split at h
    ·split at h
     ·omega
     ·exact Xi k (i+1) _ (by omega) h j (by omega) h2
    ·exact Xi k (i+1) _ (by omega) h j (by omega) h2
theorem Mu {aA:List Itm} (h:C3 aA=0):aA.length<=20000/\∀j,j<aA.length-> ¬BL (itA aA j):=by
 unfold C3 at h;split at h
 ·omega
 ·exact⟨by omega,fun j hj=>Xi _ 0 _ (by omega) h j (by omega) hj⟩
theorem Le {it:Itm} (h: ¬BL it) (hm:AB it):drawn it/\(it.kind=1\/1<=it.feed/\it.feed<=60000000):=by
 unfold BL at h;have hv:Dt it:=by
  by_cases c:Dt it
  ·exact c
  ·exact absurd (.inr (.inr (.inl ⟨hm, .inl c⟩))) h
 have h2: ¬((it.kind≠1/\(it.feed<1\/it.feed>60000000))\/it.blend<0\/it.blend>1000):=fun c=>h (.inr (.inr (.inl ⟨hm, .inr c⟩)));exact⟨⟨hv,by omega,by omega⟩,by omega⟩
theorem Zm3 {it:Itm} (h: ¬BL it) (h8:it.kind=8):0<=it.speed/\it.speed<=30000:=by
 unfold BL at h;have hm: ¬AB it:=fun c=>by have:=c.2;omega
 have h2: ¬(it.n<3\/it.n>5\/it.speed<0\/it.speed>30000):=fun c=>h (.inr (.inr (.inr ⟨hm,h8,c⟩)));omega
noncomputable def A6 (item feed lead:Int) (s:List Sgm×Int×Pt) (q:Pt):List Sgm×Int×Pt:=if q=s.2.2 then s else(s.1++[⟨q,AE s.2.2 q,item,feed,lead⟩],s.2.1+AE s.2.2 q,q)
theorem RO {item feed lead:Int}:∀(pts:List Pt) (s:List Sgm×Int×Pt),(∀p∈pts,bd 67108864 p)->bd 67108864 s.2.2->0<=s.2.1->
  (pts.foldl (A6 item feed lead) s).1.length<=s.1.length+pts.length/\s.2.1<=(pts.foldl (A6 item feed lead) s).2.1/\(pts.foldl (A6 item feed lead) s).2.1<=s.2.1+pts.length*268435456/\bd 67108864 (pts.foldl (A6 item feed lead) s).2.2
 |[],s,_,h2,h3=>⟨by simp,by simp,by simp,h2⟩
 |q::pts,s,h1,h2,h3=>by
  rw[List.foldl_cons];have hq:=h1 q (by simp);have hl:=HL h2 hq;have hs:A6 item feed lead s q=s\/A6 item feed lead s q=(s.1++[⟨q,AE s.2.2 q,item,feed,lead⟩],s.2.1+AE s.2.2 q,q):=by unfold A6;split<;>simp
  rcases hs with hs|hs
  ·rw[hs];obtain⟨a,b,c,d⟩:=RO pts s (fun p hp=>h1 p (by simp[hp])) h2 h3 (item:=item) (feed:=feed) (lead:=lead);exact⟨by simp;omega,b,by simp;omega,d⟩
  ·rw[hs];obtain⟨a,b,c,d⟩:=RO pts (s.1++[⟨q,AE s.2.2 q,item,feed,lead⟩],s.2.1+AE s.2.2 q,q) (fun p hp=>h1 p (by simp[hp])) hq (by simp only;omega) (item:=item) (feed:=feed) (lead:=lead);simp only[List.length_append,List.length_cons,List.length_nil]at a b c;exact⟨by simp;omega,by omega,by simp;omega,d⟩
structure BSt where
 aF:List Sgm
 aD:List Mrk
 (len speed frm:Int)
 begun:Bool
 (start at_:Pt)
def Nl (it:Itm):Int:=if syI it then mn (it.feed*16) 16777216 else 0
def P5 (it:Itm) (s:Int):Int:=if it.kind=8/\(it.n=3\/it.n=4)then it.speed else s
noncomputable def Fv (aA:List Itm) (i:Nat) (s:BSt):List Sgm×Int×Pt:=
 (Cs aA i s.frm).foldl (A6 i (Hd (itA aA i) s.speed) (Nl (itA aA i))) (s.aF,s.len,if s.begun=true then s.at_ else Ax (itA aA i).fr)
noncomputable def DB (aA:List Itm) (i:Nat) (s:BSt):BSt:=
 if AB (itA aA i)then
  ⟨(Fv aA i s).1,s.aD++[⟨(Fv aA i s).2.1,H6 aA i,i⟩],(Fv aA i s).2.1,s.speed,if 0<=Cb aA i then i else-1,true,if s.begun=true then s.start else Ax (itA aA i).fr,(Fv aA i s).2.2⟩
 else⟨s.aF,s.aD++[⟨s.len,KE (itA aA i),i⟩],s.len,P5 (itA aA i) s.speed,s.frm,s.begun,s.start,s.at_⟩
noncomputable def Au (aA:List Itm):Nat->BSt
 |0=>⟨[],[],0,0,-1,false,⟨0,0,0⟩,⟨0,0,0⟩⟩
 |i+1=>DB aA i (Au aA i)
structure BOK (aA : List Itm) (i : Nat) (s : BSt) : Prop where
 aF:s.aF.length<=i*65537
 aD:s.aD.length=i
 len:0<=s.len/\s.len<=i*65537*268435456
 speed:0<=s.speed/\s.speed<=30000
 frm:Ll aA i s.frm
 at_:s.begun=true->bd 67108864 s.at_
theorem Qpp {aA:List Itm} {i:Nat} {s:BSt} (hi:i<aA.length) (hright:∀j<aA.length,¬BL (itA aA j)) (h:BOK aA i s):BOK aA (i+1) (DB aA i s):=by
 have hall:∀k<aA.length,AB (itA aA k)->drawn (itA aA k):=fun k hk hm=>(Le (hright k hk) hm).1;unfold DB;by_cases hm:AB (itA aA i)
 ·rw[if_pos hm];have hd:=hall i hi hm;obtain⟨p1,p2⟩:=Ul hd h.frm hall;have ha:bd 67108864 (if s.begun=true then s.at_ else Ax (itA aA i).fr):=by
   by_cases hb:s.begun=true
   ·rw[if_pos hb];exact h.at_ hb
   ·rw[if_neg hb];exact AW (Fg hd.1.2.1) (by decide)
  obtain⟨a1,a2,a3,a4⟩:=RO (item:=i) (feed:=Hd (itA aA i) s.speed) (lead:=Nl (itA aA i)) (Cs aA i s.frm) (s.aF,s.len,if s.begun=true then s.at_ else Ax (itA aA i).fr) p1 ha h.len.1;have h1:=h.aF;have h2:=h.len;have e1:(i+1)*65537=i*65537+65537:=by rw[Nat.succ_mul]
  refine⟨?_,?_,?_,h.speed,?_,fun _=>a4⟩
  ·simp only at a1;show(Fv aA i s).1.length<=_;unfold Fv;omega
  ·show(s.aD++[_]).length=_;rw[List.length_append,h.aD];rfl
  ·show 0<=(Fv aA i s).2.1/\(Fv aA i s).2.1<=_;unfold Fv;simp only at a2 a3;have e2:(((i+1:Nat):Int))*65537*268435456=(i:Int)*65537*268435456+65537*268435456:=by
    rw[Int.natCast_add,Int.natCast_one,Int.add_mul,Int.add_mul];rfl
   constructor
   ·omega
   ·rw[e2];omega
  ·show Ll aA (i+1) (if 0<=Cb aA i then(i:Int)else-1);split
   ·exact .inr ⟨i,rfl,hi,hd⟩
   ·exact .inl rfl
 ·rw[if_neg hm];have h2:=h.len;have h3:=h.aF;have e1:(i+1)*65537=i*65537+65537:=by rw[Nat.succ_mul]
  refine⟨by show s.aF.length<=_;rw[e1];exact Nat.le_trans h3 (Nat.le_add_right _ _),?_,?_,?_,h.frm,h.at_⟩
  ·show(s.aD++[_]).length=_;rw[List.length_append,h.aD];rfl
  ·have e2:(((i+1:Nat):Int))*65537*268435456=(i:Int)*65537*268435456+65537*268435456:=by
    rw[Int.natCast_add,Int.natCast_one,Int.add_mul,Int.add_mul];rfl
   show 0<=s.len/\s.len<=_;rw[e2];omega
  ·show 0<=P5 (itA aA i) s.speed/\P5 (itA aA i) s.speed<=30000;unfold P5;split
   ·rename_i h8;exact Zm3 (hright i hi) h8.1
   ·exact h.speed
theorem Zxi (aA:List Itm):BOK aA 0 ⟨[],[],0,0,-1,false,⟨0,0,0⟩,⟨0,0,0⟩⟩:=by
 refine⟨Nat.zero_le _,List.length_nil,⟨Int.le_refl _,?_⟩,⟨Int.le_refl _,?_⟩, .inl rfl,fun h=>by cases h⟩
 ·show(0:Int)<=((0:Nat):Int)*65537*268435456;rw[show((0:Nat):Int)=0 from rfl,Int.zero_mul,Int.zero_mul];exact Int.le_refl _
 ·show(0:Int)<=30000;omega
theorem Mr {aA:List Itm} (hright:∀j<aA.length,¬BL (itA aA j)):∀i,i<=aA.length->BOK aA i (Au aA i)
 |0,_=>by rw[Au];exact Zxi aA
 |i+1,hi=>by rw[Au];exact Qpp (by omega) hright (Mr hright i (by omega))
end Go.Bm
namespace Go.Bm
open Classical
end Go.Bm
namespace Go.Bm
open Classical
noncomputable def AP (aA:List Itm):Pth:=⟨(Au aA aA.length).start,(Au aA aA.length).aF,(Au aA aA.length).aD⟩
end Go.Bm
namespace Go.Bm
open Classical
def E_:Pt->List Sgm->Pt
 |a,[]=>a
 |_,g::l=>E_ g.to l
abbrev B26:Nat:=67108864
def Me:Pt->List Sgm->Prop
 |_,[]=>True
 |a,g::l=>g.len=AE a g.to/\g.to≠a/\bd B26 g.to/\Me g.to l
def AA:List Sgm->Int
 |[]=>0
 |g::l=>g.len+AA l
theorem S5 (g:Sgm):∀(a:Pt) (l:List Sgm),E_ a (l++[g])=g.to
 |_,[]=>rfl
 |_,h::l=>by simp only[List.cons_append,E_];exact S5 g h.to l
theorem Q4u {g:Sgm}:∀{a:Pt} {l:List Sgm},Me a l->g.len=AE (E_ a l) g.to->g.to≠E_ a l->bd B26 g.to->Me a (l++[g])
 |a,[],_,h1,h2,h3=>⟨h1,h2,h3,trivial⟩
 |a,k::l,h,h1,h2,h3=>⟨h.1,h.2.1,h.2.2.1,Q4u h.2.2.2 h1 h2 h3⟩
theorem UX (g:Sgm):∀(l:List Sgm),AA (l++[g])=AA l+g.len
 |[]=>by simp[AA]
 |k::l=>by simp only[List.cons_append,AA];rw[UX g l];omega
def Qg2 (start:Pt) (s:List Sgm×Int×Pt):Prop:=Me start s.1/\E_ start s.1=s.2.2/\AA s.1=s.2.1
theorem W6 {start:Pt} {item feed lead:Int}:∀(pts:List Pt) (s:List Sgm×Int×Pt),(∀p∈pts,bd B26 p)->Qg2 start s->Qg2 start (pts.foldl (A6 item feed lead) s)
 |[],s,_,h=>h
 |q::pts,s,hp,h=>by
  rw[List.foldl_cons];refine W6 pts _ (fun p hp'=>hp p (by simp[hp'])) ?_;unfold A6;by_cases c:q=s.2.2
  ·rw[if_pos c];exact h
  ·rw[if_neg c];obtain⟨h1,h2,h3⟩:=h;refine⟨Q4u h1 (by rw[h2]) (by rw[h2];exact c) (hp q (by simp)),S5 _ _ _,?_⟩;simp only[UX,h3]
structure BInv (s : BSt) : Prop where
 begun:s.begun=true->bd B26 s.start/\Qg2 s.start (s.aF,s.len,s.at_)
 empty:s.begun=false->s.aF=[]/\s.len=0/\s.start=⟨0,0,0⟩
theorem Zii {aA:List Itm} {i:Nat} {s:BSt} (hi:i<aA.length) (hright:∀j<aA.length,¬BL (itA aA j)) (hok:BOK aA i s) (h:BInv s):BInv (DB aA i s):=by
 have hall:∀k<aA.length,AB (itA aA k)->drawn (itA aA k):=fun k hk hm=>(Le (hright k hk) hm).1;unfold DB;by_cases hm:AB (itA aA i)
 ·rw[if_pos hm];have hd:=hall i hi hm;obtain⟨p1,-⟩:=Ul hd hok.frm hall;refine⟨fun _=> ?_,fun hb=>(by cases hb)⟩;unfold Fv;by_cases hb:s.begun=true
  ·rw[if_pos hb,if_pos hb];obtain⟨g1,g2⟩:=h.begun hb;exact⟨g1,W6 _ _ p1 g2⟩
  ·rw[if_neg hb,if_neg hb];obtain⟨g1,g2,g3⟩:=h.empty (by simpa using hb);refine⟨AW (Fg hd.1.2.1) (by decide),W6 _ _ p1 ?_⟩;rw[g1,g2];exact⟨trivial,rfl,rfl⟩
 ·rw[if_neg hm];exact⟨h.begun,h.empty⟩
theorem Jq {aA:List Itm} (hright:∀j<aA.length,¬BL (itA aA j)):∀i,i<=aA.length->BInv (Au aA i)
 |0,_=>by rw[Au];exact⟨fun h=>(by cases h),fun _=>⟨rfl,rfl,rfl⟩⟩
 |i+1,hi=>by rw[Au];exact Zii (by omega) hright (Mr hright i (by omega)) (Jq hright i (by omega))
structure GoodPath (p : Pth) : Prop where
 start:bd B26 p.start
 aF:Me p.start p.aF
 count:p.aF.length<=983055
theorem Qk3 {aA:List Itm} (hlen:aA.length<=15) (hc:C3 aA=0):GoodPath (AP aA):=by
 have hright:=(Mu hc).2;have h1:=Mr hright aA.length (Nat.le_refl _);have h2:=Jq hright aA.length (Nat.le_refl _);have hs:=h1.aF;unfold AP;by_cases hb:(Au aA aA.length).begun=true
 ·obtain⟨g1,g2,-⟩:=h2.begun hb;exact⟨g1,g2,by simp only;omega⟩
 ·obtain⟨g1,-,g3⟩:=h2.empty (by simpa using hb);refine⟨?_,?_,?_⟩
  ·simp only[g3];unfold bd;simp
  ·simp only[g1];trivial
  ·simp only[g1];simp
theorem Qxl {a b:Pt} (ha:bd B26 a) (hb:bd B26 b) (h:b≠a):1<=AE a b/\AE a b<=268435456:=by
 obtain⟨-,h1,h2,-⟩:=Xb ha hb;have h3:sqD a b≠0:=fun e=>h (Qhl.1 e).symm;have h4:=O5 a b;have h5:=HL ha hb;refine⟨?_,h5.2⟩;by_cases c:AE a b=0
 ·rw[c]at h2;omega
 ·omega
theorem RZ {a:Pt} {l:List Sgm} (ha:bd B26 a) (h:Me a l):∀g∈l,1<=g.len/\g.len<=268435456/\bd B26 g.to:=by
 induction l generalizing a with
 |nil=>simp
 |cons k l ih=>
  obtain⟨h1,h2,h3,h4⟩:=h;intro g hg;rcases List.mem_cons.1 hg with rfl|hg
  ·rw[h1];exact⟨(Qxl ha h3 h2).1,(Qxl ha h3 h2).2,h3⟩
  ·exact ih h3 h4 g hg
theorem WH {l:List Sgm} (h:∀g∈l,1<=g.len/\g.len<=268435456/\bd B26 g.to):(l.length:Int)<=AA l/\AA l<=l.length*268435456:=by
 induction l with
 |nil=>simp[AA]
 |cons k l ih=>
  have:=ih fun g hg=>h g (by simp[hg]);have:=h k (by simp);simp only[AA,List.length_cons];omega
end Go.Bm
namespace Go.Bm
open Classical
def Od (a:Pt) (g:Sgm) (d:Int):Pt:=⟨a.x+Bh ((g.to.x-a.x)*d) g.len,a.y+Bh ((g.to.y-a.y)*d) g.len,a.z+Bh ((g.to.z-a.z)*d) g.len⟩
def atL:Pt->List Sgm->Int->Pt
 |a,[],_=>a
 |a,g::l,s=>if s<g.len then Od a g s else atL g.to l (s-g.len)
def atP (p:Pth) (s:Int):Pt:=atL p.start p.aF (max s 0)
def Bf:List Sgm->Int->Nat×Int
 |[],s=>(0,s)
 |[g],s=>if s<g.len then(0,s)else(0,g.len)
 |g::h::l,s=>if s<g.len then(0,s)else((Bf (h::l) (s-g.len)).1+1,(Bf (h::l) (s-g.len)).2)
def E2 (a:Pt) (l:List Sgm) (i:Nat):Pt:=E_ a (l.take i)
def sg0:Sgm:=⟨⟨0,0,0⟩,0,0,0,0⟩
def sgA (l:List Sgm) (i:Nat):Sgm:=l.getD i sg0
theorem NG {l:List Sgm} {i:Nat} (h:i<l.length):sgA l i=l[i]:=by unfold sgA;simp[h]
theorem Lo {l:List Sgm} {i:Nat} (h:i<l.length):nth [] (l.map Ay) i=Ay (sgA l i):=by rw[NG h];exact I_ _ _ _ _ h
theorem Hc {l:List Sgm} {i:Nat} (h:i<l.length):sgA l i∈l:=by rw[NG h];exact List.getElem_mem h
theorem Jo (a:Pt) (l:List Sgm):E2 a l 0=a:=by unfold E2;simp[E_]
theorem Ur (a:Pt) (g:Sgm) (l:List Sgm) (i:Nat):E2 a (g::l) (i+1)=E2 g.to l i:=by unfold E2;rw[List.take_succ_cons];rfl
theorem XZ (g:Sgm) (l:List Sgm) (i:Nat):sgA (g::l) (i+1)=sgA l i:=by unfold sgA;simp
theorem S1:∀{l:List Sgm} {i:Nat} {a:Pt},i<l.length->E2 a l (i+1)=(sgA l i).to
 |g::l,0,a,_=>by rw[Ur,Jo];rfl
 |g::l,i+1,a,h=>by rw[Ur,XZ];exact S1 (by simpa using h)
theorem Qb7 {x n:Int} (hn:0<n):Bh (x*n) n=x:=SB hn
theorem Zcx {a:Pt} {g:Sgm} (h:0<g.len):Od a g g.len=g.to:=by
 unfold Od;rw[Qb7 h,Qb7 h,Qb7 h];rw[DS];exact⟨by simp only;omega,by simp only;omega,by simp only;omega⟩
theorem W_:∀{l:List Sgm} {a:Pt} {s:Int},l≠[]->(∀g∈l,1<=g.len)->0<=s->
  (Bf l s).1<l.length/\0<=(Bf l s).2/\(Bf l s).2<=(sgA l (Bf l s).1).len/\atL a l s=Od (E2 a l (Bf l s).1) (sgA l (Bf l s).1) (Bf l s).2
 |[],_,_,h,_,_=>absurd rfl h
 |[g],a,s,_,hg,hs=>by
  have h1:=hg g (by simp);unfold Bf;by_cases c:s<g.len
  ·rw[if_pos c];refine⟨by simp,hs,by show s<=g.len;omega,?_⟩;unfold atL;rw[if_pos c,Jo];rfl
  ·rw[if_neg c];refine⟨by simp,by simp only;omega,Int.le_refl _,?_⟩;unfold atL;rw[if_neg c,Jo];show atL g.to [] _=Od a g g.len;rw[Zcx (by omega)];rfl
 |g::h::l,a,s,_,hg,hs=>by
  have h1:=hg g (by simp);unfold Bf;by_cases c:s<g.len
  ·rw[if_pos c];refine⟨by simp,hs,by show s<=g.len;omega,?_⟩;unfold atL;rw[if_pos c,Jo];rfl
  ·rw[if_neg c];obtain⟨k1,k2,k3,k4⟩:=W_ (l:=h::l) (a:=g.to) (s:=s-g.len) (by simp) (fun k hk=>hg k (by simp at hk⊢;exact .inr hk)) (by omega);refine⟨by simp at k1⊢;omega,k2,?_,?_⟩
   ·simp only[XZ];exact k3
   ·rw[show atL a (g::h::l) s=atL g.to (h::l) (s-g.len)from by rw[atL,if_neg c]];simp only[Ur,XZ];exact k4
theorem UK {x n:Int} {A:Nat} (hn:0<n) (h: -(A*n)<=x/\x<=A*n):(Bh x n).natAbs<=A:=by
 have m1:=R8 hn h.2;have m2:=R8 hn h.1;rw[show-((A:Int)*n)= -(A:Int)*n by rw[Int.neg_mul]]at m2;rw[SB hn]at m1 m2;omega
theorem Q33 {D L d:Int} (hL:0<L) (hD:D.natAbs<=134217728) (hd:0<=d/\d<=L):(Bh (D*d) L).natAbs<=134217728:=by
 refine UK hL ?_;have h1:D*d<=134217728*d:=Int.mul_le_mul_of_nonneg_right (by omega) hd.1;have h2: -134217728*d<=D*d:=Int.mul_le_mul_of_nonneg_right (by omega) hd.1;have e:((134217728:Nat):Int)=134217728:=rfl;rw[e];omega
structure SegOK (l : List Sgm) : Prop where
 seg:∀g∈l,1<=g.len/\g.len<=268435456/\bd B26 g.to
 count:l.length<=983055
theorem GoodPath.ok {p:Pth} (h:GoodPath p):SegOK p.aF:=⟨RZ h.start h.aF,h.count⟩
theorem Qyp {a:Pt} {l:List Sgm} (ha:bd B26 a) (h:SegOK l) {i:Nat} (hi:i<l.length):bd B26 (E2 a l i):=by
 cases i with
 |zero=>rw[Jo];exact ha
 |succ i=>rw[S1 (by omega)];exact(h.seg _ (Hc (by omega))).2.2
theorem Q6j {l:List Sgm} (h:SegOK l):∀(k i:Nat) (v:Int),i+k=l.length->0<=v->v+k*268435456<=4000000000000000000->
  An Ty [I v, .view Ah (l.map Ay),I l.length,I i]=some (1,[I (v+AA (l.drop i))])
 |0,i,v,hi,_,_=>by
  refine A_ ?_ (by simp);rw[Qo4,AZ (by omega),List.drop_of_length_le (by omega)];simp[AA]
 |k+1,i,v,hi,h0,h1=>by
  have hlt:i<l.length:=by omega
  have hcn:=h.count;have hg:=h.seg _ (Hc hlt);have hst:Ty [I v, .view Ah (l.map Ay),I l.length,I i]=some (0,[I (v+(sgA l i).len), .view Ah (l.map Ay),I l.length,I (i+1:Nat)]):=by
   rw[Qo4];simp only[go_sem,List.length_map,Int.toNat_natCast,Lo hlt];rw[if_pos (by omega),if_pos (by omega),Ae (x:=v+_) (by omega),Ae (by omega)];rfl
  rw[Bt hst,Q6j h k (i+1) _ (by omega) (by omega) (by omega)];have e:l.drop i=sgA l i::l.drop (i+1):=by rw[NG hlt];exact Nt _ _ hlt
  rw[e];simp only[AA,Int.add_assoc]
theorem Q65 {p:Pth} (h:SegOK p.aF):IV (Br p)=some [I (AA p.aF)]:=by
 have hl:=Q6j h p.aF.length 0 0 (by omega) (by omega) (by have:=h.count;omega);have hl':TD [I 0, .view Ah (p.aF.map Ay),I p.aF.length,I 0]=some (1,[I (0+AA (p.aF.drop 0))]):=hl;rw[List.drop_zero,Int.zero_add]at hl';unfold IV;generalize TD=N at*;rw[Zhy];simp only[go_sem,List.length_map,hl']
theorem Q2c {g h:Sgm} {l:List Sgm} {s:Int} (c: ¬s<g.len):Bf (g::h::l) s=((Bf (h::l) (s-g.len)).1+1,(Bf (h::l) (s-g.len)).2):=by rw[Bf,if_neg c]
theorem Q3h {p:Pth} (h:SegOK p.aF):∀(k i:Nat) (s:Int),i+k=p.aF.length->1<=k->0<=s/\s<=9223372036854775807->
  An RI (I s:: .view Ah (p.aF.map Ay)::I p.aF.length::I i::Br p)=some (1,[I (i+(Bf (p.aF.drop i) s).1:Nat),I (Bf (p.aF.drop i) s).2])
 |k+1,i,s,hi,_,hs=>by
  have hlt:i<p.aF.length:=by omega
  have hcnt:=h.count;have hg:=h.seg _ (Hc hlt);have e:p.aF.drop i=sgA p.aF i::p.aF.drop (i+1):=by rw[NG hlt];exact Nt _ _ hlt
  have hst:RI (I s:: .view Ah (p.aF.map Ay)::I p.aF.length::I i::Br p)=if s<(sgA p.aF i).len then some (1,[I i,I s])else if k=0 then some (1,[I i,I (sgA p.aF i).len])else some (0,I (s-(sgA p.aF i).len):: .view Ah (p.aF.map Ay)::I p.aF.length::I (i+1:Nat)::Br p):=by
   rw[Qzv];simp only[go_sem,List.length_map,Int.toNat_natCast,Lo hlt];rw[if_pos (by omega),if_pos (by omega),Ae (x:=(p.aF.length:Int)-1) (by omega),Ae (x:=(i:Int)+1) (by omega)];by_cases c:s<(sgA p.aF i).len
   ·rw[if_pos c,if_pos c]
   ·rw[if_neg c,if_neg c];by_cases c2:k=0
    ·rw[if_pos (by omega),if_pos c2]
    ·rw[if_neg (by omega),if_neg c2,Ae (by omega)];rfl
  by_cases c:s<(sgA p.aF i).len
  ·rw[if_pos c]at hst;rw[A_ hst (by simp),e];cases p.aF.drop (i+1)with
   |nil=>rw[Bf,if_pos c];rfl
   |cons b l=>rw[Bf,if_pos c];rfl
  ·rw[if_neg c]at hst;by_cases c2:k=0
   ·rw[if_pos c2]at hst;rw[A_ hst (by simp),e,List.drop_of_length_le (by omega),Bf,if_neg c];rfl
   ·rw[if_neg c2]at hst;rw[Bt hst,Q3h h k (i+1) _ (by omega) (by omega) (by omega),e];have e2:p.aF.drop (i+1)=sgA p.aF (i+1)::p.aF.drop (i+1+1):=by rw[NG (show i+1<p.aF.length by omega)];exact Nt _ _ (by omega)
    rw[e2,Q2c c,<-e2];simp only;rw[show i+1+(Bf (p.aF.drop (i+1)) (s-(sgA p.aF i).len)).1=i+((Bf (p.aF.drop (i+1)) (s-(sgA p.aF i).len)).1+1) by omega]
theorem Un {p:Pth} (h:SegOK p.aF) {s:Int} (hs:i64 s):Ez (Br p++[I s])=if p.aF=[]then some [I (-1),I 0]else some [I (Bf p.aF (max s 0)).1,I (Bf p.aF (max s 0)).2]:=by
 unfold i64 at hs;have hmx:mx s 0=max s 0:=mx_max' s 0;by_cases c:p.aF=[]
 ·rw[if_pos c];have hend:Oj (I (max s 0):: .view Ah []::I 0::I 0::Br p)=some (2,[]):=by
   refine A_ ?_ (by simp);rw[Qzv,AZ (by omega)]
  unfold Ez;generalize Oj=N at*;have he:=Qq0 N p.start.x p.start.y p.start.z (p.aF.map Ay) (p.aD.map Aq) s;refine Eq.trans he ?_;rw[hmx,c];have hend':N [I (max s 0), .view Ah [],I 0,I 0,I p.start.x,I p.start.y,I p.start.z, .view Ah [], .view AF (p.aD.map Aq)]=some (2,[]):=by
   have:=hend;unfold Br at this;rw[c]at this;exact this
  simp only[go_sem,List.map_nil,List.length_nil];simp only[Int.natCast_zero];rw[hend'];simp
 ·rw[if_neg c];have hpos:0<p.aF.length:=by
   cases hh:p.aF with
   |nil=>exact absurd hh c
   |cons _ _=>simp
  have hL:=Q3h h p.aF.length 0 (max s 0) (by omega) (by omega) (by omega);have hL':Oj [I (max s 0), .view Ah (p.aF.map Ay),I p.aF.length,I 0,I p.start.x,I p.start.y,I p.start.z, .view Ah (p.aF.map Ay), .view AF (p.aD.map Aq)]=some (1,[I (0+(Bf (p.aF.drop 0) (max s 0)).1:Nat),I (Bf (p.aF.drop 0) (max s 0)).2]):=hL;rw[List.drop_zero,Nat.zero_add]at hL';unfold Ez;generalize Oj=N at*;have he:=Qq0 N p.start.x p.start.y p.start.z (p.aF.map Ay) (p.aD.map Aq) s;refine Eq.trans he ?_;rw[hmx];simp only[go_sem,List.length_map,hL']
 where mx_max' (a b:Int):mx a b=max a b:=by unfold mx;rw[Int.max_def];split<;>split<;>omega
theorem Q8v {MM MF:Fn} {p:Pth} (h:GoodPath p) {s:Int} (hF:MF (Br p++[I s])=if p.aF=[]then some [I (-1),I 0]else some [I (Bf p.aF (max s 0)).1,I (Bf p.aF (max s 0)).2])
  (hM:∀{a b c:Int},a.natAbs<=134217728->b.natAbs<=268435456->(0<c/\c<=268435456)->MM [I a,I b,I c,I 2]=some [I (Bh (a*b) c),B true]):
  Qkg MM MF (Br p++[I s])=some (ptR (atP p s)):=by
 have he:=Z1q (AH:=MM) (Dl:=MF) p.start.x p.start.y p.start.z (p.aF.map Ay) (p.aD.map Aq) s;refine Eq.trans he ?_;simp only[List.cons_append,List.nil_append,Br]at hF;unfold atP;by_cases c:p.aF=[]
 ·rw[if_pos c]at hF;simp only[hF,go_sem];rw[if_pos (by omega),c];rfl
 ·rw[if_neg c]at hF;have hok:=h.ok;obtain⟨f1,f2,f3,f4⟩:=W_ (l:=p.aF) (a:=p.start) (s:=max s 0) c (fun g hg=>(hok.seg g hg).1) (by omega);rw[f4];have hg:=hok.seg _ (Hc f1);have hv:=Qyp h.start hok f1;have hr:=Lo f1;have hcnt:=hok.count;generalize(Bf p.aF (max s 0)).1=i at*;generalize(Bf p.aF (max s 0)).2=d at*;have hdn:d.natAbs<=268435456:=by omega
  have fin:∀{a:Pt},bd B26 a->(MM [I (wrap .i64 ((sgA p.aF i).to.x-a.x)),I d,I (sgA p.aF i).len,I 2]=some [I (Bh (((sgA p.aF i).to.x-a.x)*d) (sgA p.aF i).len),B true]/\wrap .i64 (a.x+Bh (((sgA p.aF i).to.x-a.x)*d) (sgA p.aF i).len)=a.x+Bh (((sgA p.aF i).to.x-a.x)*d) (sgA p.aF i).len)/\
    (MM [I (wrap .i64 ((sgA p.aF i).to.y-a.y)),I d,I (sgA p.aF i).len,I 2]=some [I (Bh (((sgA p.aF i).to.y-a.y)*d) (sgA p.aF i).len),B true]/\wrap .i64 (a.y+Bh (((sgA p.aF i).to.y-a.y)*d) (sgA p.aF i).len)=a.y+Bh (((sgA p.aF i).to.y-a.y)*d) (sgA p.aF i).len)/\
    (MM [I (wrap .i64 ((sgA p.aF i).to.z-a.z)),I d,I (sgA p.aF i).len,I 2]=some [I (Bh (((sgA p.aF i).to.z-a.z)*d) (sgA p.aF i).len),B true]/\wrap .i64 (a.z+Bh (((sgA p.aF i).to.z-a.z)*d) (sgA p.aF i).len)=a.z+Bh (((sgA p.aF i).to.z-a.z)*d) (sgA p.aF i).len):=by
   intro a ha;have key:∀u v:Int,u.natAbs<=B26->v.natAbs<=B26->MM [I (wrap .i64 (u-v)),I d,I (sgA p.aF i).len,I 2]=some [I (Bh ((u-v)*d) (sgA p.aF i).len),B true]/\wrap .i64 (v+Bh ((u-v)*d) (sgA p.aF i).len)=v+Bh ((u-v)*d) (sgA p.aF i).len:=by
    intro u v hu hv;have h1:=H8 hu hv;rw[Il h1 (by decide)];refine⟨hM (Nat.le_trans h1 (by decide)) hdn (by omega),?_⟩;exact Il (QK hv (Q33 (by omega) (Nat.le_trans h1 (by decide)) ⟨f2,f3⟩)) (by decide)
   exact⟨key _ _ hg.2.2.1 ha.1,key _ _ hg.2.2.2.1 ha.2.1,key _ _ hg.2.2.2.2 ha.2.2⟩
  have hin:(0:Int)<=(i:Int)/\(i:Int)<(p.aF.length:Int):=by omega
  simp only[hF,go_sem,List.length_map,Int.toNat_natCast,hr,if_pos hin];rw[if_neg (by omega)];by_cases c0:i=0
  ·subst c0;obtain⟨⟨m1,w1⟩,⟨m2,w2⟩,m3,w3⟩:=fin h.start;rw[if_neg (by omega),Jo];simp only[m1,m2,m3,go_sem,w1,w2,w3];rfl
  ·obtain⟨j,rfl⟩:∃j,i=j+1:=⟨i-1,by omega⟩;have hj:=Lo (l:=p.aF) (i:=j) (by omega);have hgj:=hok.seg _ (Hc (l:=p.aF) (i:=j) (by omega));obtain⟨⟨m1,w1⟩,⟨m2,w2⟩,m3,w3⟩:=fin hgj.2.2;rw[if_pos (by omega),S1 (by omega)];have e1:wrap .i64 (((j+1:Nat):Int)-1)=(j:Int):=by rw[Ae (by omega)];omega
   rw[e1];simp only[Int.toNat_natCast,hj,go_sem];rw[if_pos (by omega)];simp only[m1,m2,m3,go_sem,w1,w2,w3];rfl
theorem Q38 {a b c:Int} (ha:a.natAbs<=134217728) (hb:b.natAbs<=268435456) (hc:0<c/\c<=268435456):Bs [I a,I b,I c,I 2]=some [I (Bh (a*b) c),B true]:=by
 have:=Nat.mul_le_mul ha hb;exact Sv (by unfold i64;omega) (by unfold i64;omega) (by omega) (by omega)
theorem Zu1 {p:Pth} (h:GoodPath p) {s:Int} (hs:i64 s):O4 (Br p++[I s])=some (ptR (atP p s)):=
 Q8v h (Un h.ok hs) Q38
end Go.Bm
namespace Go.Bm
open Classical
theorem U_ {p:Pth} (h:GoodPath p):0<=AA p.aF/\AA p.aF<=263886834032640:=by
 have h1:=WH h.ok.seg;have h2:=h.count;omega
end Go.Bm
namespace Go.Bm
open Classical
end Go.Bm
namespace Go.Bm
open Classical
theorem Zn6 {α:Type} (d x:α) (l:List α):nth d (x::l) 40=nth d l 39:=by simp[nth]
theorem Zfc {α:Type} (d x:α) (l:List α):nth d (x::l) 41=nth d l 40:=by simp[nth]
theorem Z2m {α:Type} (d x:α) (l:List α):nth d (x::l) 42=nth d l 41:=by simp[nth]
theorem Zm9 {α:Type} (d x:α) (l:List α):nth d (x::l) 43=nth d l 42:=by simp[nth]
theorem Q9d {α:Type} (d x:α) (l:List α):nth d (x::l) 44=nth d l 43:=by simp[nth]
theorem Zl7 {α:Type} (d x:α) (l:List α):nth d (x::l) 45=nth d l 44:=by simp[nth]
theorem Zus {α:Type} (d x:α) (l:List α):nth d (x::l) 46=nth d l 45:=by simp[nth]
theorem Zaw {α:Type} (d x:α) (l:List α):nth d (x::l) 47=nth d l 46:=by simp[nth]
theorem Zor {α:Type} (d x:α) (l:List α):nth d (x::l) 48=nth d l 47:=by simp[nth]
theorem Zmh {α:Type} (d x:α) (l:List α):nth d (x::l) 49=nth d l 48:=by simp[nth]
theorem Zo2 {α:Type} (d x:α) (l:List α):nth d (x::l) 50=nth d l 49:=by simp[nth]
theorem Zlh {α:Type} (d x:α) (l:List α):nth d (x::l) 51=nth d l 50:=by simp[nth]
theorem Q9e {α:Type} (d x:α) (l:List α):nth d (x::l) 52=nth d l 51:=by simp[nth]
theorem Q8x {α:Type} (d x:α) (l:List α):nth d (x::l) 53=nth d l 52:=by simp[nth]
theorem Zsm {α:Type} (d x:α) (l:List α):nth d (x::l) 54=nth d l 53:=by simp[nth]
theorem Zek {α:Type} (d x:α) (l:List α):nth d (x::l) 55=nth d l 54:=by simp[nth]
attribute [go_sem] Zn6 Zfc Z2m Zm9 Q9d Zl7 Zus Zaw Zor Zmh Zo2 Zlh Q9e Q8x Zsm Zek
theorem Jj (a b:Int):mn a b=min a b:=by unfold mn;rw[Int.min_def];split<;>split<;>omega
theorem NA (a b:Int):mx a b=max a b:=by unfold mx;rw[Int.max_def];split<;>split<;>omega
def RK (now a b mv:Int):Int:=if b>a then mv else if b<a then-mv else now
def DQ (now a b:Pt) (mv:Int):Pt:=⟨RK now.x a.x b.x mv,RK now.y a.y b.y mv,RK now.z a.z b.z mv⟩
def slk (was dirs n v:Int):Int:=if was=dirs then v else max v n
def CU (x:Ax3) (was dirs:Pt):Int:=slk was.z dirs.z x.c.back (slk was.y dirs.y x.b.back (slk was.x dirs.x x.a.back 0))
def pc0:Pce:=⟨0,0,0,0,⟨0,0,0⟩,⟨0,0,0⟩⟩
def Be (l:List Pce):Pce:=l.getD (l.length-1) pc0
def Fp (t:Trk) (c:Pce):Trk:=
 if t.aE≠[]/\c.move≠0/\(Be t.aE).move=c.move/\(Be t.aE).dirs=c.dirs then
  {t with aE:=t.aE.set (t.aE.length-1) {Be t.aE with units:=(Be t.aE).units+c.units},length:=t.length+c.units}
 else{t with aE:=t.aE++[{c with at_:=t.length}],length:=t.length+c.units}
def Az (l:List Sgm) (i:Nat):Int:=AA (l.take i)
def Ct (x:Ax3) (mv:Int) (a b:Pt) (s units:Int) (st:Trk×Pt):Trk×Pt:=
 (Fp (if CU x st.2 (DQ st.2 a b mv) > 0 then Fp st.1 ⟨0, CU x st.2 (DQ st.2 a b mv), s, 0, st.2, DQ st.2 a b mv⟩ else st.1)
  ⟨0,units,s,mv,DQ st.2 a b mv,DQ st.2 a b mv⟩,DQ st.2 a b mv)
def H7 (p:Pth) (x:Ax3) (mv lo hi:Int) (i:Nat) (s:Trk×Pt):Trk×Pt:=
 if max (Az p.aF i) lo<min (Az p.aF (i+1)) hi then
  Ct x mv (E2 p.start p.aF i) (sgA p.aF i).to (if mv<0 then min (Az p.aF (i+1)) hi else max (Az p.aF i) lo) (min (Az p.aF (i+1)) hi-max (Az p.aF i) lo) s
 else s
def Ew (n:Nat) (mv:Int) (j:Nat):Nat:=if mv<0 then n-1-j else j
def Cy (p:Pth) (x:Ax3) (mv lo hi:Int) (t0:Trk×Pt):Nat->Trk×Pt
 |0=>t0
 |j+1=>H7 p x mv lo hi (Ew p.aF.length mv j) (Cy p x mv lo hi t0 j)
def Bz (n hi:Int):Int:=max 0 (min n hi)
def Ej (p:Pth) (x:Ax3) (d:Pt) (from_ to:Int):Trk:=
 let n:=AA p.aF
 let f:=Bz from_ n
 let t:=Bz to n
 (Cy p x (if f>t then-1 else 1) (min f t) (max f t) (⟨[],0,f,d⟩,d) p.aF.length).1
structure Ax3OK (x : Ax3) : Prop where
 a:0<=x.a.back/\x.a.back<=1000
 b:0<=x.b.back/\x.b.back<=1000
 c:0<=x.c.back/\x.c.back<=1000
theorem Tw {x:Ax3} (h:Ax3OK x) (a b:Pt):0<=CU x a b/\CU x a b<=1000:=by
 obtain⟨h1,h2,h3⟩:=h;unfold CU slk
 (repeat' split)<;>omega
structure TB (t : Trk) (n m : Int) : Prop where
 count:(t.aE.length:Int)<=n
 len:0<=t.length/\t.length<=m
 each:∀c∈t.aE,0<=c.units/\c.units<=t.length
theorem Q6o {l:List Pce} (h:l≠[]):Be l∈l:=by
 have hp:0<l.length:=by cases l with
  |nil=>exact absurd rfl h
  |cons _ _=>simp
 have hlt:l.length-1<l.length:=by omega
 unfold Be;rw[List.getD_eq_getElem?_getD,List.getElem?_eq_getElem hlt,Option.getD_some];exact List.getElem_mem _
theorem Wd {t:Trk} {n m:Int} (h:TB t n m) {c:Pce} {k:Int} (hc:0<=c.units/\c.units<=k):TB (Fp t c) (n+1) (m+k):=by
 obtain⟨h1,h2,h3⟩:=h;unfold Fp;by_cases g:t.aE≠[]/\c.move≠0/\(Be t.aE).move=c.move/\(Be t.aE).dirs=c.dirs
 ·rw[if_pos g];refine⟨by simp only[List.length_set];omega,by simp only;omega,?_⟩;intro q hq;rcases List.mem_or_eq_of_mem_set hq with hq|rfl
  ·have:=h3 q hq;simp only;omega
  ·have:=h3 _ (Q6o g.1);simp only;omega
 ·rw[if_neg g];refine⟨by simp only[List.length_append,List.length_cons,List.length_nil];omega,by simp only;omega,?_⟩;intro q hq;rcases List.mem_append.1 hq with hq|hq
  ·have:=h3 q hq;simp only;omega
  ·rw[List.mem_singleton]at hq;subst hq;simp only;omega
theorem Q4y (t:Trk) (c:Pce):(Fp t c).start=t.start/\(Fp t c).dirs=t.dirs:=by
 unfold Fp;split<;>exact⟨rfl,rfl⟩
theorem Ru (l:List Sgm):Az l 0=0:=by unfold Az;rw[List.take_zero];rfl
theorem Qi {l:List Sgm} {i:Nat} (h:i<l.length):Az l (i+1)=Az l i+(sgA l i).len:=by
 unfold Az;rw[List.take_add_one,List.getElem?_eq_getElem h,Option.toList_some,UX,NG h]
theorem Qr3 (l:List Sgm):Az l l.length=AA l:=by unfold Az;rw[List.take_length]
theorem V8 {l:List Sgm} (h:SegOK l):∀i,i<=l.length->0<=Az l i/\Az l i<=i*268435456
 |0,_=>by rw[Ru];simp
 |i+1,hi=>by
  have:=V8 h i (by omega);have:=h.seg _ (Hc (show i<l.length by omega));rw[Qi (by omega)];omega
theorem Zvm {p:Pth} {x:Ax3} {mv lo hi:Int} {i:Nat} {s:Trk×Pt} {n m:Int} (hx:Ax3OK x) (hp:SegOK p.aF) (hi':i<p.aF.length) (h:TB s.1 n m):TB (H7 p x mv lo hi i s).1 (n+2) (m+268436456):=by
 have hl:=hp.seg _ (Hc hi');have e:=Qi hi';unfold H7;by_cases c:max (Az p.aF i) lo<min (Az p.aF (i+1)) hi
 ·rw[if_pos c];unfold Ct;have hs:=Tw hx s.2 (DQ s.2 (E2 p.start p.aF i) (sgA p.aF i).to mv);have e1:n+2=n+1+1:=by omega
  have e2:m+268436456=m+1000+268435456:=by omega
  rw[e1,e2];refine Wd ?_ (by simp only;omega);by_cases c2:CU x s.2 (DQ s.2 (E2 p.start p.aF i) (sgA p.aF i).to mv)>0
  ·rw[if_pos c2];exact Wd h (by simp only;omega)
  ·rw[if_neg c2];exact⟨by have:=h.count;omega,by have:=h.len;omega,h.each⟩
 ·rw[if_neg c];exact⟨by have:=h.count;omega,by have:=h.len;omega,h.each⟩
theorem YZ {n j:Nat} (mv:Int) (h:j<n):Ew n mv j<n:=by unfold Ew;split<;>omega
theorem Qcp {p:Pth} {x:Ax3} {mv lo hi f:Int} {d:Pt} (hx:Ax3OK x) (hp:SegOK p.aF):∀j,j<=p.aF.length->TB (Cy p x mv lo hi (⟨[],0,f,d⟩,d) j).1 (j*2) (j*268436456)
 |0,_=>⟨by simp[Cy],by simp[Cy],by simp[Cy]⟩
 |j+1,hj=>by
  have h:=Zvm (mv:=mv) (lo:=lo) (hi:=hi) hx hp (YZ mv (show j<p.aF.length by omega)) (Qcp (mv:=mv) (lo:=lo) (hi:=hi) (f:=f) (d:=d) hx hp j (by omega));rw[Cy];have e1:((j+1:Nat):Int)*2=j*2+2:=by omega
  have e2:((j+1:Nat):Int)*268436456=j*268436456+268436456:=by omega
  rw[e1,e2];exact h
theorem Q3i {p:Pth} {x:Ax3} {mv lo hi:Int} {i:Nat} (s:Trk×Pt):(H7 p x mv lo hi i s).1.start=s.1.start/\(H7 p x mv lo hi i s).1.dirs=s.1.dirs:=by
 unfold H7;by_cases c:max (Az p.aF i) lo<min (Az p.aF (i+1)) hi
 ·rw[if_pos c];unfold Ct;simp only[Q4y];by_cases c2:CU x s.2 (DQ s.2 (E2 p.start p.aF i) (sgA p.aF i).to mv)>0
  ·rw[if_pos c2];simp only[Q4y];exact⟨trivial,trivial⟩
  ·rw[if_neg c2];exact⟨rfl,rfl⟩
 ·rw[if_neg c];exact⟨rfl,rfl⟩
end Go.Bm
namespace Go.Bm
open Classical
def D5 (x:Ax3) (mv:Int) (Q:Int->Pt->Prop):Int->Int->Pt->List Pce->Prop
 |_,_,_,[]=>True
 |at_,s,d,c::l=>c.at_=at_/\c.s=s/\1<=c.units/\((c.move=mv/\c.was=c.dirs/\CU x d c.dirs=0/\∀k,0<=k->k<c.units->Q (s+mv*k) c.dirs)\/(c.move=0/\c.was=d/\c.units=CU x d c.dirs))/\D5 x mv Q (at_+c.units) (s+c.move*c.units) c.dirs l
def CK:Int->List Pce->Int
 |a,[]=>a
 |a,c::l=>CK (a+c.units) l
def CZ:Int->List Pce->Int
 |s,[]=>s
 |s,c::l=>CZ (s+c.move*c.units) l
def Id:Pt->List Pce->Pt
 |d,[]=>d
 |_,c::l=>Id c.dirs l
theorem Si (c:Pce):∀(a:Int) (l:List Pce),CK a (l++[c])=CK a l+c.units
 |_,[]=>rfl
 |_,k::l=>Si c _ l
theorem QM (c:Pce):∀(s:Int) (l:List Pce),CZ s (l++[c])=CZ s l+c.move*c.units
 |_,[]=>rfl
 |_,k::l=>QM c _ l
theorem QW (c:Pce):∀(d:Pt) (l:List Pce),Id d (l++[c])=c.dirs
 |_,[]=>rfl
 |_,k::l=>QW c _ l
theorem Tz {x:Ax3} {mv:Int} {Q:Int->Pt->Prop} {c:Pce}:∀{at_ s:Int} {d:Pt} {l:List Pce},
  D5 x mv Q at_ s d (l++[c])↔D5 x mv Q at_ s d l/\c.at_=CK at_ l/\c.s=CZ s l/\1<=c.units/\((c.move=mv/\c.was=c.dirs/\CU x (Id d l) c.dirs=0/\∀k,0<=k->k<c.units->Q (CZ s l+mv*k) c.dirs)\/(c.move=0/\c.was=Id d l/\c.units=CU x (Id d l) c.dirs))
 |at_,s,d,[]=>by
  simp only[List.nil_append,D5,CK,CZ,Id,and_true,true_and]
 |at_,s,d,k::l=>by
  simp only[List.cons_append,D5,CK,CZ,Id];rw[Tz];constructor
  ·rintro⟨h1,h2,h4,h5,h6,h7⟩;exact⟨⟨h1,h2,h4,h5,h6⟩,h7⟩
  ·rintro⟨⟨h1,h2,h4,h5,h6⟩,h7⟩;exact⟨h1,h2,h4,h5,h6,h7⟩
theorem Zzo {l:List Pce} (h:l≠[]) (v:Pce):l.set (l.length-1) v=l.dropLast++[v]:=by
 have e:=List.dropLast_concat_getLast h;have hl:l.length-1=l.dropLast.length:=by rw[List.length_dropLast]
 conv=>lhs;arg 1;rw[<-e]
 rw[hl,List.set_append_right _ _ (Nat.le_refl _),Nat.sub_self];rfl
theorem Zoa {l:List Pce} (h:l≠[]):l.dropLast++[Be l]=l:=by
 have e:=List.dropLast_concat_getLast h;have hp:0<l.length:=by
  cases l with
  |nil=>exact absurd rfl h
  |cons _ _=>simp
 have hlt:l.length-1<l.length:=by omega
 have hl:Be l=l.getLast h:=by
  unfold Be;rw[List.getD_eq_getElem?_getD,List.getElem?_eq_getElem hlt,Option.getD_some,List.getLast_eq_getElem]
 rw[hl];exact e
structure TC (x : Ax3) (mv : Int) (Q : Int -> Pt -> Prop) (t : Trk) (s : Int) (d : Pt) : Prop where
 ch:D5 x mv Q 0 t.start t.dirs t.aE
 len:CK 0 t.aE=t.length
 s:CZ t.start t.aE=s
 d:Id t.dirs t.aE=d
theorem Qej {x:Ax3} {mv:Int} {Q:Int->Pt->Prop} {t:Trk} {s:Int} {d:Pt} (hm:mv≠0) (h:TC x mv Q t s d) {c:Pce} (hs:c.s=s) (hu:1<=c.units)
  (hc:(c.move=mv/\c.was=c.dirs/\CU x d c.dirs=0/\∀k,0<=k->k<c.units->Q (s+mv*k) c.dirs)\/(c.move=0/\c.was=d/\c.units=CU x d c.dirs)):TC x mv Q (Fp t c) (s+c.move*c.units) c.dirs:=by
 obtain⟨h1,h2,h3,h4⟩:=h;unfold Fp;by_cases g:t.aE≠[]/\c.move≠0/\(Be t.aE).move=c.move/\(Be t.aE).dirs=c.dirs
 ·rw[if_pos g];obtain⟨g1,g2,g3,g4⟩:=g;have e:=Zoa g1;rw[Zzo g1];rw[<-e]at h1 h2 h3 h4;rw[Tz]at h1;rw[Si]at h2;rw[QM]at h3;rw[QW]at h4;generalize t.aE.dropLast=I at*;generalize Be t.aE=L at*;obtain⟨k0,k1,k2,k4,k5⟩:=h1
  replace hc:=hc.resolve_right fun h=>g2 h.1
  replace k5:=k5.resolve_right fun h=>g2 (g3▸h.1)
  obtain⟨c1,c2,-,c3⟩:=hc;obtain⟨q1,q2,q4,q3⟩:=k5;refine⟨?_,?_,?_,?_⟩
  ·show D5 x mv Q 0 t.start t.dirs (I++[_]);rw[Tz];refine⟨k0,k1,k2,by simp only;omega, .inl ⟨q1,q2,q4,?_⟩⟩;intro k hk0 hk1;simp only at hk1;by_cases hlt:k<L.units
   ·exact q3 k hk0 hlt
   ·have:=c3 (k-L.units) (by omega) (by omega);rw[<-h3,q1,<-g4]at this;have ea:CZ t.start I+mv*L.units+mv*(k-L.units)=CZ t.start I+mv*k:=by rw[Int.mul_sub];omega
    rw[ea]at this;exact this
  ·show CK 0 (I++[_])=t.length+c.units;rw[Si];simp only;omega
  ·show CZ t.start (I++[_])=s+c.move*c.units;rw[QM];simp only;rw[g3]at h3⊢;rw[Int.mul_add];omega
  ·show Id t.dirs (I++[_])=c.dirs;rw[QW];exact g4
 ·rw[if_neg g];refine⟨?_,?_,?_,?_⟩
  ·show D5 x mv Q 0 t.start t.dirs (t.aE++[_]);rw[Tz];refine⟨h1,h2.symm,by rw[h3];exact hs,hu,?_⟩;rw[h3,h4];exact hc
  ·show CK 0 (t.aE++[_])=t.length+c.units;rw[Si,h2]
  ·show CZ t.start (t.aE++[_])=s+c.move*c.units;rw[QM,h3]
  ·show Id t.dirs (t.aE++[_])=c.dirs;rw[QW]
theorem Zzp (x:Ax3) (d:Pt):CU x d d=0:=by unfold CU slk;simp
theorem Q01 {x:Ax3} {mv:Int} {Q:Int->Pt->Prop} {t:Trk} {s units:Int} {d a b:Pt} (hm:mv≠0) (hx:∀w d,0<=CU x w d) (h:TC x mv Q t s d) (hu:1<=units) (hQ:∀k,0<=k->k<units->Q (s+mv*k) (DQ d a b mv)):
  TC x mv Q (Ct x mv a b s units (t,d)).1 (s+mv*units) (DQ d a b mv):=by
 unfold Ct;simp only;generalize DQ d a b mv=nx at*;by_cases c:CU x d nx>0
 ·rw[if_pos c];have h1:=Qej hm h (c:=⟨0,CU x d nx,s,0,d,nx⟩) rfl (by simp only;omega) (.inr ⟨rfl,rfl,rfl⟩);simp only[Int.zero_mul,Int.add_zero]at h1;exact Qej hm h1 (c:=⟨0,units,s,mv,nx,nx⟩) rfl hu (.inl ⟨rfl,rfl,Zzp x nx,hQ⟩)
 ·rw[if_neg c];have:=hx d nx;exact Qej hm h (c:=⟨0,units,s,mv,nx,nx⟩) rfl hu (.inl ⟨rfl,rfl,by simp only;omega,hQ⟩)
def Jh (l:List Sgm) (mv lo hi:Int) (j:Nat):Int:=if mv<0 then min (max (Az l (l.length-j)) lo) hi else min (max (Az l j) lo) hi
def Qzq (p:Pth) (mv:Int) (Q:Int->Pt->Prop):Prop:=∀i,i<p.aF.length->∀(d:Pt) (s:Int),Az p.aF i<=s->s<=Az p.aF (i+1)->Az p.aF i<=s+mv->s+mv<=Az p.aF (i+1)->Q s (DQ d (E2 p.start p.aF i) (sgA p.aF i).to mv)
theorem Qu8 {p:Pth} {x:Ax3} {mv lo hi f:Int} {d:Pt} {Q:Int->Pt->Prop} (hv:mv=1\/mv= -1) (hx:Ax3OK x) (hp:SegOK p.aF) (hlo:0<=lo/\lo<=hi/\hi<=AA p.aF) (hf:(mv=1/\f=lo)\/(mv= -1/\f=hi)) (hQ:Qzq p mv Q):
  ∀j,j<=p.aF.length->TC x mv Q (Cy p x mv lo hi (⟨[],0,f,d⟩,d) j).1 (Jh p.aF mv lo hi j) (Cy p x mv lo hi (⟨[],0,f,d⟩,d) j).2
 |0,_=>by
  have hs:Jh p.aF mv lo hi 0=f:=by
   unfold Jh;have:=Qr3 p.aF;rcases hf with⟨rfl,rfl⟩|⟨rfl,rfl⟩
   ·rw[if_neg (by omega),Ru];omega
   ·rw[if_pos (by omega),Nat.sub_zero,this];omega
  rw[hs];exact⟨trivial,rfl,rfl,rfl⟩
 |j+1,hj=>by
  have ih:=Qu8 hv hx hp hlo hf hQ (f:=f) (d:=d) j (by omega);have hil:=YZ mv (show j<p.aF.length by omega);have hg:=hp.seg _ (Hc hil);have hsucc:=Qi hil;have hq:=hQ _ hil;rw[Cy];unfold H7;have hcase:(mv=1/\Ew p.aF.length mv j=j)\/(mv= -1/\Ew p.aF.length mv j=p.aF.length-1-j):=by
   unfold Ew;rcases hv with rfl|rfl
   ·exact .inl ⟨rfl,if_neg (by omega)⟩
   ·exact .inr ⟨rfl,if_pos (by omega)⟩
  have hway:Jh p.aF mv lo hi j=(if mv<0 then min (max (Az p.aF (Ew p.aF.length mv j+1)) lo) hi else min (max (Az p.aF (Ew p.aF.length mv j)) lo) hi)/\
    Jh p.aF mv lo hi (j+1)=(if mv<0 then min (max (Az p.aF (Ew p.aF.length mv j)) lo) hi else min (max (Az p.aF (Ew p.aF.length mv j+1)) lo) hi):=by
   unfold Jh;rcases hcase with⟨rfl,e⟩|⟨rfl,e⟩
   ·rw[e,if_neg (by omega),if_neg (by omega),if_neg (by omega),if_neg (by omega)];exact⟨rfl,rfl⟩
   ·rw[e,if_pos (by omega),if_pos (by omega),if_pos (by omega),if_pos (by omega),show p.aF.length-1-j+1=p.aF.length-j by omega,show p.aF.length-(j+1)=p.aF.length-1-j by omega];exact⟨rfl,rfl⟩
  rw[hway.1]at ih;rw[hway.2];generalize Ew p.aF.length mv j=i at*;generalize Cy p x mv lo hi (⟨[],0,f,d⟩,d) j=w at*;obtain⟨t,dn⟩:=w;simp only at ih⊢;by_cases c:max (Az p.aF i) lo<min (Az p.aF (i+1)) hi
  ·rw[if_pos c];rcases hcase with⟨rfl,-⟩|⟨rfl,-⟩
   ·rw[if_neg (by omega)]at ih⊢;rw[if_neg (by omega)];have e1:min (max (Az p.aF i) lo) hi=max (Az p.aF i) lo:=by omega
    rw[e1]at ih;have:=Q01 (a:=E2 p.start p.aF i) (b:=(sgA p.aF i).to) (units:=min (Az p.aF (i+1)) hi-max (Az p.aF i) lo) (by omega) (fun w d=>(Tw hx w d).1) ih (by omega) (fun k h0 h1=>hq dn _ (by omega) (by omega) (by omega) (by omega));have e2:max (Az p.aF i) lo+1*(min (Az p.aF (i+1)) hi-max (Az p.aF i) lo)=min (max (Az p.aF (i+1)) lo) hi:=by omega
    rw[e2]at this;exact this
   ·rw[if_pos (by omega)]at ih⊢;rw[if_pos (by omega)];have e1:min (max (Az p.aF (i+1)) lo) hi=min (Az p.aF (i+1)) hi:=by omega
    rw[e1]at ih;have:=Q01 (a:=E2 p.start p.aF i) (b:=(sgA p.aF i).to) (units:=min (Az p.aF (i+1)) hi-max (Az p.aF i) lo) (by omega) (fun w d=>(Tw hx w d).1) ih (by omega) (fun k h0 h1=>hq dn _ (by omega) (by omega) (by omega) (by omega));have e2:min (Az p.aF (i+1)) hi+ -1*(min (Az p.aF (i+1)) hi-max (Az p.aF i) lo)=min (max (Az p.aF i) lo) hi:=by omega
    rw[e2]at this;exact this
  ·rw[if_neg c];have e:(if mv<0 then min (max (Az p.aF (i+1)) lo) hi else min (max (Az p.aF i) lo) hi)=(if mv<0 then min (max (Az p.aF i) lo) hi else min (max (Az p.aF (i+1)) lo) hi):=by
    split<;>omega
   rw[<-e];exact ih
end Go.Bm
