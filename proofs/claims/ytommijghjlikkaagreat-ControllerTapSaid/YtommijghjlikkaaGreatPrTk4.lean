/- laid together -/
import Derived.Test.YtommijghjlikkaaGreatMx3
import Derived.Test.YtommijghjlikkaaGreatBmTy
set_option linter.unusedVariables false
set_option linter.unusedSimpArgs false
set_option maxRecDepth 100000
open Go.IntKind (wrap)
namespace Go.Bm
theorem F9 {x:Int} (h:i64 x):F2 [I x]=some [U (x.natAbs:Int)]:=by
  unfold i64 at h;unfold F2;rw[Znu];by_cases hx:x<0
  · rw[DT hx,Ae (x:=x+1) (by omega),Ae (x:=0-(x+1)) (by omega),GS (x:=0-(x+1)) (by omega),GS (x:=0-(x+1)+1) (by omega)]
    rw[show 0-(x+1)+1=(x.natAbs:Int) by omega]
  · rw[AX hx,GS (x:=x) (by omega)]
    rw[show x=(x.natAbs:Int) by omega];simp
def sgn (a b:Int):Int:=if a=0 then 0 else if b=0 then 0 else if(a<0↔b<0)then 1 else-1
theorem S0 (a b:Int):Fz [I a,I b]=some [I (sgn a b)]:=by
  unfold Fz;rw[Q5z];simp only[go_sem];unfold sgn
  repeat' split
  all_goals rfl
def Gp (a b:Nat):Int:=if a<b then-1 else if a=b then 0 else 1
def Kt (a b:Int):Int:=if a<b then-1 else if a=b then 0 else 1
noncomputable def w64:Nat:=Classical.choose (⟨18446744073709551616,rfl⟩:∃n:Nat,n=18446744073709551616)
theorem Bz:w64=18446744073709551616:=Classical.choose_spec (⟨18446744073709551616,rfl⟩:∃n:Nat,n=18446744073709551616)
theorem NA {x:Int} (h:i64 x):x.natAbs<w64:=by unfold i64 at h;have:=Bz;omega
theorem Qr3 {x y:Nat} (hx:x<w64) (hy:y<w64):It [U x,U y]=some [U ((x*y/w64:Nat):Int),U ((x*y%w64:Nat):Int)]:=by
  rw[Bz]at hx hy;have hu:∀z:Nat,z<18446744073709551616->inU (z:Int)=true:=by
    intro z hz;have e64:Fx=18446744073709551616:=rfl;simp only[inU,e64,Bool.and_eq_true,decide_eq_true_eq];omega
  show Ry (x:Int) (y:Int)=_;unfold Ry;rw[hu x hx,hu y hy,Bz];rfl
theorem Q5h {x y:Nat} (hx:x<w64) (hy:y<w64):Ep [U x,U y]=some [U ((x*y/w64:Nat):Int),U ((x*y%w64:Nat):Int)]:=by
  unfold Ep;rw[Zkm,Qr3 hx hy];simp only[go_sem]
theorem Q0a (a b c d:Nat) (hb:b<w64) (hd:d<w64):Is [U a,U b,U c,U d]=some [I (Gp (a*w64+b) (c*w64+d))]:=by
  unfold Is;rw[Zii];simp only[go_sem,and_true];unfold Gp;simp only[Bz]at*;by_cases h1:a<c
  · rw[if_pos (by omega),if_pos (by omega)]
  · rw[if_neg (by omega)]
    by_cases h2:a=c
    · rw[if_pos (by omega)]
      by_cases h3:b<d
      · rw[if_pos (by omega),if_pos (by omega)]
      · rw[if_neg (by omega)]
        by_cases h4:b=d
        · rw[if_pos (by omega),if_neg (by omega),if_pos (by omega)]
        · rw[if_neg (by omega),if_neg (by omega),if_neg (by omega)]
    · rw[if_neg (by omega),if_neg (by omega),if_neg (by omega),if_neg (by omega)]
theorem Sn (a b:Int):sgn a b*((a.natAbs*b.natAbs:Nat):Int)=a*b:=by
  unfold sgn;by_cases h1:a=0
  · subst h1;simp
  · by_cases h2:b=0
    · subst h2;simp
    · rw[if_neg h1,if_neg h2]
      have e:((a.natAbs*b.natAbs:Nat):Int)=(a.natAbs:Int)*(b.natAbs:Int):=by simp
      rw[e];by_cases h3:a<0<;>by_cases h4:b<0
      · rw[if_pos (by simp[h3,h4]),show(a.natAbs:Int)= -a by omega,show(b.natAbs:Int)= -b by omega,Int.neg_mul_neg,Int.one_mul]
      · rw[if_neg (by simp[h3,h4]),show(a.natAbs:Int)= -a by omega,show(b.natAbs:Int)=b by omega,Int.neg_mul,Int.one_mul,Int.neg_mul,Int.neg_neg]
      · rw[if_neg (by simp[h3,h4]),show(a.natAbs:Int)=a by omega,show(b.natAbs:Int)= -b by omega,Int.mul_neg,Int.neg_mul_neg,Int.one_mul]
      · rw[if_pos (by simp[h3,h4]),show(a.natAbs:Int)=a by omega,show(b.natAbs:Int)=b by omega,Int.one_mul]
theorem Rj (a b:Int):(sgn a b=0/\a*b=0)\/(sgn a b=1/\0<a*b)\/(sgn a b= -1/\a*b<0):=by
  have h:=Sn a b;by_cases h1:a=0
  · subst h1;left;simp[sgn]
  · by_cases h2:b=0
    · subst h2;left;simp[sgn]
    · have hp:0<a.natAbs*b.natAbs:=Nat.mul_pos (by omega) (by omega)
      generalize a.natAbs*b.natAbs=p at*;generalize a*b=x at*;unfold sgn at h⊢;rw[if_neg h1,if_neg h2]at h⊢;by_cases h3:(a<0↔b<0)
      · rw[if_pos h3]at h⊢;right;left;exact⟨rfl,by omega⟩
      · rw[if_neg h3]at h⊢;right;right;exact⟨rfl,by omega⟩
theorem Zh8 {a b c d:Int}:(if sgn a b≠sgn c d then(if sgn a b<sgn c d then-1 else 1)else sgn a b*Gp (a.natAbs*b.natAbs) (c.natAbs*d.natAbs))=Kt (a*b) (c*d):=by
  have h1:=Sn a b;have h2:=Sn c d;have k1:=Rj a b;have k2:=Rj c d;unfold Kt Gp;generalize a.natAbs*b.natAbs=p at*;generalize c.natAbs*d.natAbs=q at*;generalize a*b=x at*;generalize c*d=y at*;generalize sgn a b=u at*;generalize sgn c d=v at*;rcases k1 with⟨rfl,g1⟩|⟨rfl,g1⟩|⟨rfl,g1⟩<;>rcases k2 with⟨rfl,g2⟩|⟨rfl,g2⟩|⟨rfl,g2⟩
  · rw[if_neg (by simp),if_neg (show¬x<y by omega),if_pos (show x=y by omega)];exact Int.zero_mul _
  · rw[if_pos (by simp),if_pos (by omega),if_pos (by omega)]
  · rw[if_pos (by simp),if_neg (by omega),if_neg (by omega),if_neg (by omega)]
  · rw[if_pos (by simp),if_neg (by omega),if_neg (by omega),if_neg (by omega)]
  · rw[if_neg (by simp)]
    have e1:(p:Int)=x:=by omega
    have e2:(q:Int)=y:=by omega
    by_cases h:x<y
    · rw[if_pos (by omega),if_pos h];rfl
    · rw[if_neg (by omega),if_neg h]
      by_cases h':x=y
      · rw[if_pos (by omega),if_pos h'];rfl
      · rw[if_neg (by omega),if_neg h'];rfl
  · rw[if_pos (by simp),if_neg (by omega),if_neg (by omega),if_neg (by omega)]
  · rw[if_pos (by simp),if_pos (by omega),if_pos (by omega)]
  · rw[if_pos (by simp),if_pos (by omega),if_pos (by omega)]
  · rw[if_neg (by simp)]
    have e1:(p:Int)= -x:=by omega
    have e2:(q:Int)= -y:=by omega
    by_cases h:x<y
    · rw[if_neg (by omega),if_neg (by omega),if_pos h];rfl
    · rw[if_neg h]
      by_cases h':x=y
      · rw[if_neg (by omega),if_pos (by omega),if_pos h'];rfl
      · rw[if_pos (by omega),if_neg h'];rfl
theorem Qxe (p:Nat):p/w64*w64+p%w64=p:=by have:=Nat.div_add_mod p w64;rw[Nat.mul_comm]at this;exact this
theorem Qu:0<w64:=by rw[Bz];omega
theorem Zpg (p q:Nat): -1<=Gp p q/\Gp p q<=1:=by unfold Gp;(repeat' split)<;>omega
theorem Ztj (a b:Int): -1<=sgn a b/\sgn a b<=1:=by unfold sgn;(repeat' split)<;>omega
theorem Znz {u v:Int} (hu: -1<=u/\u<=1) (hv: -1<=v/\v<=1): -1<=u*v/\u*v<=1:=by
  have:u= -1\/u=0\/u=1:=by omega
  rcases this with rfl|rfl|rfl<;>omega
theorem KL {x y:Nat} (hx:x<w64) (hy:y<w64):∃hi lo:Nat,Ep [U x,U y]=some [U hi,U lo]/\hi*w64+lo=x*y/\lo<w64:=
  ⟨_,_,Q5h hx hy,Qxe _,Nat.mod_lt _ Qu⟩
theorem Zwr {a b c d:Int} (M1 M2 M3 M4:Fn) (h1 l1 h2 l2:Nat)
   (ka:M3 [I a]=some [U a.natAbs]) (kb:M3 [I b]=some [U b.natAbs]) (kc:M3 [I c]=some [U c.natAbs]) (kd:M3 [I d]=some [U d.natAbs])
   (ks:∀a b,M4 [I a,I b]=some [I (sgn a b)])
   (e1:M2 [U a.natAbs,U b.natAbs]=some [U h1,U l1]) (f1:M2 [U c.natAbs,U d.natAbs]=some [U h2,U l2])
   (hcmp:M1 [U h1,U l1,U h2,U l2]=some [I (Gp (a.natAbs*b.natAbs) (c.natAbs*d.natAbs))]):Z0 M1 M2 M3 M4 [I a,I b,I c,I d]=some [I (Kt (a*b) (c*d))]:=by
  have hm:=Znz (Ztj a b) (Zpg (a.natAbs*b.natAbs) (c.natAbs*d.natAbs));rw[Zos];simp only[go_sem,ks,ka,kb,kc,kd,e1,f1,hcmp];rw[<-Zh8];rw[Ae (by omega)];by_cases h1:sgn a b≠sgn c d
  · rw[if_pos h1,if_pos h1]
    by_cases h2:sgn a b<sgn c d
    · rw[if_pos h2,if_pos h2]
    · rw[if_neg h2,if_neg h2]
  · rw[if_neg h1,if_neg h1]
theorem Zv4 {a b c d:Int} (ha:i64 a) (hb:i64 b) (hc:i64 c) (hd:i64 d):Ni [I a,I b,I c,I d]=some [I (Kt (a*b) (c*d))]:=by
  obtain⟨h1,l1,e1,e2,e3⟩:=KL (NA ha) (NA hb);obtain⟨h2,l2,f1,f2,f3⟩:=KL (NA hc) (NA hd);have hcmp:=Q0a h1 l1 h2 l2 e3 f3;rw[e2,f2]at hcmp;unfold Ni;exact Zwr _ _ _ _ _ _ _ _ (F9 ha) (F9 hb) (F9 hc) (F9 hd) S0 e1 f1 hcmp
end Go.Bm
namespace Go.Bm
theorem Ze5 {m k:Nat} (h:2^(k+1)*m+2^k<w64):wrap .u64 (((BitVec.ofInt IntKind.u64.bits ((2^(k+1)*m:Nat):Int)|||BitVec.ofInt IntKind.u64.bits ((2^k:Nat):Int)).toNat:Nat):Int)=((2^(k+1)*m+2^k:Nat):Int):=by
 rw[Bz]at h;have e:(BitVec.ofInt IntKind.u64.bits ((2^(k+1)*m:Nat):Int)|||BitVec.ofInt IntKind.u64.bits ((2^k:Nat):Int)).toNat=2^(k+1)*m+2^k:=by
  rw[BitVec.toNat_or];have e1:∀v:Nat,v<18446744073709551616->(BitVec.ofInt IntKind.u64.bits (v:Int)).toNat=v:=by
   intro v hv;simp only[IntKind.bits,BitVec.toNat_ofInt];omega
  have hpos:0<2^k:=Nat.two_pow_pos _;generalize hA:2^(k+1)*m=A at*;rw[e1 _ (by omega),e1 _ (by omega),<-hA];exact(Nat.two_pow_add_eq_or_of_lt (Nat.pow_lt_pow_right (by omega) (by omega)) m).symm
 rw[e,GS (by omega)]
theorem Zhw (k:Nat):((2^(k+1):Nat):Int).fdiv (2^min (Int.toNat 1) IntKind.u64.bits)=((2^k:Nat):Int):=by
 have e:(2^min (Int.toNat 1) IntKind.u64.bits:Int)=2:=rfl;rw[e,Int.fdiv_eq_ediv_of_nonneg _ (by omega),Nat.pow_succ];omega
theorem Q7z:(1:Int).fdiv (2^min (Int.toNat 1) IntKind.u64.bits)=0:=rfl
theorem Q00 {M1 M2:Fn} (hp:∀x y:Nat,x<w64->y<w64->∃hi lo:Nat,M2 [U x,U y]=some [U hi,U lo]/\hi*w64+lo=x*y/\lo<w64)
  (hc:∀a b c d:Nat,b<w64->d<w64->M1 [U a,U b,U c,U d]=some [I (Gp (a*w64+b) (c*w64+d))]) {k m hi lo:Nat} {bit:Int} (hlo:lo<w64) (hb:((2^k:Nat):Int).fdiv (2^min (Int.toNat 1) IntKind.u64.bits)=bit) (h:2^(k+1)*m+2^k<w64):
  KU M1 M2 [U ((2^(k+1)*m:Nat):Int),U ((2^k:Nat):Int),U hi,U lo]=
   some (0,[U (((if(2^(k+1)*m+2^k)*(2^(k+1)*m+2^k)<=hi*w64+lo then 2^(k+1)*m+2^k else 2^(k+1)*m):Nat):Int),U bit,U hi,U lo]):=by
 obtain⟨h1,l1,e1,e2,e3⟩:=hp _ _ h h;have hcmp:=hc h1 l1 hi lo e3 hlo;rw[e2]at hcmp;have hpos:0<2^k:=Nat.two_pow_pos _;rw[Qu9,Ze5 h,hb];simp only[go_sem,e1,hcmp];rw[if_pos (by omega)];generalize(2^(k+1)*m+2^k)*(2^(k+1)*m+2^k)=q at*;unfold Gp;by_cases h1:q<hi*w64+lo
 ·rw[if_pos h1,if_pos (by omega),if_pos (by omega)]
 ·rw[if_neg h1];by_cases h2:q=hi*w64+lo
  ·rw[if_pos h2,if_pos (by omega),if_pos (by omega)]
  ·rw[if_neg h2,if_neg (by omega),if_neg (by omega)]
theorem Qh3 {M1 M2:Fn} (hp:∀x y:Nat,x<w64->y<w64->∃hi lo:Nat,M2 [U x,U y]=some [U hi,U lo]/\hi*w64+lo=x*y/\lo<w64)
  (hc:∀a b c d:Nat,b<w64->d<w64->M1 [U a,U b,U c,U d]=some [I (Gp (a*w64+b) (c*w64+d))]) {hi lo:Nat} (hlo:lo<w64):∀(k m:Nat),2^(k+1)*m+2^(k+1)<=w64->
  (2^(k+1)*m)*(2^(k+1)*m)<=hi*w64+lo->hi*w64+lo<(2^(k+1)*m+2^(k+1))*(2^(k+1)*m+2^(k+1))->
  ∃r:Nat,Am (KU M1 M2) [U ((2^(k+1)*m:Nat):Int),U ((2^k:Nat):Int),U hi,U lo]=some (1,[U r])/\r*r<=hi*w64+lo/\hi*w64+lo<(r+1)*(r+1)/\r<w64
 |0,m,hw,h1,h2=>by
  have hs:=Q00 hp hc (k:=0) (m:=m) (hi:=hi) (bit:=0) hlo Q7z (by simp at hw⊢;omega);rw[Bw hs];have hend:∀r:Nat,Am (KU M1 M2) [U (r:Int),U 0,U hi,U lo]=some (1,[U r]):=by
   intro r;refine Bb ?_ (by simp);rw[Qu9];simp only[go_sem];rw[if_neg (by omega)]
  simp only[Nat.zero_add,Nat.pow_one,Nat.pow_zero]at*;by_cases h:(2*m+1)*(2*m+1)<=hi*w64+lo
  ·rw[if_pos h,hend];exact⟨_,rfl,h,h2,by omega⟩
  ·rw[if_neg h,hend];exact⟨_,rfl,h1,by omega,by omega⟩
 |k+1,m,hw,h1,h2=>by
  have e1:2^(k+1+1)*m=2^(k+1)*(2*m):=by rw[Nat.pow_succ 2 (k+1),Nat.mul_assoc]
  have e2:2^(k+1+1)*m+2^(k+1)=2^(k+1)*(2*m+1):=by rw[e1,Nat.mul_add,Nat.mul_one]
  have e3:2^(k+1+1)=2^(k+1)+2^(k+1):=by rw[Nat.pow_succ 2 (k+1)];omega
  have hpos:0<2^(k+1):=Nat.two_pow_pos _;have hs:=Q00 hp hc (k:=k+1) (m:=m) (hi:=hi) (bit:=((2^k:Nat):Int)) hlo (Zhw k) (by omega);rw[Bw hs];by_cases h:(2^(k+1+1)*m+2^(k+1))*(2^(k+1+1)*m+2^(k+1))<=hi*w64+lo
  ·rw[if_pos h,e2];rw[e2]at h;refine Qh3 hp hc hlo k (2*m+1) ?_ h ?_
   ·rw[<-e2];omega
   ·rw[<-e2];rw[show 2^(k+1+1)*m+2^(k+1)+2^(k+1)=2^(k+1+1)*m+2^(k+1+1) by omega];exact h2
  ·rw[if_neg h];have h3:hi*w64+lo<(2^(k+1+1)*m+2^(k+1))*(2^(k+1+1)*m+2^(k+1)):=by omega
   have hw':2^(k+1+1)*m+2^(k+1)<=w64:=by omega
   rw[e1]at h1 h3 hw'⊢;exact Qh3 hp hc hlo k (2*m) hw' h1 h3
theorem Zgr {M1 M2:Fn} (hp:∀x y:Nat,x<w64->y<w64->∃hi lo:Nat,M2 [U x,U y]=some [U hi,U lo]/\hi*w64+lo=x*y/\lo<w64)
  (hc:∀a b c d:Nat,b<w64->d<w64->M1 [U a,U b,U c,U d]=some [I (Gp (a*w64+b) (c*w64+d))]) {hi lo:Nat} (hhi:hi<w64) (hlo:lo<w64):
  ∃r:Nat,Qhp M1 M2 (Am (KU M1 M2)) [U hi,U lo]=some [U r]/\r*r<=hi*w64+lo/\hi*w64+lo<(r+1)*(r+1)/\r<w64:=by
 have hb:hi*w64+lo<w64*w64:=by
  have:hi*w64+w64<=w64*w64:=by rw[<-Nat.succ_mul];exact Nat.mul_le_mul_right _ hhi
  omega
 obtain⟨r,h1,h2,h3,h4⟩:=Qh3 hp hc (hi:=hi) (lo:=lo) hlo 63 0 (by rw[Bz];omega) (by simp) (by rw[Nat.mul_zero,Nat.zero_add,show 2^(63+1)=w64 by rw[Bz]];exact hb);refine⟨r,?_,h2,h3,h4⟩;rw[Nat.mul_zero]at h1;generalize Am (KU M1 M2)=N at*;have h1':N [AC.int IntKind.u64 0,AC.int IntKind.u64 9223372036854775808,AC.int IntKind.u64 hi,AC.int IntKind.u64 lo]=some (1,[U r]):=h1;rw[Zai,h1'];simp only[go_sem]
theorem Qro {hi lo:Nat} (hhi:hi<w64) (hlo:lo<w64):∃r:Nat,JW [U hi,U lo]=some [U r]/\r*r<=hi*w64+lo/\hi*w64+lo<(r+1)*(r+1)/\r<w64:=
 Zgr (fun _ _ hx hy=>KL hx hy) Q0a hhi hlo
theorem YT {n:Nat} (h:n<9223372036854775808):E3 [U n,B false]=some [I n,B true]:=by
 unfold E3;rw[QQ];simp only[go_sem];rw[if_neg (by simp),if_pos (by simp),if_pos (by omega),Ae (by omega)]
theorem Zoo {x y b:Nat} (hx:x<w64) (hy:y<w64) (hb:b=0\/b=1):JD [U x,U y,U b]=some [U (((x:Int)-y-b)%Fx),U (if x<y+b then 1 else 0)]:=by
 rw[Bz]at hx hy;have e64:Fx=18446744073709551616:=rfl;have hu:∀z:Nat,z<18446744073709551616->inU (z:Int)=true:=by
  intro z hz;simp only[inU,e64,Bool.and_eq_true,decide_eq_true_eq];omega
 have hb':(decide ((b:Int)=0)||decide ((b:Int)=1))=true:=by
  rcases hb with rfl|rfl<;>simp
 unfold JD;simp only[Ho,Ks,Lw,HH,gA,jA,wA,bA];rw[hu x hx,hu y hy,hb'];by_cases h:x<y+b
 ·rw[if_pos h,DT (p:=(x:Int)<y+b) (by omega)];simp
 ·rw[if_neg h,AX (p:=(x:Int)<y+b) (by omega)];simp
theorem Q7i {x y:Nat} (hx:x<w64) (hyx:y<=x):JD [U x,U y,U 0]=some [U ((x-y:Nat):Int),U 0]:=by
 have:=Zoo (x:=x) (y:=y) (b:=0) hx (by omega) (.inl rfl);have e64:Fx=18446744073709551616:=rfl;rw[Bz]at hx;rw[if_neg (by omega),e64,show((x:Int)-y-((0:Nat):Int))%18446744073709551616=((x-y:Nat):Int) by omega]at this;exact this
theorem Zgo {M1 M2 M3 M4:Fn} {n r:Nat} {mode:Int} (hn:n<9223372036854775807) (hrn:r*r<=n) (hr:M4 [U 0,U n]=some [U r]) (hm:M3 [U r,U r]=some [U 0,U ((r*r:Nat):Int)]) (hs1:M2 [U n,U ((r*r:Nat):Int),U 0]=some [U ((n-r*r:Nat):Int),U 0])
  (hs2:M2 [U 0,U 0,U 0]=some [U 0,U 0]) (sg:∀k:Nat,k<9223372036854775808->M1 [U k,B false]=some [I k,B true]) (hmode:mode=1\/mode=2):
  W1 M1 M2 M3 M4 [U 0,U n,I mode]=some [I ((if(mode=1/\r*r<n)\/(mode=2/\r*r+r<n)then r+1 else r:Nat):Int),B true]:=by
 have hrr:r<=r*r:=by
  rcases Nat.eq_zero_or_pos r with h|h
  ·subst h;simp
  ·exact Nat.le_mul_of_pos_left r h
 have hw:wrap .u64 ((r:Int)+1)=((r+1:Nat):Int):=by rw[GS (by omega)];omega
 have s1:=sg r (by omega);have s2:=sg (r+1) (by omega);rw[Zw3];simp only[go_sem,hr,hm,hs1,hs2,hw,s1,s2];rcases hmode with rfl|rfl
 ·rw[if_pos rfl,if_neg (by omega)];by_cases h:r*r<n
  ·rw[if_pos (by omega),if_pos (by omega)]
  ·rw[if_neg (by omega),if_neg (by omega),if_neg (by omega)]
 ·rw[if_neg (by omega),if_pos rfl,if_neg (by omega)];by_cases h:r*r+r<n
  ·rw[if_pos (by omega),if_pos (by omega)]
  ·rw[if_neg (by omega),if_neg (by omega)]
theorem Zv2 {M1 M2:Fn} {n:Nat} {mode:Int} {k:Int} (hn:n<9223372036854775807) (hk:M2 [I mode]=some [B true]) (hr:M1 [U 0,U n,I mode]=some [I k,B true]):Qa0 M1 M2 [I n,I mode]=some [I k,B true]:=by
 have hw:wrap .u64 (n:Int)=(n:Int):=GS (by omega);rw[Q87];simp only[go_sem,hk,hw,hr];rw[if_neg (by omega),if_neg (by simp)]
theorem Qiq {mode:Int} (h:mode=0\/mode=1\/mode=2):FK [I mode]=some [B true]:=by
 unfold FK;rw[Qa8];rcases h with rfl|rfl|rfl<;>rfl
theorem Qn4 {n:Nat} {mode:Int} (hn:n<9223372036854775807) (hmode:mode=1\/mode=2):
  ∃r:Nat,Jf [I n,I mode]=some [I ((if(mode=1/\r*r<n)\/(mode=2/\r*r+r<n)then r+1 else r:Nat):Int),B true]/\r*r<=n/\n<(r+1)*(r+1):=by
 have hnw:n<w64:=by rw[Bz];omega
 obtain⟨r,h1,h2,h3,h4⟩:=Qro (hi:=0) (lo:=n) Qu hnw;rw[Nat.zero_mul,Nat.zero_add]at h2 h3;obtain⟨hi,lo,e1,e2,e3⟩:∃hi lo:Nat,It [U r,U r]=some [U hi,U lo]/\hi*w64+lo=r*r/\lo<w64:=⟨_,_,Qr3 h4 h4,Qxe _,Nat.mod_lt _ Qu⟩;have hhi:hi=0:=by
  rcases Nat.eq_zero_or_pos hi with h|h
  ·exact h
  ·have:=Nat.mul_le_mul_right w64 h;omega
 subst hhi;have hlo:lo=r*r:=by omega
 subst hlo;have z:=Q7i (x:=0) (y:=0) Qu (Nat.le_refl _);refine⟨r,?_,h2,h3⟩;exact Zv2 hn (Qiq (.inr hmode)) (Zgo hn h2 h1 e1 (Q7i hnw h2) z (fun k hk=>YT hk) hmode)
end Go.Bm
namespace Go.Bm
def Bh (a b:Int):Int:=(2*a+b)/(2*b)
theorem Lj {a b k:Int} (hb:0<b) (h1:k*(2*b)<=2*a+b) (h2:2*a+b<(k+1)*(2*b)):Bh a b=k:=by
 unfold Bh;have g1:k<=(2*a+b)/(2*b):=(Int.le_ediv_iff_mul_le (by omega)).2 h1;have g2:(2*a+b)/(2*b)<k+1:=(Int.ediv_lt_iff_lt_mul (by omega)).2 h2;omega
theorem Xe {p c:Nat} (hp:p<w64) (hc:0<c):GE [U 0,U p,U c]=some [U ((p/c:Nat):Int),U ((p%c:Nat):Int)]:=by
 rw[Bz]at hp;have h1:(p:Int).tdiv (c:Int)=((p/c:Nat):Int):=by rw[Int.tdiv_eq_ediv_of_nonneg (by omega)];simp
 have h2:(p:Int).tmod (c:Int)=((p%c:Nat):Int):=by rw[Int.tmod_eq_emod_of_nonneg (by omega)];simp
 have h3:p/c<=p:=Nat.div_le_self _ _;unfold GE;generalize H_=M;generalize SE=N1;generalize Qij=N2;rw[Qx5];rw[Bf (by simp;omega),AX (by omega),Bu (by simp),AX (by omega),AX (by omega),h1,h2];generalize p/c=q at*;rw[GS (by omega)]
theorem Qyb (more:Int) (some_ neg:Bool):Hw [I 2,I more,B some_,B neg]=some [B (if more>0 then true else if more=0 then !neg else false)]:=by
 unfold Hw;rw[Qbq];simp only[go_sem];rw[if_neg (by omega),if_neg (by omega)]
 repeat' split
 all_goals rfl
theorem Qz2 {n:Nat} (h:n<=9223372036854775808):E3 [U n,B true]=some [I (-(n:Int)),B true]:=by
 unfold E3;rw[QQ];simp only[go_sem];rw[if_pos (by omega),Ne,NW];have:((0-(n:Int))%18446744073709551616+9223372036854775808)%18446744073709551616-9223372036854775808= -(n:Int):=by omega
 rw[this]
def GJ (q r c:Nat) (neg:Bool):Nat:=if r>c-r then q+1 else if r<c-r then q else if neg then q else q+1
theorem Zts {M1 M2 M3 M4 M5 M6 M7:Fn} {a b s:Int} {A C p q r c:Nat} (hc0:0<c) (hc1:c<9223372036854775808) (hr:r<c) (hq:q<9223372036854775807)
  (k1:M7 [I 2]=some [B true]) (k2:M6 [I a]=some [U A]) (k3:M6 [I b]=some [U C]) (k4:M6 [I c]=some [U c]) (k5:M5 [U A,U C]=some [U 0,U p]) (k6:M4 [U 0,U p,U c]=some [U q,U r]) (k7:M3 [I a,I b]=some [I s])
  (k8:∀(more:Int) (some_ neg:Bool),M2 [I 2,I more,B some_,B neg]=some [B (if more>0 then true else if more=0 then !neg else false)])
  (k9:∀k:Nat,k<9223372036854775808->M1 [U k,B false]=some [I k,B true]) (k10:∀k:Nat,k<9223372036854775808->M1 [U k,B true]=some [I (-(k:Int)),B true]):
  Qt M1 M2 M3 M4 M5 M6 M7 [I a,I b,I c,I 2]=some [I (if s<0 then-(GJ q r c true:Int)else(GJ q r c false:Int)),B true]:=by
 have w1:wrap .u64 ((c:Int)-(r:Int))=((c-r:Nat):Int):=by rw[GS (by omega)];omega
 have w2:wrap .u64 ((q:Int)+1)=((q+1:Nat):Int):=by rw[GS (by omega)];omega
 have n1:=k9 q (by omega);have n2:=k9 (q+1) (by omega);rw[Ua];simp only[go_sem,k1,k2,k3,k4,k5,k6,k7,k8,w1,w2,n1,n2];rw[if_neg (by omega),if_neg (by simp),if_neg (by omega)];by_cases hs:s<0
 ·rw[if_pos hs];rw[if_pos (show¬(s<0↔(c:Int)<0) by omega)];have hne:(s !=0)=true:=by simp;omega
  rw[hne];unfold GJ;by_cases g1:r>c-r
  ·rw[if_pos g1];rw[if_pos (show(r:Int)>((c-r:Nat):Int) by omega),if_pos (by decide),if_neg (show¬((q+1:Nat):Int)=0 by omega),k10 (q+1) (by omega)];simp only[go_sem]
  ·rw[if_neg g1];rw[if_neg (show¬(r:Int)>((c-r:Nat):Int) by omega)];by_cases g2:r<c-r
   ·rw[if_pos g2];rw[if_pos (show(r:Int)<((c-r:Nat):Int) by omega),if_neg (by decide),k10 q (by omega)];simp only[go_sem]
   ·rw[if_neg g2,if_pos rfl];rw[if_neg (show¬(r:Int)<((c-r:Nat):Int) by omega),if_neg (by decide),k10 q (by omega)];simp only[go_sem]
 ·rw[if_neg hs];rw[if_neg (show¬¬(s<0↔(c:Int)<0) by omega)];unfold GJ;by_cases g1:r>c-r
  ·rw[if_pos g1,if_pos (show(r:Int)>((c-r:Nat):Int) by omega),if_pos (by decide),if_neg (show¬((q+1:Nat):Int)=0 by omega)]
  ·rw[if_neg g1,if_neg (show¬(r:Int)>((c-r:Nat):Int) by omega)];by_cases g2:r<c-r
   ·rw[if_pos g2,if_pos (show(r:Int)<((c-r:Nat):Int) by omega),if_neg (by decide)]
   ·rw[if_neg g2,if_neg (show¬(r:Int)<((c-r:Nat):Int) by omega),if_pos (by decide),if_neg (show¬((q+1:Nat):Int)=0 by omega),if_neg (by decide)]
theorem Zhr (q r c:Nat):GJ q r c false=if r<c-r then q else q+1:=by
 unfold GJ;by_cases h1:r>c-r
 ·rw[if_pos h1,if_neg (by omega)]
 ·rw[if_neg h1];by_cases h2:r<c-r
  ·rw[if_pos h2,if_pos h2]
  ·rw[if_neg h2,if_neg h2,if_neg (by simp)]
theorem Zw0 (q r c:Nat):GJ q r c true=if r>c-r then q+1 else q:=by
 unfold GJ;by_cases h1:r>c-r
 ·rw[if_pos h1,if_pos h1]
 ·rw[if_neg h1,if_neg h1];by_cases h2:r<c-r
  ·rw[if_pos h2]
  ·rw[if_neg h2,if_pos rfl]
theorem Qpv {p q r c:Nat} (hc:0<c) (h:p=c*q+r) (hr:r<c):Bh p c=GJ q r c false:=by
 have e:(p:Int)=(c:Int)*q+r:=by rw[h];simp
 have e3:(q:Int)*(2*c)=2*((c:Int)*q):=by grind
 have e4:((q+1:Nat):Int)*(2*c)=2*((c:Int)*q)+2*c:=by grind
 have e5:((q:Int)+1)*(2*c)=2*((c:Int)*q)+2*c:=by grind
 have e6:(((q+1:Nat):Int)+1)*(2*c)=2*((c:Int)*q)+4*c:=by grind
 rw[Zhr];by_cases g:r<c-r
 ·rw[if_pos g];exact Lj (by omega) (by rw[e3];omega) (by rw[e5];omega)
 ·rw[if_neg g];exact Lj (by omega) (by rw[e4];omega) (by rw[e6];omega)
theorem Zl9 {p q r c:Nat} (hc:0<c) (h:p=c*q+r) (hr:r<c):Bh (-(p:Int)) c= -(GJ q r c true:Int):=by
 have e:(p:Int)=(c:Int)*q+r:=by rw[h];simp
 have e3: -(q:Int)*(2*c)= -(2*((c:Int)*q)):=by grind
 have e4: -((q+1:Nat):Int)*(2*c)= -(2*((c:Int)*q))-2*c:=by grind
 have e5:(-(q:Int)+1)*(2*c)= -(2*((c:Int)*q))+2*c:=by grind
 have e6:(-((q+1:Nat):Int)+1)*(2*c)= -(2*((c:Int)*q)):=by grind
 rw[Zw0];by_cases g:r>c-r
 ·rw[if_pos g];exact Lj (by omega) (by rw[e4];omega) (by rw[e6];omega)
 ·rw[if_neg g];exact Lj (by omega) (by rw[e3];omega) (by rw[e5];omega)
theorem Rl {a b c:Int} (ha:i64 a) (hb:i64 b) (hc:0<c/\c<9223372036854775808) (hp:a.natAbs*b.natAbs<9223372036854775807):Bi [I a,I b,I c,I 2]=some [I (Bh (a*b) c),B true]:=by
 obtain⟨hi,lo,e1,e2,e3⟩:=KL (NA ha) (NA hb);have hm:=Sn a b;have hs:=Rj a b;have hz:a*b=0->a.natAbs*b.natAbs=0:=fun h=>by rw[<-Int.natAbs_mul,h];rfl
 generalize a.natAbs*b.natAbs=p at*;have hhi:hi=0:=by
  rcases Nat.eq_zero_or_pos hi with h|h
  ·exact h
  ·have:=Nat.mul_le_mul_right w64 h;have:=Bz;omega
 subst hhi;have hlo:lo=p:=by omega
 subst hlo;obtain⟨n,rfl⟩:=Int.eq_ofNat_of_zero_le (show 0<=c by omega);have hn:0<n:=by omega
 have h1:=Nat.div_add_mod lo n;have h2:=Nat.mod_lt lo hn;have h3:lo/n<=lo:=Nat.div_le_self _ _;have hd:=Xe e3 hn;have hcs:=F9 (x:=(n:Int)) (by unfold i64;omega);rw[Int.natAbs_natCast]at hcs;generalize lo/n=q at*;generalize lo%n=r at*;have hmain:=Zts (M1:=E3) (M2:=Hw) (M3:=Fz) (M4:=GE) (M5:=Ep) (M6:=F2) (M7:=FK) hn (by omega) h2 (by omega)
  (Qiq (.inr (.inr rfl))) (F9 ha) (F9 hb) hcs e1 hd (S0 a b) Qyb (fun k hk=>YT hk) (fun k hk=>Qz2 (by omega))
 have hv:(if sgn a b<0 then-(GJ q r n true:Int)else(GJ q r n false:Int))=Bh (a*b) n:=by
  rcases hs with⟨g1,g2⟩|⟨g1,g2⟩|⟨g1,g2⟩
  ·rw[if_neg (by omega),g2];rw[g1]at hm;have:lo=0:=hz g2;rw[<-Qpv hn h1.symm h2,this];rfl
  ·rw[if_neg (by omega),<-Qpv hn h1.symm h2,<-hm,g1,Int.one_mul]
  ·rw[if_pos (by omega),<-Zl9 hn h1.symm h2,<-hm,g1,Int.neg_mul,Int.one_mul]
 rw[hv]at hmain;exact hmain
end Go.Bm
namespace Go.Bm
def val:List Nat->Nat
 |[]=>0
 |d::l=>d+65536*val l
def Dig (l:List Nat):Prop:=∀d∈l,d<65536
theorem Dig.sub {l m:List Nat} (h:Dig l) (hs:∀d∈m,d∈l):Dig m:=fun d hd=>h d (hs d hd)
end Go.Bm
namespace Go.Bm
theorem Dig.set {l:List Nat} (h:Dig l) (j d:Nat) (hd:d<65536):Dig (l.set j d):=by
 intro x hx;rcases List.mem_or_eq_of_mem_set hx with h'|rfl
 ·exact h x h'
 ·exact hd
end Go.Bm
namespace Go.Bm
def bd (A:Nat) (p:Pt):Prop:=p.x.natAbs<=A/\p.y.natAbs<=A/\p.z.natAbs<=A
def HO (a b:Pt):Int:=a.x*b.x+a.y*b.y+a.z*b.z
def Gb (a b:Pt):Pt:=⟨a.x-b.x,a.y-b.y,a.z-b.z⟩
theorem Hs {x y:Int} {A B:Nat} (hx:x.natAbs<=A) (hy:y.natAbs<=B):(x*y).natAbs<=A*B:=by rw[Int.natAbs_mul];exact Nat.mul_le_mul hx hy
theorem A7 {A B:Nat} {a:Pt} (h:bd A a) (hab:A<=B):bd B a:=⟨Nat.le_trans h.1 hab,Nat.le_trans h.2.1 hab,Nat.le_trans h.2.2 hab⟩
theorem Zb4 (a b:Pt):HO (Gb a b) (Gb a b)=HO (Gb b a) (Gb b a):=by
 simp only[HO,Gb];have h:∀x y:Int,(x-y)*(x-y)=(y-x)*(y-x):=by intro x y;rw[<-Int.neg_mul_neg,Int.neg_sub]
 rw[h a.x,h a.y,h a.z]
theorem Zip {x y:Int}:Kt x y<=0↔x<=y:=by
 unfold Kt;by_cases h:x<y
 ·rw[if_pos h];omega
 ·rw[if_neg h];by_cases h':x=y
  ·rw[if_pos h'];omega
  ·rw[if_neg h'];omega
end Go.Bm
namespace Go.Bm
theorem Q2s (v:Nat) (h:v<w64):wrap .u64 (((BitVec.ofInt IntKind.u64.bits (v:Int)&&&BitVec.ofInt IntKind.u64.bits 4294967295).toNat:Nat):Int)=((v%4294967296:Nat):Int):=by
 rw[Bz]at h;have e:(BitVec.ofInt IntKind.u64.bits (v:Int)&&&BitVec.ofInt IntKind.u64.bits 4294967295).toNat=v%4294967296:=by
  rw[BitVec.toNat_and];have e1:(BitVec.ofInt IntKind.u64.bits (v:Int)).toNat=v:=by
   simp only[IntKind.bits,BitVec.toNat_ofInt];omega
  have e2:(BitVec.ofInt IntKind.u64.bits 4294967295).toNat=2^32-1:=by
   simp only[IntKind.bits,BitVec.toNat_ofInt];rfl
  rw[e1,e2,Nat.and_two_pow_sub_one_eq_mod]
 rw[e,GS (by omega)]
theorem Qxu (v:Nat):(v:Int).fdiv (2^min (Int.toNat 32) IntKind.u64.bits)=((v/4294967296:Nat):Int):=by
 have e:(2^min (Int.toNat 32) IntKind.u64.bits:Int)=4294967296:=rfl;rw[e,Int.fdiv_eq_ediv_of_nonneg _ (by omega)];omega
def EL (a n:Nat) (down:Bool) (j:Nat):Prop:=
 (j=0\/if down=true then(2*j-1)*(2*j-1)*n<4*(a*a)else(2*j-1)*(2*j-1)*n<=4*(a*a))/\
 (if down=true then 4*(a*a)<=(2*j+1)*(2*j+1)*n else 4*(a*a)<(2*j+1)*(2*j+1)*n)
theorem Ps {p q n:Nat} (h:p<=q):p*p*n<=q*q*n:=Nat.mul_le_mul_right _ (Nat.mul_le_mul h h)
theorem Q86 {a n:Nat} {down:Bool} {i j:Nat} (hi:EL a n down i) (hj:EL a n down j):i=j:=by
 have key:∀{i j:Nat},EL a n down i->EL a n down j-> ¬i<j:=by
  rintro i j ⟨-,h2⟩ ⟨h3,-⟩ hlt;have h4:=Ps (n:=n) (show 2*i+1<=2*j-1 by omega);rcases h3 with h3|h3
  ·omega
  ·by_cases hd:down=true
   ·rw[if_pos hd]at h2 h3;omega
   ·rw[if_neg hd]at h2 h3;omega
 have h1:=key hi hj;have h2:=key hj hi;omega
open Classical in
noncomputable def rnd (a n:Nat) (down:Bool):Nat:=if h:∃j,EL a n down j then Classical.choose h else 0
theorem Q2 {a n:Nat} {down:Bool} {j:Nat} (h:EL a n down j):rnd a n down=j:=by
 have hx:∃j,EL a n down j:=⟨j,h⟩;unfold rnd;rw[dif_pos hx];exact Q86 (Classical.choose_spec hx) h
noncomputable def B5 (x r n:Int):Int:=if x<0 then-(rnd (x.natAbs*r.natAbs) n.natAbs true:Int)else(rnd (x.natAbs*r.natAbs) n.natAbs false:Int)
theorem U7 {X R n j:Nat} {down:Bool} (hn:0<n) (hx:X*X<=n) (h:EL (X*R) n down j):j<=R:=by
 by_cases c:j<=R
 ·exact c
 exfalso;have e:4*(X*R*(X*R))=(2*R)*(2*R)*(X*X):=by grind
 have h2:(2*R)*(2*R)*(X*X)<=(2*R)*(2*R)*n:=Nat.mul_le_mul_left _ hx;have h3:(2*R)*(2*R)*n<(2*R+1)*(2*R+1)*n:=Nat.mul_lt_mul_of_pos_right (Nat.mul_self_lt_mul_self (by omega)) hn;have h4:(2*R+1)*(2*R+1)*n<=(2*j-1)*(2*j-1)*n:=Ps (by omega);obtain⟨h5,-⟩:=h;rcases h5 with h5|h5
 ·omega
 ·split at h5<;>omega
theorem Zdt {X R n j:Nat} {down:Bool} (hn:0<n) (hx:R*R<=n) (h:EL (X*R) n down j):j<=X:=by
 rw[Nat.mul_comm]at h;exact U7 hn hx h
theorem Zkc {a n q:Nat} (down:Bool) (h1:q*q*n<=a*a) (h2:a*a<(q+1)*(q+1)*n):
  EL a n down (if(if down=true then(2*q+1)*(2*q+1)*n<2*a*(2*a)else(2*q+1)*(2*q+1)*n<=2*a*(2*a))then q+1 else q):=by
 have e4:2*a*(2*a)=4*(a*a):=by grind
 rw[e4];have e1:4*(q*q*n)<=4*(a*a):=Nat.mul_le_mul_left _ h1;have e2:4*(a*a)<4*((q+1)*(q+1)*n):=by omega
 have e5:(2*q-1)*(2*q-1)*n<=(2*q)*(2*q)*n:=Ps (by omega);have e6:(2*q)*(2*q)*n=4*(q*q*n):=by grind
 have e7:(2*(q+1))*(2*(q+1))*n=4*((q+1)*(q+1)*n):=by grind
 have e8:(2*(q+1))*(2*(q+1))*n<=(2*(q+1)+1)*(2*(q+1)+1)*n:=Ps (by omega);have e9:n=0\/q=0\/(2*q-1)*(2*q-1)*n<(2*q)*(2*q)*n:=by
  by_cases hn:n=0
  ·exact .inl hn
  ·by_cases hq:q=0
   ·exact .inr (.inl hq)
   ·right;right;refine Nat.mul_lt_mul_of_pos_right ?_ (by omega);exact Nat.mul_self_lt_mul_self (by omega)
 have hn:n≠0:=by rintro rfl;simp at h2
 unfold EL;cases down
 ·simp only[Bool.false_eq_true,if_false];by_cases c:(2*q+1)*(2*q+1)*n<=4*(a*a)
  ·rw[if_pos c];refine⟨.inr ?_,by omega⟩;rw[show 2*(q+1)-1=2*q+1 by omega];exact c
  ·rw[if_neg c];exact⟨by omega,by omega⟩
 ·simp only[if_true];by_cases c:(2*q+1)*(2*q+1)*n<4*(a*a)
  ·rw[if_pos c];refine⟨.inr ?_,by omega⟩;rw[show 2*(q+1)-1=2*q+1 by omega];exact c
  ·rw[if_neg c];exact⟨by omega,by omega⟩
theorem Zdi {A N:Nat} (hN:0<N):∃q:Nat,q*q*N<=A*A/\A*A<(q+1)*(q+1)*N:=by
 have key:∀n:Nat,∃r:Nat,r*r<=n/\n<(r+1)*(r+1):=by
  intro n;induction n with
  |zero=>exact⟨0,by simp,by simp⟩
  |succ n ih=>
   obtain⟨r,h1,h2⟩:=ih;by_cases h:n+1<(r+1)*(r+1)
   ·exact⟨r,by omega,h⟩
   ·refine⟨r+1,by omega,?_⟩;have:(r+1+1)*(r+1+1)=(r+1)*(r+1)+2*(r+1)+1:=by grind
    omega
 obtain⟨q,h1,h2⟩:=key (A*A/N);exact⟨q,(Nat.le_div_iff_mul_le hN).1 h1,(Nat.div_lt_iff_lt_mul hN).1 h2⟩
theorem Th {x r n:Int} (hx:x.natAbs<=33554432*4) (hr:0<=r/\r<=33554432*4) (hn:0<n/\n<=4611686018427387904) (hxn:x*x<=n):
  True/\(B5 x r n).natAbs<=268435456/\EL (x.natAbs*r.natAbs) n.natAbs (decide (x<0)) (B5 x r n).natAbs:=by
 obtain⟨R,rfl⟩:=Int.eq_ofNat_of_zero_le hr.1;obtain⟨N,rfl⟩:=Int.eq_ofNat_of_zero_le (show 0<=n by omega);have hxx:x.natAbs*x.natAbs<=N:=by
  have:((x.natAbs*x.natAbs:Nat):Int)=x*x:=by rw[Int.natAbs_mul_self]
  omega
 simp only[B5,Int.natAbs_natCast];obtain⟨q,l2,l3⟩:=Zdi (A:=x.natAbs*R) (N:=N) (by omega);obtain⟨j,hi⟩:∃j,EL (x.natAbs*R) N (decide (x<0)) j:=⟨_,Zkc (decide (x<0)) l2 l3⟩;have hle:=U7 (X:=x.natAbs) (R:=R) (by omega) hxx hi;have hrr:=Q2 hi;by_cases hx0:x<0
 ·have e:=decide_eq_true hx0;rw[e]at hi hrr⊢;rw[if_pos hx0,hrr,Int.natAbs_neg,Int.natAbs_natCast];exact⟨trivial,by omega,hi⟩
 ·have e:=decide_eq_false hx0;rw[e]at hi hrr⊢;rw[if_neg hx0,hrr,Int.natAbs_natCast];exact⟨trivial,by omega,hi⟩
def HV (n k:Int):Prop:=0<=k/\n<=k*k/\(k=0\/(k-1)*(k-1)<n)
theorem Ztd {n i j:Int} (hi:HV n i) (hj:HV n j):i=j:=by
 have key:∀{i j:Int},HV n i->HV n j-> ¬i<j:=by
  rintro i j ⟨h1,h2,-⟩ ⟨h4,h5,h6⟩ hlt;rcases h6 with h6|h6
  ·omega
  ·have:=Int.mul_self_le_mul_self h1 (show i<=j-1 by omega);omega
 have h1:=key hi hj;have h2:=key hj hi;omega
open Classical in
noncomputable def upR (n:Int):Int:=if h:∃j,HV n j then Classical.choose h else 0
theorem Qkk {n k:Int} (h:HV n k):upR n=k:=by
 have hx:∃j,HV n j:=⟨k,h⟩;unfold upR;rw[dif_pos hx];exact Ztd (Classical.choose_spec hx) h
theorem Q2e {n r:Nat} (h1:r*r<=n) (h2:n<(r+1)*(r+1)):HV n (if r*r<n then r+1 else r:Nat):=by
 unfold HV;by_cases c:r*r<n
 ·rw[if_pos c];have e1:((r+1:Nat):Int)*((r+1:Nat):Int)=(((r+1)*(r+1):Nat):Int):=(Int.natCast_mul _ _).symm;have e2:(((r+1:Nat):Int)-1)*(((r+1:Nat):Int)-1)=((r*r:Nat):Int):=by
   rw[show((r+1:Nat):Int)-1=(r:Int) by omega];exact(Int.natCast_mul _ _).symm
  rw[e1,e2];generalize(r+1)*(r+1)=A at*;generalize r*r=B at*;exact⟨by omega,by omega, .inr (by omega)⟩
 ·rw[if_neg c];have e1:(r:Int)*(r:Int)=((r*r:Nat):Int):=(Int.natCast_mul _ _).symm;rw[e1];refine⟨by omega,by omega,?_⟩;rcases Nat.eq_zero_or_pos r with h|h
  ·left;omega
  ·right;have e2:((r:Int)-1)*((r:Int)-1)=(((r-1)*(r-1):Nat):Int):=by
    rw[show(r:Int)-1=((r-1:Nat):Int) by omega];exact(Int.natCast_mul _ _).symm
   have:=Nat.mul_self_lt_mul_self (show r-1<r by omega);rw[e2];omega
theorem Zdj (k:Nat):((2^(k+1):Nat):Int).fdiv (2^min (Int.toNat 1) IntKind.i64.bits)=((2^k:Nat):Int):=by
 have e:(2^min (Int.toNat 1) IntKind.i64.bits:Int)=2:=rfl;rw[e,Int.fdiv_eq_ediv_of_nonneg _ (by omega),Nat.pow_succ];omega
theorem Zs4:(1:Int).fdiv (2^min (Int.toNat 1) IntKind.i64.bits)=0:=rfl
theorem Zfu:∀n:Nat,∃r:Nat,r*r<=n/\n<(r+1)*(r+1):=by
 intro n;induction n with
 |zero=>exact⟨0,by simp,by simp⟩
 |succ n ih=>
  obtain⟨r,h1,h2⟩:=ih;by_cases h:n+1<(r+1)*(r+1)
  ·exact⟨r,by omega,h⟩
  ·refine⟨r+1,by omega,?_⟩;have:(r+1+1)*(r+1+1)=(r+1)*(r+1)+2*(r+1)+1:=by grind
   omega
theorem Sq {n:Nat} (hn:n<4611686018427387904):∃r:Nat,True/\r*r<=n/\n<(r+1)*(r+1)/\r<2147483648:=by
 obtain⟨r,h1,h2⟩:=Zfu n;refine⟨r,trivial,h1,h2,?_⟩;by_cases c:r<2147483648
 ·exact c
 ·have:=Nat.mul_le_mul (show 2147483648<=r by omega) (show 2147483648<=r by omega);omega
def sqD (a b:Pt):Int:=HO (Gb a b) (Gb a b)
theorem PJ (a b:Pt):0<=sqD a b:=by
 unfold sqD HO;have h:∀u:Int,0<=u*u:=fun u=>by rw[<-Int.natAbs_mul_self];omega
 have:=h (Gb a b).x;have:=h (Gb a b).y;have:=h (Gb a b).z;omega
theorem DG {x:Int} {A:Nat} (h:x.natAbs<=A):0<=x*x/\x*x<=((A*A:Nat):Int):=by
 have:=Nat.mul_le_mul h h;rw[<-Int.natAbs_mul_self];omega
theorem O5 {A:Nat} {a b:Pt} (ha:bd A a) (hb:bd A b) (hA:A<=67108864):sqD a b<=54043195528445952:=by
 have h:∀x y:Int,x.natAbs<=A->y.natAbs<=A->(x-y)*(x-y)<=18014398509481984:=by
  intro x y hx hy;exact(DG (x:=x-y) (A:=134217728) (by omega)).2
 have h1:=h _ _ ha.1 hb.1;have h2:=h _ _ ha.2.1 hb.2.1;have h3:=h _ _ ha.2.2 hb.2.2;unfold sqD HO Gb;simp only;omega
noncomputable def AB (a b:Pt):Int:=upR (sqD a b)
theorem WE {a b:Pt} (ha:bd 67108864 a) (hb:bd 67108864 b):True/\HV (sqD a b) (AB a b):=by
 have h0:=PJ a b;have h1:=O5 ha hb (Nat.le_refl _);obtain⟨d,hd⟩:=Int.eq_ofNat_of_zero_le h0;unfold AB;rw[hd]at h1⊢;obtain⟨r,-,h2,h3,h4⟩:=Sq (n:=d) (by omega);have hu:=Q2e h2 h3;rw[Qkk hu];exact⟨trivial,hu⟩
theorem HW {a b:Pt} (ha:bd 67108864 a) (hb:bd 67108864 b):0<=AB a b/\AB a b<=268435456:=by
 obtain⟨-,h1,h2,h3⟩:=WE ha hb;have h4:=O5 ha hb (Nat.le_refl _);refine⟨h1,?_⟩;rcases h3 with h3|h3
 ·omega
 ·by_cases c:AB a b<=268435456
  ·exact c
  ·have:=Int.mul_self_le_mul_self (a:=268435456) (b:=AB a b-1) (by omega) (by omega);omega
def Iy (n k:Int):Prop:=0<=k/\n<=k*(k+1)/\(k=0\/(k-1)*k<n)
end Go.Bm
namespace Go.Bm
theorem HK {x:Int} {A:Nat} (h:x.natAbs<=A) (hA:A<=9223372036854775807):wrap .i64 x=x:=Ae (by omega)
theorem H5 {x y:Int} {A B:Nat} (hx:x.natAbs<=A) (hy:y.natAbs<=B):(x-y).natAbs<=A+B:=by omega
theorem QW {x y:Int} {A B:Nat} (hx:x.natAbs<=A) (hy:y.natAbs<=B):(x+y).natAbs<=A+B:=by omega
theorem Zn {c u x:Int} {A:Nat} (hc:c.natAbs<=A) (ha:(c+x).natAbs<=A) (h:(0<=x->0<=u/\u<=x)/\(x<=0->x<=u/\u<=0)):(c+u).natAbs<=A:=by
 rcases Int.le_total 0 x with g|g
 ·have:=h.1 g;omega
 ·have:=h.2 g;omega
theorem T3 (a b:Pt):sqD a b=(a.x-b.x)*(a.x-b.x)+(a.y-b.y)*(a.y-b.y)+(a.z-b.z)*(a.z-b.z):=rfl
theorem FM (u:Int):0<=u*u:=by rw[<-Int.natAbs_mul_self];omega
theorem Ux {a b:Pt}:sqD a b=0↔a=b:=by
 rw[T3];obtain⟨a1,a2,a3⟩:=a;obtain⟨b1,b2,b3⟩:=b;have h1:=FM (a1-b1);have h2:=FM (a2-b2);have h3:=FM (a3-b3);constructor
 ·intro h;simp only at h;have e1:(a1-b1)*(a1-b1)=0:=by omega
  have e2:(a2-b2)*(a2-b2)=0:=by omega
  have e3:(a3-b3)*(a3-b3)=0:=by omega
  have z:∀u:Int,u*u=0->u=0:=fun u hu=>by
   rcases Int.mul_eq_zero.1 hu with h|h<;>exact h
  have:=z _ e1;have:=z _ e2;have:=z _ e3;rw[Pt.mk.injEq];omega
 ·intro h;injection h with h4 h5 h6;subst h4 h5 h6;simp
theorem Qqh (a b:Pt):(a.x-b.x)*(a.x-b.x)<=sqD a b/\(a.y-b.y)*(a.y-b.y)<=sqD a b/\(a.z-b.z)*(a.z-b.z)<=sqD a b:=by
 rw[T3];have h1:=FM (a.x-b.x);have h2:=FM (a.y-b.y);have h3:=FM (a.z-b.z);omega
noncomputable def BU (c a:Pt) (d:Int):Pt:=⟨c.x+B5 (a.x-c.x) d (sqD a c),c.y+B5 (a.y-c.y) d (sqD a c),c.z+B5 (a.z-c.z) d (sqD a c)⟩
abbrev B24:Nat:=16777216
theorem Qf0 {x r n:Int} (hx:x.natAbs<=33554432*4) (hr:0<=r/\r<=33554432*4) (hn:0<n/\n<=4611686018427387904) (hxn:x*x<=n) (hrn:r*r<=n):
  (0<=x->0<=B5 x r n/\B5 x r n<=x)/\(x<=0->x<=B5 x r n/\B5 x r n<=0):=by
 obtain⟨-,h2,h3⟩:=Th hx hr hn hxn;have h4 := Zdt (by omega) (by
  have:((r.natAbs*r.natAbs:Nat):Int)=r*r:=Int.natAbs_mul_self;omega) h3
 unfold B5 at*;constructor
 ·intro h;rw[if_neg (by omega)]at h4⊢;omega
 ·intro h;by_cases c:x<0
  ·rw[if_pos c]at h4⊢;omega
  ·rw[if_neg c]at h4⊢;omega
theorem Zxd {a b:Pt} (ha:bd B24 a) (hb:bd B24 b):sqD a b<=3377699720527872:=by
 have h:∀x y:Int,x.natAbs<=B24->y.natAbs<=B24->(x-y)*(x-y)<=1125899906842624:=by
  intro x y hx hy;unfold B24 at*;exact(DG (x:=x-y) (A:=33554432) (by omega)).2
 have h1:=h _ _ ha.1 hb.1;have h2:=h _ _ ha.2.1 hb.2.1;have h3:=h _ _ ha.2.2 hb.2.2;rw[T3];omega
theorem Kj {c a:Pt} {d:Int} (hc:bd B24 c) (ha:bd B24 a) (hne:a≠c) (hd:0<=d/\d<AB a c):bd B24 (BU c a d):=by
 have h0:sqD a c≠0:=fun h=>hne (Ux.1 h);have h1:=PJ a c;have h2:=O5 (A7 ha (by decide)) (A7 hc (by decide)) (show 67108864<=67108864 by omega);obtain⟨-,g1,g2,g3⟩:=WE (A7 ha (show B24<=67108864 by decide)) (A7 hc (show B24<=67108864 by decide));have hl:=HW (A7 ha (show B24<=67108864 by decide)) (A7 hc (show B24<=67108864 by decide));have hdd:d*d<=sqD a c:=by
  have:=Int.mul_self_le_mul_self hd.1 (show d<=AB a c-1 by omega);omega
 have hd2:d<=33554432*4:=by
  by_cases c2:d<=33554432*4
  ·exact c2
  ·exfalso;have h3:=Int.mul_self_le_mul_self (a:=33554432*4+1) (b:=d) (by omega) (by omega);have h4:=Zxd ha hc;omega
 obtain⟨q1,q2,q3⟩:=Qqh a c;have hn:0<sqD a c/\sqD a c<=4611686018427387904:=⟨Int.lt_iff_le_and_ne.2 ⟨h1,fun h=>h0 h.symm⟩,Int.le_trans h2 (by decide)⟩;have hd3:0<=d/\d<=33554432*4:=⟨hd.1,hd2⟩;have k1:=Qf0 (x:=a.x-c.x) (r:=d) (n:=sqD a c) (Nat.le_trans (H5 ha.1 hc.1) (by decide)) hd3 hn q1 hdd;have k2:=Qf0 (x:=a.y-c.y) (r:=d) (n:=sqD a c) (Nat.le_trans (H5 ha.2.1 hc.2.1) (by decide)) hd3 hn q2 hdd;have k3:=Qf0 (x:=a.z-c.z) (r:=d) (n:=sqD a c) (Nat.le_trans (H5 ha.2.2 hc.2.2) (by decide)) hd3 hn q3 hdd;have e:∀x y:Int,x+(y-x)=y:=fun x y=>by omega
 exact⟨Zn hc.1 (by rw[e];exact ha.1) k1,Zn hc.2.1 (by rw[e];exact ha.2.1) k2,Zn hc.2.2 (by rw[e];exact ha.2.2) k3⟩
def F1 (p c q:Pt):Pt:=⟨p.x-c.x+(q.x-c.x),p.y-c.y+(q.y-c.y),p.z-c.z+(q.z-c.z)⟩
def HC (p c q:Pt):Int:=HO (F1 p c q) (F1 p c q)
theorem Zj3 {p c q:Pt} (hp:bd B24 p) (hc:bd B24 c) (hq:bd B24 q):bd 67108864 (F1 p c q):=by
 unfold bd B24 F1 at*;simp only;omega
def GW (a c b:Pt) (tol d:Int):Prop:=d<=mn (AB a c) (AB c b)-2/\HC (BU c a d) c (BU c b d)<=16*tol*tol
theorem Se (x y:Int):mn x y<=x/\mn x y<=y:=by unfold mn;split<;>omega
theorem Zet (a b:Pt):sqD a b=sqD b a:=by
 unfold sqD;exact Zb4 a b
theorem RE (a b:Pt):AB a b=AB b a:=by unfold AB;rw[Zet]
open Classical in
noncomputable def FN (P:Int->Prop):Nat->Int->Int
 |0,d=>if P (d+1)then d+1 else d
 |k+1,d=>FN P k (if P (d+((2^(k+1):Nat):Int))then d+((2^(k+1):Nat):Int)else d)
open Classical in
theorem Qt9 {P:Int->Prop}:∀(k:Nat) (d:Int),d<=FN P k d/\FN P k d<d+((2^(k+1):Nat):Int)/\(FN P k d=d\/P (FN P k d))
 |0,d=>by
  have e:((2^(0+1):Nat):Int)=2:=rfl;rw[e];unfold FN;split
  ·rename_i h;exact⟨by omega,by omega, .inr h⟩
  ·exact⟨by omega,by omega, .inl rfl⟩
 |k+1,d=>by
  unfold FN;have hp:0<2^(k+1):=Nat.two_pow_pos _;have e3:2^(k+1+1)=2^(k+1)+2^(k+1):=by rw[Nat.pow_succ 2 (k+1)];omega
  rw[e3];have hif:(if P (d+((2^(k+1):Nat):Int))then d+((2^(k+1):Nat):Int)else d)=d\/((if P (d+((2^(k+1):Nat):Int))then d+((2^(k+1):Nat):Int)else d)=d+((2^(k+1):Nat):Int)/\P (if P (d+((2^(k+1):Nat):Int))then d+((2^(k+1):Nat):Int)else d)):=by
   split
   ·rename_i h;exact .inr ⟨rfl,h⟩
   ·exact .inl rfl
  generalize(if P (d+((2^(k+1):Nat):Int))then d+((2^(k+1):Nat):Int)else d)=d' at*;obtain⟨h1,h2,h3⟩:=Qt9 (P:=P) k d';generalize FN P k d'=x at*;generalize 2^(k+1)=m at*;rcases hif with hif|⟨hif,hP⟩
  ·subst hif;exact⟨by omega,by omega,h3⟩
  ·refine⟨by omega,by omega, .inr ?_⟩;rcases h3 with h3|h3
   ·rw[h3];exact hP
   ·exact h3
open Classical in
noncomputable def Dh (a c b:Pt) (tol:Int):Int:=if a=c\/b=c then 0 else if FN (GW a c b tol) 24 0<16 then 0 else FN (GW a c b tol) 24 0
theorem UW {a c b:Pt} {tol:Int} (h:Dh a c b tol≠0):a≠c/\b≠c/\16<=Dh a c b tol/\Dh a c b tol<33554432/\GW a c b tol (Dh a c b tol):=by
 unfold Dh at*;split at h
 ·exact absurd rfl h
 ·rename_i h1;rw[if_neg h1];split at h
  ·exact absurd rfl h
  ·rename_i h2;rw[if_neg h2];obtain⟨h3,h4,h5⟩:=Qt9 (P:=GW a c b tol) 24 0;have e:((2^(24+1):Nat):Int)=33554432:=rfl;rw[e]at h4;refine⟨fun h=>h1 (.inl h),fun h=>h1 (.inr h),by omega,by omega,?_⟩;rcases h5 with h5|h5
   ·omega
   ·exact h5
theorem Ei {a b:Pt}:a=b↔a.x=b.x/\a.y=b.y/\a.z=b.z:=by
 obtain⟨a1,a2,a3⟩:=a;obtain⟨b1,b2,b3⟩:=b;simp
def KE (bend:Int):Nat->Int->Int
 |0,n=>n
 |k+1,n=>if n<64/\bend>16*n*n*n*n*4*4 then KE bend k (n*2)else n
def J9 (n:Int):Prop:=n=2\/n=4\/n=8\/n=16\/n=32\/n=64
def Le (p c q:Pt):Int:=KE (HC p c q) 5 2
theorem Qtd (b:Int):∀(k:Nat) (n:Int),J9 n->J9 (KE b k n)
 |0,n,h=>by unfold KE;exact h
 |k+1,n,h=>by
  unfold KE;split
  ·rename_i c;refine Qtd b k (n*2) ?_;rcases h with rfl|rfl|rfl|rfl|rfl|rfl<;>simp[J9]at c⊢
  ·exact h
theorem Qe5 {p c q:Pt} (hp:bd B24 p) (hc:bd B24 c) (hq:bd B24 q):True/\J9 (Le p c q):=⟨trivial,Qtd _ 5 2 (.inl rfl)⟩
def LZ (n i p c q:Int):Int:=c+Bh ((n-i)*(n-i)*(p-c)+i*i*(q-c)) (n*n)
def Ml (n i:Int) (p c q:Pt):Pt:=⟨LZ n i p.x c.x q.x,LZ n i p.y c.y q.y,LZ n i p.z c.z q.z⟩
theorem RG {a b n:Int} (hn:0<n) (h:a<=b):Bh a n<=Bh b n:=by
 unfold Bh;exact Int.ediv_le_ediv (by omega) (by omega)
theorem QG {k n:Int} (hn:0<n):Bh (k*n) n=k:=Lj hn (by rw[show k*(2*n)=2*(k*n) by grind];omega) (by rw[show(k+1)*(2*n)=2*(k*n)+2*n by grind];omega)
theorem NG {n i p c q:Int} {A:Nat} (hn:0<n) (hi:0<=i/\i<=n) (hp:p.natAbs<=A) (hc:c.natAbs<=A) (hq:q.natAbs<=A):(LZ n i p c q).natAbs<=A:=by
 have hnn:0<n*n:=Int.mul_pos hn hn;have h1:0<=(n-i)*(n-i):=FM _;have h2:0<=i*i:=FM _;have h3:(n-i)*(n-i)+i*i<=n*n:=by
  have:n*n-((n-i)*(n-i)+i*i)=2*(i*(n-i)):=by grind
  have:0<=i*(n-i):=Int.mul_nonneg hi.1 (by omega);omega
 have key:∀s:Int,(s=1\/s= -1)->s*((n-i)*(n-i)*(p-c)+i*i*(q-c))<=(A-s*c)*(n*n):=by
  intro s hs;have hp':s*p<=A:=by rcases hs with rfl|rfl<;>omega
  have hc':s*c<=A:=by rcases hs with rfl|rfl<;>omega
  have hq':s*q<=A:=by rcases hs with rfl|rfl<;>omega
  have g1:(n-i)*(n-i)*(s*p-s*c)<=(n-i)*(n-i)*(A-s*c):=Int.mul_le_mul_of_nonneg_left (by omega) h1;have g2:i*i*(s*q-s*c)<=i*i*(A-s*c):=Int.mul_le_mul_of_nonneg_left (by omega) h2;have g3:((n-i)*(n-i)+i*i)*(A-s*c)<=n*n*(A-s*c):=Int.mul_le_mul_of_nonneg_right h3 (by omega);have e1:s*((n-i)*(n-i)*(p-c)+i*i*(q-c))=(n-i)*(n-i)*(s*p-s*c)+i*i*(s*q-s*c):=by grind
  have e2:((n-i)*(n-i)+i*i)*(A-s*c)=(n-i)*(n-i)*(A-s*c)+i*i*(A-s*c):=Int.add_mul ..;have e3:(A-s*c)*(n*n)=n*n*(A-s*c):=Int.mul_comm ..;omega
 unfold LZ;have k1:=RG hnn (key 1 (.inl rfl)|>fun h=>(by rw[Int.one_mul,Int.one_mul]at h;exact h));rw[QG hnn]at k1;have k2:=key (-1) (.inr rfl);have k3:(-(A:Int)-c)*(n*n)<=(n-i)*(n-i)*(p-c)+i*i*(q-c):=by
  have e:(-(A:Int)-c)*(n*n)= -((A- -1*c)*(n*n)):=by grind
  omega
 have k4:=RG hnn k3;rw[QG hnn]at k4;omega
noncomputable def FO (a c b:Pt) (tol:Int):List Pt:=
 if Dh a c b tol=0 then [c]
 else(List.range ((Le (BU c a (Dh a c b tol)) c (BU c b (Dh a c b tol))).toNat+1)).map fun(i:Nat)=>Ml (Le (BU c a (Dh a c b tol)) c (BU c b (Dh a c b tol))) i (BU c a (Dh a c b tol)) c (BU c b (Dh a c b tol))
theorem Qrc {a c b:Pt} {tol:Int} (ha:bd B24 a) (hc:bd B24 c) (hb:bd B24 b):(∀p∈FO a c b tol,bd B24 p)/\1<=(FO a c b tol).length/\(FO a c b tol).length<=65:=by
 unfold FO;by_cases h:Dh a c b tol=0
 ·rw[if_pos h];simp;exact hc
 ·rw[if_neg h];obtain⟨h1,h2,h3,h4,h5,-⟩:=UW h;obtain⟨m1,m2⟩:=Se (AB a c) (AB c b);generalize Dh a c b tol=d at*;have k1:bd B24 (BU c a d):=Kj hc ha h1 (by omega);have k2:bd B24 (BU c b d):=Kj hc hb h2 (by rw[RE b c];omega);have k3:=(Qe5 k1 hc k2).2;generalize Le (BU c a d) c (BU c b d)=n at*;have hn:2<=n/\n<=64:=by rcases k3 with rfl|rfl|rfl|rfl|rfl|rfl<;>omega
  refine⟨?_,by simp,by simp;omega⟩;intro p hp;simp only[List.mem_map,List.mem_range]at hp;obtain⟨i,hi,rfl⟩:=hp;exact⟨NG (by omega) (by omega) k1.1 hc.1 k2.1,NG (by omega) (by omega) k1.2.1 hc.2.1 k2.2.1,NG (by omega) (by omega) k1.2.2 hc.2.2 k2.2.2⟩
end Go.Bm
namespace Go.Bm
theorem Zp {v n:Int} (_:i64 v) (hn:0<n/\n<=4611686018427387904):Iq [I v,I n]=some [I (v%n)]:=by
 unfold Iq;rw[Zgy,AX (by omega),AX (by omega)];have h1: -n<v.tmod n/\v.tmod n<n:=by
  have a1:=Int.tmod_lt_of_pos v hn.1;have a2:=Int.lt_tmod_of_pos v hn.1;omega
 rw[Ae (by omega)];have h2:(v.tmod n+n).tmod n=v%n:=by
  rw[Int.tmod_eq_emod_of_nonneg (by omega),Int.add_emod_right];have h3:=Int.tmod_add_mul_tdiv v n;have h4:v%n=(v.tmod n+n*v.tdiv n)%n:=by rw[h3]
  rw[h4,Int.add_mul_emod_self_left]
 rw[h2]
end Go.Bm
namespace Go.Bm
def Src (l:Rw):Prop:=l.length<=9223372036854775807/\∀c∈l,i64 (Af (nth .dead c 0))
theorem Zzi {l:Rw} {i:Nat} (h:i<l.length):nth [] l i∈l:=by rw[G3 [] l i h];exact List.getElem_mem h
theorem Zwd {M:Fn} (hM:∀v n:Int,i64 v->0<n/\n<=4611686018427387904->M [I v,I n]=some [I (v%n)]) {l:Rw} (hl:Src l) {k:Nat} {n:Int} (hn:0<n/\n<=4611686018427387904):
  ∃(v:Int) (k':Nat),Qkp M [I n, .view Aa l,I k]=some [I v, .view Aa l,I k']/\0<=v/\v<n/\k<=k'/\(k<l.length->k'=k+1)/\(l.length<=k->k'=k):=by
 have hl1:=hl.1;rw[Zzp];by_cases h:k<l.length
 ·have h1:=hM _ n (hl.2 _ (Zzi h)) hn;simp only[go_sem,Int.toNat_natCast,h1];rw[if_neg (by omega),if_pos (by omega),Ae (by omega)];exact⟨_,k+1,rfl,Int.emod_nonneg _ (by omega),Int.emod_lt_of_pos _ hn.1,by omega,fun _=>rfl,by omega⟩
 ·simp only[go_sem];rw[if_pos (by omega)];exact⟨0,k,rfl,by omega,hn.1,by omega,by omega,fun _=>rfl⟩
theorem Zhu {l:Rw} (hl:Src l) (k:Nat) {n:Int} (hn:0<n/\n<=4611686018427387904):
  ∃(v:Int) (k':Nat),Df [I n, .view Aa l,I k]=some [I v, .view Aa l,I k']/\0<=v/\v<n/\k<=k'/\(k<l.length->k'=k+1)/\(l.length<=k->k'=k):=
 Zwd (fun _ _ hv hn=>Zp hv hn) hl hn
theorem Zkw (l:Rw) (k:Nat):J0 [.view Aa l,I k]=some [B (decide (k<l.length)), .view Aa l,I k]:=by
 unfold J0;rw[Zfs];congr 3;simp
theorem RL (l:Rw):Dw [.view Aa l]=some [.view Aa l,I 0]:=by
 unfold Dw;rw[Zl3]
def Dn (r:Int) (k:Int):Int:=if k%4=0 then r else if k%4=2 then-r else 0
def Do (r:Int) (k:Int):Int:=if k%4=1 then r else if k%4=3 then-r else 0
end Go.Bm
namespace Go.Bm
def plU (pl:Int) (p:Pt):Int:=if pl=17 then p.x else if pl=18 then p.z else p.y
def plW (pl:Int) (p:Pt):Int:=if pl=17 then p.y else if pl=18 then p.x else p.z
def plH (pl:Int) (p:Pt):Int:=if pl=17 then p.z else if pl=18 then p.y else p.x
def spP (pl u w h:Int):Pt:=if pl=17 then⟨u,w,h⟩else if pl=18 then⟨w,h,u⟩else⟨h,u,w⟩
def EO (pl:Int):Prop:=pl=17\/pl=18\/pl=19
theorem Nw {pl u w h:Int} (hp:EO pl):plU pl (spP pl u w h)=u/\plW pl (spP pl u w h)=w/\plH pl (spP pl u w h)=h:=by
 rcases hp with rfl|rfl|rfl<;>exact⟨rfl,rfl,rfl⟩
structure ArcMade (size : Int) (it : Itm) : Prop where
 kind:it.kind=3
 aG:EO it.aG
 dir:it.dir=1\/it.dir= -1
 ends:∃r k t g h:Int,8<=r/\r<8+size/\0<=k/\k<=3/\0<=t/\t<=3/\0<=g/\g<=4/\(h=0\/h=7\/h= -12)/\(t=0->g=0)/\it.full=decide (t=0)/\
  it.ce=spP it.aG (plU it.aG it.fr-Dn r k) (plW it.aG it.fr-Do r k) (plH it.aG it.fr)/\
  it.to=spP it.aG (plU it.aG it.fr-Dn r k+Dn (r+g) (k+t)) (plW it.aG it.fr-Do r k+Do (r+g) (k+t)) (plH it.aG it.fr+h)
theorem Q0k {r k:Int} (hr:0<=r):(-r<=Dn r k/\Dn r k<=r)/\(-r<=Do r k/\Do r k<=r):=by
 unfold Dn Do;constructor<;>constructor<;>split<;>(try split)<;>omega
theorem Ir {pl:Int} {p:Pt} {b:Nat} (h:bd b p):(plU pl p).natAbs<=b/\(plW pl p).natAbs<=b/\(plH pl p).natAbs<=b:=by
 obtain⟨h1,h2,h3⟩:=h;unfold plU plW plH;refine⟨?_,?_,?_⟩<;>split<;>(try split)<;>assumption
def LI (l:Rw) (M:Fn):Prop:=∀(k:Nat) {n:Int},0<n/\n<=4611686018427387904->
  ∃(v:Int) (k':Nat),M [I n, .view Aa l,I k]=some [I v, .view Aa l,I k']/\0<=v/\v<n/\k<=k'/\(k<l.length->k'=k+1)/\(l.length<=k->k'=k)
abbrev QI (it:Itm):Prop:=it.block=0/\it.side=0/\it.radius=0/\it.speed=0/\it.on=false
theorem Mf {l:Rw} (hl:Src l):LI l Df:=fun k _ hn=>Zhu hl k hn
end Go.Bm
namespace Go.Bm
structure Made (it : Itm) : Prop where
 kind:1<=it.kind/\it.kind<=6
 line:it.kind≠3->(it.to.x-it.fr.x).natAbs<=16/\(it.to.y-it.fr.y).natAbs<=16/\(it.to.z-it.fr.z).natAbs<=16
 arc:it.kind=3->ArcMade 8 it
 feed:it.kind≠1->1<=it.feed/\it.feed<=60000000
 blend:0<=it.blend/\it.blend<=9
 sync:it.kind=5\/it.kind=6->it.blend=0/\it.feed<=60
 free:it.kind<=4->it.perRev=false
 full:it.kind≠3->it.full=false
end Go.Bm
namespace Go.Bm
def Qqk:Pt->List Itm->Prop
 |_,[]=>True
 |p,it::l=>it.fr=p/\Qqk it.to l
structure Motions (B : Nat) (p : Pt) (l : List Itm) : Prop where
 DW:Qqk p l
 made:∀it∈l,Made it/\QI it/\it.kind<=3/\bd B it.fr/\bd B it.to
theorem Qcv {size:Int} {b:Nat} {it:Itm} (h:ArcMade size it) (hs:size<=1000) (hf:bd b it.fr):bd (b+2*(12+size.toNat)) it.to/\bd (b+8+size.toNat) it.ce:=by
 obtain⟨r,k,t,g,x,h1,h2,h3,h4,h5,h6,h7,h8,h9,h10,h11,h12,h13⟩:=h.ends;obtain⟨q1,q2,q3⟩:=Ir (pl:=it.aG) hf;obtain⟨⟨r1,r2⟩,r3,r4⟩:=Q0k (r:=r) (k:=k) (by omega);obtain⟨⟨r5,r6⟩,r7,r8⟩:=Q0k (r:=r+g) (k:=k+t) (by omega);rw[h12,h13];unfold bd spP;constructor<;>split<;>(try split)<;>refine⟨?_,?_,?_⟩<;>simp only<;>omega
theorem Q8z {b:Nat} {it:Itm} (h:Made it) (hf:bd b it.fr):bd (b+40) it.to:=by
 by_cases h3:it.kind=3
 ·exact A7 (Qcv (h.arc h3) (by omega) hf).1 (by omega)
 ·obtain⟨h1,h2,h4⟩:=h.line h3;obtain⟨g1,g2,g3⟩:=hf;exact⟨by omega,by omega,by omega⟩
end Go.Bm
namespace Go.Bm
instance (pl:Int):Decidable (EO pl):=by unfold EO;infer_instance
instance (A:Nat) (p:Pt):Decidable (bd A p):=by unfold bd;infer_instance
def dU (it:Itm) (p:Pt):Int:=plU it.aG p-plU it.aG it.ce
def dW (it:Itm) (p:Pt):Int:=plW it.aG p-plW it.aG it.ce
def sq2 (u w:Int):Int:=u*u+w*w
def crs (u w x y:Int):Int:=u*y-w*x
def dt2 (u w x y:Int):Int:=u*x+w*y
def qA (it:Itm):Int:=sq2 (dU it it.fr) (dW it it.fr)
def qB (it:Itm):Int:=sq2 (dU it it.to) (dW it it.to)
def cAB (it:Itm):Int:=crs (dU it it.fr) (dW it it.fr) (dU it it.to) (dW it it.to)
def dAB (it:Itm):Int:=dt2 (dU it it.fr) (dW it it.fr) (dU it it.to) (dW it it.to)
def H0 (X Y:Int):Prop:=X+Y-16<=0\/(X+Y-16)*(X+Y-16)<=4*X*Y
def Qav (it:Itm):Prop:=64<=qA it/\64<=qB it/\H0 (qA it) (qB it)/\(it.full=true->dU it it.fr=dU it it.to/\dW it it.fr=dW it it.to)/\(it.full=false->cAB it≠0\/dAB it<0)
def Znn (it:Itm):Prop:=EO it.aG/\(it.dir=1\/it.dir= -1)/\bd 1048576 it.ce/\Qav it
def Dj (it:Itm):Prop:=(1<=it.kind/\it.kind<=6)/\bd 1048576 it.fr/\bd 1048576 it.to/\(it.kind=3->Znn it)
theorem Qlq {it:Itm} {p:Pt} {b c:Nat} (hc:bd c it.ce) (h:bd b p):(dU it p).natAbs<=b+c/\(dW it p).natAbs<=b+c:=by
 obtain⟨h1,h2,h3⟩:=Ir (pl:=it.aG) h;obtain⟨g1,g2,g3⟩:=Ir (pl:=it.aG) hc;unfold dU dW;omega
theorem Qv8 (x:Int) {b:Nat} (h:x.natAbs<=b):0<=x*x/\x*x<=((b*b:Nat):Int):=by
 have h1:=Hs h h;have h2:0<=x*x:=by rw[<-Int.natAbs_mul_self];omega
 omega
theorem Q5x {u w:Int} {b:Nat} (hu:u.natAbs<=b) (hw:w.natAbs<=b):0<=sq2 u w/\sq2 u w<=((2*(b*b):Nat):Int):=by
 have h1:=Qv8 u hu;have h2:=Qv8 w hw;unfold sq2;omega
theorem Qrl {u w x y:Int} {b c:Nat} (hu:u.natAbs<=b) (hw:w.natAbs<=b) (hx:x.natAbs<=c) (hy:y.natAbs<=c):(dt2 u w x y).natAbs<=2*(b*c)/\(crs u w x y).natAbs<=2*(b*c):=by
 have h1:=Hs hu hx;have h2:=Hs hw hy;have h3:=Hs hu hy;have h4:=Hs hw hx;unfold dt2 crs;omega
theorem Zid {X Y:Int} (hX:64<=X) (hY:64<=Y):H0 X Y↔(max X Y-min X Y-16<=0\/(max X Y-min X Y-16)*(max X Y-min X Y-16)<=64*min X Y):=by
 unfold H0;have key:∀M m:Int,64<=M->64<=m->m<=M->((M+m-16<=0\/(M+m-16)*(M+m-16)<=4*M*m)↔(M-m-16<=0\/(M-m-16)*(M-m-16)<=64*m)):=by
  intro M m h1 h2 h3;have e:(M-m-16)*(M-m-16)-64*m=(M+m-16)*(M+m-16)-4*M*m:=by grind
  by_cases hk:M-m-16<=0
  ·refine iff_of_true (.inr ?_) (.inl hk);have h5:(16-(M-m))*(M-m+16)>=0:=Int.mul_nonneg (by omega) (by omega);have h6:(M+m-16)*(M+m-16)-4*M*m=512-(16-(M-m))*(M-m+16)-32*(M+m):=by grind
   omega
  ·constructor
   ·rintro(h|h)
    ·omega
    ·exact .inr (by omega)
   ·rintro(h|h)
    ·omega
    ·exact .inr (by omega)
 by_cases h:X<=Y
 ·rw[Int.max_eq_right h,Int.min_eq_left h,<-key Y X hY hX h];have e1:X+Y-16=Y+X-16:=by omega
  have e2:4*X*Y=4*Y*X:=by grind
  rw[e1,e2]
 ·rw[Int.max_eq_left (by omega),Int.min_eq_right (by omega),<-key X Y hX hY (by omega)]
end Go.Bm
namespace Go.Bm
theorem Zkf (p:Pt):LU [I p.x,I p.y,I p.z]=some [B (decide (bd 1048576 p))]:=by
 unfold LU;rw[Zjx];simp only[go_sem];by_cases h:bd 1048576 p
 ·obtain⟨h1,h2,h3⟩:=h;rw[if_neg (by omega),if_neg (by omega),if_neg (by omega),if_neg (by omega),if_neg (by omega),if_neg (by omega)];congr 3;symm;exact decide_eq_true ⟨h1,h2,h3⟩
 ·have e:decide (bd 1048576 p)=false:=decide_eq_false h;rw[e];unfold bd at h;by_cases c1:p.x< -1048576
  ·rw[if_pos c1]
  rw[if_neg c1];by_cases c2:p.x>1048576
  ·rw[if_pos c2]
  rw[if_neg c2];by_cases c3:p.y< -1048576
  ·rw[if_pos c3]
  rw[if_neg c3];by_cases c4:p.y>1048576
  ·rw[if_pos c4]
  rw[if_neg c4];by_cases c5:p.z< -1048576
  ·rw[if_pos c5]
  rw[if_neg c5,if_pos (by omega)]
def axI (pl:Int):Int×Int×Int:=if pl=17 then(0,1,2)else if pl=18 then(2,0,1)else if pl=19 then(1,2,0)else(0,0,0)
theorem Qg8 (pl:Int):FG [I pl]=some [I (axI pl).1,I (axI pl).2.1,I (axI pl).2.2,B (decide (EO pl))]:=by
 unfold FG;rw[Q9i];simp only[go_sem];unfold axI EO;by_cases h1:pl=17
 ·rw[if_pos h1,if_pos h1];simp[h1]
 rw[if_neg h1,if_neg h1];by_cases h2:pl=18
 ·rw[if_pos h2,if_pos h2];simp[h2]
 rw[if_neg h2,if_neg h2];by_cases h3:pl=19
 ·rw[if_pos h3,if_pos h3];simp[h3]
 rw[if_neg h3,if_neg h3];simp[h1,h2,h3]
theorem Zee {M:Fn} (hM:∀pl:Int,M [I pl]=some [I (axI pl).1,I (axI pl).2.1,I (axI pl).2.2,B (decide (EO pl))]) {p:Pt} {pl:Int} (hp:EO pl):
  Vr M [I p.x,I p.y,I p.z,I pl]=some [I (plU pl p),I (plW pl p),I (plH pl p)]:=by
 rw[Zy8];simp only[go_sem,hM];rw[if_neg (by simpa using hp)];rcases hp with rfl|rfl|rfl<;>rfl
theorem Q2n {p:Pt} {pl:Int} (hp:EO pl):HT [I p.x,I p.y,I p.z,I pl]=some [I (plU pl p),I (plW pl p),I (plH pl p)]:=Zee Qg8 hp
def Ax (p:Pt):Pt:=⟨p.x*16,p.y*16,p.z*16⟩
theorem Ff {b:Nat} {p:Pt} (h:bd b p):bd (b*16) (Ax p):=by
 obtain⟨h1,h2,h3⟩:=h;unfold Ax;exact⟨by simp only;omega,by simp only;omega,by simp only;omega⟩
theorem QT (pl:Int) (p:Pt):plU pl (Ax p)=plU pl p*16/\plW pl (Ax p)=plW pl p*16/\plH pl (Ax p)=plH pl p*16:=by
 unfold plU plW plH Ax;refine⟨?_,?_,?_⟩<;>split<;>(try split)<;>rfl
theorem Q3h {p:Pt} (h:bd 100000000 p):Hz [I p.x,I p.y,I p.z]=some (ptR (Ax p)):=by
 unfold Hz;rw[Zfc];obtain⟨h1,h2,h3⟩:=h;rw[Ae (by omega),Ae (by omega),Ae (by omega)];rfl
theorem YH {u w r h x y s g:Int} (hu:u.natAbs<=1000000000) (hw:w.natAbs<=1000000000) (hx:x.natAbs<=1000000000) (hy:y.natAbs<=1000000000):GN [I u,I w,I r,I h,I x,I y,I s,I g]=some [I (dt2 u w x y)]:=by
 unfold GN;rw[Q8l];have h1:=Hs hu hx;have h2:=Hs hw hy;unfold dt2;rw[Ae (x:=u*x) (by omega),Ae (x:=w*y) (by omega),Ae (by omega)]
theorem UG {u w r h x y s g:Int} (hu:u.natAbs<=1000000000) (hw:w.natAbs<=1000000000) (hx:x.natAbs<=1000000000) (hy:y.natAbs<=1000000000):G9 [I u,I w,I r,I h,I x,I y,I s,I g]=some [I (crs u w x y)]:=by
 unfold G9;rw[Zu9];have h1:=Hs hu hy;have h2:=Hs hw hx;unfold crs;rw[Ae (x:=u*y) (by omega),Ae (x:=w*x) (by omega),Ae (by omega)]
theorem Q7o {M:Fn} (hM:∀{a b c d:Int},i64 a->i64 b->i64 c->i64 d->M [I a,I b,I c,I d]=some [I (Kt (a*b) (c*d))]) {X Y:Int} (hX:64<=X/\X<=1000000000000000) (hY:64<=Y/\Y<=1000000000000000):
  ∃v,Qi0 M [I X,I Y]=some [B v]/\(v=true↔H0 X Y):=by
 rw[Z0o,Zid hX.1 hY.1];have hmx:mx X Y=max X Y:=by unfold mx;rw[Int.max_def];split<;>split<;>omega
 have hmn:mn X Y=min X Y:=by unfold mn;rw[Int.min_def];split<;>split<;>omega
 have hx1:max X Y<=1000000000000000/\64<=max X Y:=by omega
 have hx2:min X Y<=1000000000000000/\64<=min X Y:=by omega
 rw[hmx,hmn];generalize max X Y=a at*;generalize min X Y=b at*;simp only[go_sem];rw[Ae (x:=a-b) (by omega),Ae (x:=a-b-16) (by omega)];by_cases c1:a-b-16<=0
 ·rw[if_pos c1];exact⟨_,rfl,iff_of_true rfl (.inl c1)⟩
 ·rw[if_neg c1,hM (by unfold i64;omega) (by unfold i64;omega) (by unfold i64;omega) (by unfold i64;omega)];refine⟨_,rfl,?_⟩;simp only[go_sem,decide_eq_true_eq,Zip];exact⟨fun h=> .inr h,fun h=>h.resolve_left c1⟩
theorem Zew {X Y:Int} (hX:64<=X/\X<=1000000000000000) (hY:64<=Y/\Y<=1000000000000000):∃v,OF [I X,I Y]=some [B v]/\(v=true↔H0 X Y):=Q7o Zv4 hX hY
theorem Zbt {MP MS:Fn} {it:Itm} (hP:∀p:Pt,MP [I p.x,I p.y,I p.z,I it.aG]=some [I (plU it.aG p),I (plW it.aG p),I (plH it.aG p)]) (hS:∀{p:Pt},bd 100000000 p->MS [I p.x,I p.y,I p.z]=some (ptR (Ax p)))
  (h1:bd 1048576 it.fr) (h2:bd 1048576 it.to) (h3:bd 1048576 it.ce):
  Qkf MP MS (Am (Xv MP MS)) (Ah it)=some [I (dU it it.fr*16),I (dW it it.fr*16),I 0,I (plH it.aG it.fr*16),I (dU it it.to*16),I (dW it it.to*16),I 0,I (plH it.aG it.to*16)]:=by
 rw[Zdo];obtain⟨q1,q2,q3⟩:=Ir (pl:=it.aG) h1;obtain⟨q4,q5,q6⟩:=Ir (pl:=it.aG) h2;obtain⟨q7,q8,q9⟩:=Ir (pl:=it.aG) h3;simp only[hS (A7 h3 (by omega)),hP,go_sem];have w0:wrap .i64 (0+1)=1:=Ae (by omega);have w1:wrap .i64 (1+1)=2:=Ae (by omega);have f1:=QT it.aG it.fr;have f2:=QT it.aG it.to;have f3:=QT it.aG it.ce;have u1:wrap .i64 (plU it.aG (Ax it.fr)-plU it.aG (Ax it.ce))=dU it it.fr*16:=by rw[f1.1,f3.1];unfold dU;rw[Ae (by omega)];omega
 have u2:wrap .i64 (plW it.aG (Ax it.fr)-plW it.aG (Ax it.ce))=dW it it.fr*16:=by rw[f1.2.1,f3.2.1];unfold dW;rw[Ae (by omega)];omega
 have u3:wrap .i64 (plU it.aG (Ax it.to)-plU it.aG (Ax it.ce))=dU it it.to*16:=by rw[f2.1,f3.1];unfold dU;rw[Ae (by omega)];omega
 have u4:wrap .i64 (plW it.aG (Ax it.to)-plW it.aG (Ax it.ce))=dW it it.to*16:=by rw[f2.2.1,f3.2.1];unfold dW;rw[Ae (by omega)];omega
 have b1:bd 100000000 it.fr:=A7 h1 (by omega);have b2:bd 100000000 it.to:=A7 h2 (by omega);have e1:=hS b1;have e2:=hS b2;rw[Bw (by rw[T6];simp only[go_sem,e1,e2,hP,u1,u2,w0];rfl),Bw (by rw[T6];simp only[go_sem,e1,e2,hP,u3,u4,w1];rfl),
  Bb (o:=(1,_)) (by rw[T6];simp only[go_sem];rfl) (by simp)]
 simp only[go_sem,f1.2.2,f2.2.2]
theorem Qxn {it:Itm} (hp:EO it.aG) (h1:bd 1048576 it.fr) (h2:bd 1048576 it.to) (h3:bd 1048576 it.ce):
  JQ (Ah it)=some [I (dU it it.fr*16),I (dW it it.fr*16),I 0,I (plH it.aG it.fr*16),I (dU it it.to*16),I (dW it it.to*16),I 0,I (plH it.aG it.to*16)]:=
 Zbt (fun _=>Q2n hp) Q3h h1 h2 h3
theorem Zqy {MN:Fn} {X Y C D au aw bu bw:Int} {full:Bool} (hX:0<=X/\X<=1000000000000000) (hY:0<=Y/\Y<=1000000000000000)
  (hN:∀{X Y:Int},(64<=X/\X<=1000000000000000)->(64<=Y/\Y<=1000000000000000)->∃v,MN [I X,I Y]=some [B v]/\(v=true↔H0 X Y)):
  ∃ v, (if X * 256 < wrap .i64 (128 * 128) then some [B false] else if Y * 256 < wrap .i64 (128 * 128) then some [B false] else
   (MN [I (wrap .i64 ((X*256).tdiv 256)),I (wrap .i64 ((Y*256).tdiv 256))]).bind fun o=>
   if¬CM (nth .dead o 0)=true then some [B false]else if full=true then if au*16=bu*16 then some [B (aw*16==bw*16)]else some [B false]else if C*256≠0 then some [B true]else some [B (decide (D*256<0))])=some [B v]/\
   (v=true↔64<=X/\64<=Y/\H0 X Y/\(full=true->au=bu/\aw=bw)/\(full=false->C≠0\/D<0)):=by
 rw[Ae (x:=128*128) (by omega),Int.mul_tdiv_cancel _ (by omega),Int.mul_tdiv_cancel _ (by omega),Ae (x:=X) (by omega),Ae (x:=Y) (by omega)];by_cases c1:X*256<128*128
 ·rw[if_pos c1];exact⟨_,rfl,iff_of_false (by simp) fun h=>by omega⟩
 rw[if_neg c1];by_cases c2:Y*256<128*128
 ·rw[if_pos c2];exact⟨_,rfl,iff_of_false (by simp) fun h=>by omega⟩
 rw[if_neg c2];obtain⟨v,h1,h2⟩:=hN (X:=X) (Y:=Y) (by omega) (by omega);simp only[h1,go_sem];by_cases c3:v=true
 case neg=>rw[if_pos c3];exact⟨_,rfl,iff_of_false (by simp) fun h=>c3 (h2.2 h.2.2.1)⟩
 rw[if_neg (by simpa using c3)];have hn':=h2.1 c3;cases full with
 |true=>
  rw[if_pos rfl];by_cases c4:au*16=bu*16
  ·rw[if_pos c4];refine⟨_,rfl,?_⟩;simp only[beq_iff_eq];exact⟨fun h=>⟨by omega,by omega,hn',fun _=>⟨by omega,by omega⟩,fun h=>by simp at h⟩,fun h=>by have:=(h.2.2.2.1 trivial).2;omega⟩
  ·rw[if_neg c4];exact⟨_,rfl,iff_of_false (by simp) fun h=>c4 (by have:=(h.2.2.2.1 rfl).1;omega)⟩
 |false=>
  rw[if_neg (by simp)];by_cases c4:C*256≠0
  ·rw[if_pos c4];exact⟨_,rfl,iff_of_true rfl ⟨by omega,by omega,hn',fun h=>by simp at h,fun _=> .inl (by omega)⟩⟩
  ·rw[if_neg c4];refine⟨_,rfl,?_⟩;simp only[decide_eq_true_eq];exact⟨fun h=>⟨by omega,by omega,hn',fun h=>by simp at h,fun _=> .inr (by omega)⟩,fun h=>by have:=(h.2.2.2.2 trivial);omega⟩
theorem Qps (a b c d:Int):dt2 (a*16) (b*16) (c*16) (d*16)=dt2 a b c d*256/\crs (a*16) (b*16) (c*16) (d*16)=crs a b c d*256:=by
 unfold dt2 crs;constructor<;>grind
theorem Q9s {MC MN MD ME MA MW:Fn} (hA:∀pl:Int,MA [I pl]=some [I (axI pl).1,I (axI pl).2.1,I (axI pl).2.2,B (decide (EO pl))]) (hW:∀p:Pt,MW [I p.x,I p.y,I p.z]=some [B (decide (bd 1048576 p))])
  {it:Itm} (hE:EO it.aG->bd 1048576 it.fr->bd 1048576 it.to->bd 1048576 it.ce->ME (Ah it)=some [I (dU it it.fr*16),I (dW it it.fr*16),I 0,I (plH it.aG it.fr*16),I (dU it it.to*16),I (dW it it.to*16),I 0,I (plH it.aG it.to*16)])
  (hD:∀{u w r h x y s g:Int},u.natAbs<=1000000000->w.natAbs<=1000000000->x.natAbs<=1000000000->y.natAbs<=1000000000->MD [I u,I w,I r,I h,I x,I y,I s,I g]=some [I (dt2 u w x y)])
  (hX:∀{u w r h x y s g:Int},u.natAbs<=1000000000->w.natAbs<=1000000000->x.natAbs<=1000000000->y.natAbs<=1000000000->MC [I u,I w,I r,I h,I x,I y,I s,I g]=some [I (crs u w x y)])
  (hN:∀{X Y:Int},(64<=X/\X<=1000000000000000)->(64<=Y/\Y<=1000000000000000)->∃v,MN [I X,I Y]=some [B v]/\(v=true↔H0 X Y)):
  ∃v,Wr MC MN MD ME MA MW (Ah it)=some [B v]/\(v=true↔Dj it):=by
 rw[Q8i];simp only[go_sem,hW,hA];by_cases c1:it.kind<1
 ·rw[if_pos c1];exact⟨_,rfl,iff_of_false (by simp) fun h=>by have:=h.1;omega⟩
 rw[if_neg c1];by_cases c1':it.kind>6
 ·rw[if_pos c1'];exact⟨_,rfl,iff_of_false (by simp) fun h=>by have:=h.1;omega⟩
 rw[if_neg c1'];by_cases c2:bd 1048576 it.fr
 case neg=>rw[if_pos (by simpa using c2)];exact⟨_,rfl,iff_of_false (by simp) fun h=>c2 h.2.1⟩
 rw[if_neg (by simpa using c2)];by_cases c3:bd 1048576 it.to
 case neg=>rw[if_pos (by simpa using c3)];exact⟨_,rfl,iff_of_false (by simp) fun h=>c3 h.2.2.1⟩
 rw[if_neg (by simpa using c3)];by_cases c4:it.kind=3
 case neg=>rw[if_pos c4];exact⟨_,rfl,iff_of_true rfl ⟨by omega,c2,c3,fun h=>absurd h c4⟩⟩
 rw[if_neg (by simpa using c4)];by_cases c5:EO it.aG
 case neg=>rw[if_pos (by simpa using c5)];exact⟨_,rfl,iff_of_false (by simp) fun h=>c5 (h.2.2.2 c4).1⟩
 rw[if_neg (by simpa using c5)];by_cases c7:bd 1048576 it.ce
 case neg=>
  refine⟨false,?_,iff_of_false (by simp) fun h=>c7 (h.2.2.2 c4).2.2.1⟩;split
  ·split
   ·rfl
   ·first|rfl|(rw[if_pos c7])
  ·first|rfl|(rw[if_pos c7])
 by_cases c6:it.dir=1\/it.dir= -1
 case neg=>
  rw[if_pos (c:=it.dir≠1) (by omega),if_pos (c:=it.dir≠-1) (by omega)];exact⟨false,rfl,iff_of_false (by simp) fun h=>c6 (h.2.2.2 c4).2.1⟩
 have hE':=hE c5 c2 c3 c7;obtain⟨b1,b2⟩:=Qlq (it:=it) c7 c2;obtain⟨b3,b4⟩:=Qlq (it:=it) c7 c3;simp only[Ah]at hE';have x1:=Q5x b1 b2;have x2:=Q5x b3 b4;have core:Dj it↔64<=qA it/\64<=qB it/\H0 (qA it) (qB it)/\(it.full=true->dU it it.fr=dU it it.to/\dW it it.fr=dW it it.to)/\(it.full=false->cAB it≠0\/dAB it<0):=
  ⟨fun h=>(h.2.2.2 c4).2.2.2,fun h=>⟨by omega,c2,c3,fun _=>⟨c5,c6,c7,h⟩⟩⟩
 rw[core];have x1':0<=qA it/\qA it<=1000000000000000:=⟨x1.1,by unfold qA;omega⟩;have x2':0<=qB it/\qB it<=1000000000000000:=⟨x2.1,by unfold qB;omega⟩;have D1:= @hD (dU it it.fr*16) (dW it it.fr*16) 0 (plH it.aG it.fr*16) (dU it it.fr*16) (dW it it.fr*16) 0 (plH it.aG it.fr*16) (by omega) (by omega) (by omega) (by omega);have D2:= @hD (dU it it.to*16) (dW it it.to*16) 0 (plH it.aG it.to*16) (dU it it.to*16) (dW it it.to*16) 0 (plH it.aG it.to*16) (by omega) (by omega) (by omega) (by omega);have D3:= @hD (dU it it.fr*16) (dW it it.fr*16) 0 (plH it.aG it.fr*16) (dU it it.to*16) (dW it it.to*16) 0 (plH it.aG it.to*16) (by omega) (by omega) (by omega) (by omega);have D4:= @hX (dU it it.fr*16) (dW it it.fr*16) 0 (plH it.aG it.fr*16) (dU it it.to*16) (dW it it.to*16) 0 (plH it.aG it.to*16) (by omega) (by omega) (by omega) (by omega);rw[(Qps _ _ _ _).1]at D1 D2 D3;rw[(Qps _ _ _ _).2]at D4;have e1:dt2 (dU it it.fr) (dW it it.fr) (dU it it.fr) (dW it it.fr)=qA it:=rfl;have e2:dt2 (dU it it.to) (dW it it.to) (dU it it.to) (dW it it.to)=qB it:=rfl;have e3:dt2 (dU it it.fr) (dW it it.fr) (dU it it.to) (dW it it.to)=dAB it:=rfl;have e4:crs (dU it it.fr) (dW it it.fr) (dU it it.to) (dW it it.to)=cAB it:=rfl;rw[e1]at D1;rw[e2]at D2;rw[e3]at D3;rw[e4]at D4;have T:= @Zqy MN (qA it) (qB it) (cAB it) (dAB it) (dU it it.fr) (dW it it.fr) (dU it it.to) (dW it it.to) it.full x1' x2' hN;have n7: ¬ ¬bd 1048576 it.ce:=fun h=>h c7;by_cases d1:it.dir=1
 ·rw[if_neg (c:=it.dir≠1) (fun h=>h d1),if_neg n7];simp only[hE',go_sem,D1,D2,D3,D4];exact T
 ·rw[if_pos (c:=it.dir≠1) d1,if_neg (c:=it.dir≠-1) (by omega),if_neg n7];simp only[hE',go_sem,D1,D2,D3,D4];exact T
theorem Qha (it:Itm):∃v,Gl (Ah it)=some [B v]/\(v=true↔Dj it):=
 Q9s Qg8 Zkf (fun h1 h2 h3 h4=>Qxn h1 h2 h3 h4) YH UG Zew
end Go.Bm
namespace Go.Bm
def okS (s:Spk):Prop:=s.u.natAbs<=50000000/\s.w.natAbs<=50000000/\(0<=s.r/\s.r<=50000000)/\s.h.natAbs<=16777216
def hf (a b:Int):Int:=(a+b+1)/2
def Dq (a b:Spk) (dir:Int) (full:Bool):Int×Int:=
 if full=true then(-a.u,-a.w)
 else if 0<dt2 a.u a.w b.u b.w/\0<crs a.u a.w b.u b.w*dir then(a.u+b.u,a.w+b.w)
 else if 0<dt2 a.u a.w b.u b.w then(-(a.u+b.u),-(a.w+b.w))
 else(dir*(b.w-a.w),dir*(a.u-b.u))
noncomputable def Hd (a b:Spk) (u w:Int):Spk:=if u=0/\w=0 then⟨0,0,0,0⟩else⟨B5 u (hf a.r b.r) (sq2 u w),B5 w (hf a.r b.r) (sq2 u w),hf a.r b.r,hf a.h b.h⟩
noncomputable def EC (a b:Spk) (dir:Int) (full:Bool):Spk:=Hd a b (Dq a b dir full).1 (Dq a b dir full).2
theorem Ok {a b:Spk} (ha:okS a) (hb:okS b) {dir:Int} (hd:dir=1\/dir= -1) (full:Bool):(Dq a b dir full).1.natAbs<=100000000/\(Dq a b dir full).2.natAbs<=100000000:=by
 obtain⟨a1,a2,-⟩:=ha;obtain⟨b1,b2,-⟩:=hb;unfold Dq;split
 ·exact⟨by simp only;omega,by simp only;omega⟩
 ·split
  ·exact⟨by simp only;omega,by simp only;omega⟩
  ·split
   ·exact⟨by simp only;omega,by simp only;omega⟩
   ·rcases hd with rfl|rfl
    ·exact⟨by simp only;omega,by simp only;omega⟩
    ·exact⟨by simp only;omega,by simp only;omega⟩
theorem Qo6 (u w:Int):u*u<=sq2 u w/\w*w<=sq2 u w:=by
 have h1:=FM u;have h2:=FM w;unfold sq2;omega
theorem TX {u w:Int} (h: ¬(u=0/\w=0)):0<sq2 u w:=by
 have h1:=FM u;have h2:=FM w;have z:∀u:Int,u*u=0->u=0:=fun u hu=>by
  rcases Int.mul_eq_zero.1 hu with h|h<;>exact h
 have h3: ¬(u*u=0/\w*w=0):=fun h4=>h ⟨z _ h4.1,z _ h4.2⟩;unfold sq2;omega
theorem Q34 {a b:Int} (ha:0<=a/\a<=50000000) (hb:0<=b/\b<=50000000):0<=hf a b/\hf a b<=50000000:=by unfold hf;omega
theorem Zxf {a b:Int} (ha:a.natAbs<=16777216) (hb:b.natAbs<=16777216):(hf a b).natAbs<=16777216:=by unfold hf;omega
theorem Q5o {u w r:Int} (hu:u.natAbs<=100000000) (hw:w.natAbs<=100000000) (hr:0<=r/\r<=50000000) (h: ¬(u=0/\w=0)):
  (True/\(B5 u r (sq2 u w)).natAbs<=r.natAbs)/\(True/\(B5 w r (sq2 u w)).natAbs<=r.natAbs):=by
 have hp:=TX h;have h1:=DG hu;have h2:=DG hw;have h3:sq2 u w<=20000000000000000:=by unfold sq2;omega
 obtain⟨q1,q2⟩:=Qo6 u w;have key:∀x:Int,x.natAbs<=100000000->x*x<=sq2 u w->True/\(B5 x r (sq2 u w)).natAbs<=r.natAbs:=by
  intro x hx hq;obtain⟨g1,-,g3⟩:=Th (x:=x) (r:=r) (n:=sq2 u w) (Nat.le_trans hx (by decide)) (by omega) (by omega) hq;refine⟨g1,U7 (by omega) ?_ g3⟩;have:((x.natAbs*x.natAbs:Nat):Int)=x*x:=Int.natAbs_mul_self;omega
 exact⟨key u hu q1,key w hw q2⟩
theorem Zwp {a b:Spk} (ha:okS a) (hb:okS b) {u w:Int} (hu:u.natAbs<=100000000) (hw:w.natAbs<=100000000):okS (Hd a b u w):=by
 unfold Hd;split
 ·exact⟨by simp,by simp,by simp,by simp⟩
 ·rename_i h;have hr:=Q34 ha.2.2.1 hb.2.2.1;obtain⟨⟨-,n1⟩,-,n2⟩:=Q5o hu hw hr h;exact⟨by simp only;omega,by simp only;omega,hr,Zxf ha.2.2.2 hb.2.2.2⟩
theorem Q2h {a b:Spk} (ha:okS a) (hb:okS b) {dir:Int} (hd:dir=1\/dir= -1) (full:Bool):okS (EC a b dir full):=
 Zwp ha hb (Ok ha hb hd full).1 (Ok ha hb hd full).2
theorem Gt {x:Int} (h:x.natAbs<=50000000):x.natAbs<=1000000000:=Nat.le_trans h (by decide)
def Ia (a b:Spk) (dir:Int) (full:Bool):Prop:=full=false/\0<crs a.u a.w b.u b.w*dir/\sq2 (a.u-b.u) (a.w-b.w)<=32*mn a.r b.r-64
instance {a b:Spk} {dir:Int} {full:Bool}:Decidable (Ia a b dir full):=by unfold Ia;infer_instance
noncomputable def DI (dir:Int):Nat->Bool->Spk->Spk->List Spk
 |0,_,_,b=>[b]
 |k+1,full,a,b=>if Ia a b dir full then [b]else DI dir k false a (EC a b dir full)++DI dir k false (EC a b dir full) b
theorem Rg {dir:Int}:∀(k:Nat) (full:Bool) (a b:Spk),1<=(DI dir k full a b).length/\(DI dir k full a b).length<=2^k
 |0,_,_,b=>by simp[DI]
 |k+1,full,a,b=>by
  have hp:0<2^k:=Nat.two_pow_pos _;have e3:2^(k+1)=2^k+2^k:=by rw[Nat.pow_succ];omega
  unfold DI;split
  ·simp;omega
  ·have h1:=Rg k false a (EC a b dir full) (dir:=dir);have h2:=Rg k false (EC a b dir full) b (dir:=dir);rw[List.length_append];omega
theorem Qaw {dir:Int} (hd:dir=1\/dir= -1):∀(k:Nat) (full:Bool) {a b:Spk},okS a->okS b->∀s∈DI dir k full a b,okS s
 |0,_,a,b,_,hb,s,hs=>by simp[DI]at hs;subst hs;exact hb
 |k+1,full,a,b,ha,hb,s,hs=>by
  unfold DI at hs;have hm:=Q2h ha hb hd full;split at hs
  ·simp at hs;subst hs;exact hb
  ·rcases List.mem_append.1 hs with hs|hs
   ·exact Qaw hd k false ha hm s hs
   ·exact Qaw hd k false hm hb s hs
end Go.Bm
namespace Go.Bm
theorem Zfb {n i j:Int} (hi:Iy n i) (hj:Iy n j):i=j:=by
 have key:∀{i j:Int},Iy n i->Iy n j-> ¬i<j:=by
  rintro i j ⟨h1,h2,-⟩ ⟨h4,h5,h6⟩ hlt;rcases h6 with h6|h6
  ·omega
  ·have h7:=Int.mul_le_mul (show i<=j-1 by omega) (show i+1<=j by omega) (by omega) (by omega);omega
 have h1:=key hi hj;have h2:=key hj hi;omega
open Classical in
noncomputable def FE (n:Int):Int:=if h:∃j,Iy n j then Classical.choose h else 0
theorem Rb {n k:Int} (h:Iy n k):FE n=k:=by
 have hx:∃j,Iy n j:=⟨k,h⟩;unfold FE;rw[dif_pos hx];exact Zfb (Classical.choose_spec hx) h
theorem S3 {n r:Nat} (h1:r*r<=n) (h2:n<(r+1)*(r+1)):Iy n (if r*r+r<n then r+1 else r:Nat):=by
 have e0:(r+1)*(r+1)=r*r+r+r+1:=by grind
 unfold Iy;by_cases c:r*r+r<n
 ·rw[if_pos c];have e1:((r+1:Nat):Int)*(((r+1:Nat):Int)+1)=((r*r+r+r+r+2:Nat):Int):=by
   have:((r+1:Nat):Int)+1=((r+2:Nat):Int):=by omega
   rw[this,<-Int.natCast_mul];congr 1
   grind
  have e2:(((r+1:Nat):Int)-1)*((r+1:Nat):Int)=((r*r+r:Nat):Int):=by
   rw[show((r+1:Nat):Int)-1=(r:Int) by omega,<-Int.natCast_mul];congr 1
  rw[e1,e2];generalize r*r=A at*;exact⟨by omega,by omega, .inr (by omega)⟩
 ·rw[if_neg c];have e1:(r:Int)*((r:Int)+1)=((r*r+r:Nat):Int):=by
   rw[show(r:Int)+1=((r+1:Nat):Int) by omega,<-Int.natCast_mul];congr 1
  rw[e1];refine⟨by omega,by omega,?_⟩;rcases Nat.eq_zero_or_pos r with h|h
  ·left;omega
  ·right;have e2:((r:Int)-1)*(r:Int)=(((r-1)*r:Nat):Int):=by
    rw[show(r:Int)-1=((r-1:Nat):Int) by omega];exact(Int.natCast_mul _ _).symm
   have:=Nat.mul_lt_mul_of_pos_right (show r-1<r by omega) h;rw[e2];omega
noncomputable def Ev (it:Itm) (p:Pt):Spk:=⟨dU it p*16,dW it p*16,FE (sq2 (dU it p*16) (dW it p*16)),plH it.aG p*16⟩
theorem Zj4 {n:Nat} (hn:n<=2251799813685248):0<=FE n/\FE n<=50000000:=by
 obtain⟨r,-,h2,h3,-⟩:=Sq (n:=n) (by omega);have hm:=S3 h2 h3;rw[Rb hm];have:r<50000000:=by
  by_cases c:r<50000000
  ·exact c
  ·have:=Nat.mul_le_mul (show 50000000<=r by omega) (show 50000000<=r by omega);omega
 split<;>omega
theorem Qe {it:Itm} {p:Pt} (hc:bd 1048576 it.ce) (hp:bd 1048576 p):(dU it p*16).natAbs<=33554432/\(dW it p*16).natAbs<=33554432/\0<=sq2 (dU it p*16) (dW it p*16)/\sq2 (dU it p*16) (dW it p*16)<=2251799813685248:=by
 obtain⟨h1,h2⟩:=Qlq hc hp;have h3:(dU it p*16).natAbs<=33554432:=by omega
 have h4:(dW it p*16).natAbs<=33554432:=by omega
 have q1:=DG h3;have q2:=DG h4;refine⟨h3,h4,?_⟩;unfold sq2;omega
theorem Sj {it:Itm} {p:Pt} (hc:bd 1048576 it.ce) (hp:bd 1048576 p):okS (Ev it p):=by
 obtain⟨h1,h2,h3,h4⟩:=Qe hc hp;have h5:=(Ir (pl:=it.aG) hp).2.2;obtain⟨n,hn⟩:=Int.eq_ofNat_of_zero_le h3;refine⟨Nat.le_trans h1 (by decide),Nat.le_trans h2 (by decide),?_,?_⟩
 ·show 0<=FE _/\FE _<=_;rw[hn]at h4⊢;exact Zj4 (by omega)
 ·show(plH it.aG p*16).natAbs<=_;omega
noncomputable def DQ (it:Itm):List Spk:=Ev it it.fr::DI it.dir 16 it.full (Ev it it.fr) (Ev it it.to)
theorem Q4p {it:Itm} (h:Dj it) (h3:it.kind=3):∀s∈DQ it,okS s:=by
 obtain⟨-,h1,h2,ha⟩:=h;obtain⟨hp,hd,hc,-⟩:=ha h3;intro s hs;rcases List.mem_cons.1 hs with rfl|hs
 ·exact Sj hc h1
 ·exact Qaw hd 16 _ (Sj hc h1) (Sj hc h2) s hs
theorem Qwq (it:Itm):2<=(DQ it).length/\(DQ it).length<=65537:=by
 have:=Rg (dir:=it.dir) 16 it.full (Ev it it.fr) (Ev it it.to);have e:(2:Nat)^16=65536:=rfl;rw[e]at this;unfold DQ;rw[List.length_cons];omega
noncomputable def I7 (it:Itm) (s:Spk):Pt:=spP it.aG (plU it.aG (Ax it.ce)+s.u) (plW it.aG (Ax it.ce)+s.w) s.h
noncomputable def B0 (it:Itm):List Pt:=if it.kind=3 then(DQ it).map (I7 it)else [Ax it.fr,Ax it.to]
theorem Qz4 {pl u w h:Int} {b:Nat} (hu:u.natAbs<=b) (hw:w.natAbs<=b) (hh:h.natAbs<=b):bd b (spP pl u w h):=by
 unfold spP bd;split
 ·exact⟨hu,hw,hh⟩
 ·split
  ·exact⟨hw,hh,hu⟩
  ·exact⟨hh,hu,hw⟩
theorem Zu4 {it:Itm} {s:Spk} (hc:bd 1048576 it.ce) (hs:okS s):bd 67108864 (I7 it s):=by
 obtain⟨h1,h2,-⟩:=Ir (pl:=it.aG) (Ff hc);obtain⟨s1,s2,-,s4⟩:=hs;exact Qz4 (by omega) (by omega) (by omega)
theorem Qjh {it:Itm} (h:Dj it):∀p∈B0 it,bd 67108864 p:=by
 intro p hp;unfold B0 at hp;split at hp
 ·rename_i h3;simp only[List.mem_map]at hp;obtain⟨s,hs,rfl⟩:=hp;exact Zu4 (h.2.2.2 h3).2.2.1 (Q4p h h3 s hs)
 ·simp at hp;rcases hp with rfl|rfl
  ·exact A7 (Ff h.2.1) (by decide)
  ·exact A7 (Ff h.2.2.1) (by decide)
theorem Q6u (it:Itm):2<=(B0 it).length/\(B0 it).length<=65537:=by
 have:=Qwq it;unfold B0;split<;>simp<;>omega
end Go.Bm
namespace Go.Bm
def F8 (t:Itm) (speed:Int):Int:=if t.kind=1 then 0 else mx (Bh (mn (if t.perRev=true then t.feed*mx speed 1 else t.feed) 60000000*4096) 60000) 1
theorem Zxy {f s:Int} (hf:0<=f/\f<=60000000) (hs:0<=s/\s<=30000):0<=f*mx s 1/\f*mx s 1<=1800000000000:=by
 have h1:1<=mx s 1/\mx s 1<=30000:=by unfold mx;split<;>omega
 generalize mx s 1=m at*;have h2:=Int.mul_le_mul hf.2 h1.2 (by omega) (by omega);have h3:=Int.mul_nonneg hf.1 (show 0<=m by omega);omega
theorem Qwg {x:Int} (h:0<=x):0<=mn x 60000000/\mn x 60000000<=60000000:=by unfold mn;split<;>omega
theorem Ziu {M:Fn} {t:Itm} {speed:Int} (hf:0<=t.feed/\t.feed<=60000000) (hs:0<=speed/\speed<=30000)
  (hM:∀a:Int,0<=a/\a<=60000000->M [I a,I 4096,I 60000,I 2]=some [I (Bh (a*4096) 60000),B true]):Zo M (Ah t++[I speed])=some [I (F8 t speed)]:=by
 have h1:=Zxy hf hs;have h2:=hM _ (Qwg h1.1);have h3:=hM _ (Qwg hf.1);have h4:wrap .i64 (t.feed*mx speed 1)=t.feed*mx speed 1:=Ae (by omega);simp only[Ah,List.cons_append,List.nil_append];rw[Q5j,h4];simp only[go_sem,h2,h3];unfold F8;by_cases g1:t.kind=1
 ·rw[if_pos g1,if_pos g1]
 ·rw[if_neg g1,if_neg g1];by_cases g2:t.perRev=true
  ·rw[if_pos g2,if_pos g2]
  ·rw[if_neg g2,if_neg g2]
theorem Zwg {t:Itm} {speed:Int} (hf:0<=t.feed/\t.feed<=60000000) (hs:0<=speed/\speed<=30000):JY (Ah t++[I speed])=some [I (F8 t speed)]:=
 Ziu hf hs fun a ha=>Rl (by unfold i64;omega) (by unfold i64;omega) (by omega) (by have:a.natAbs*(4096:Int).natAbs<=60000000*4096:=Nat.mul_le_mul (by omega) (by omega);omega)
end Go.Bm
namespace Go.Bm
def it0:Itm:=⟨0,0,⟨0,0,0⟩,⟨0,0,0⟩,0,⟨0,0,0⟩,0,false,0,false,0,0,0,0,0,false⟩
def itA (aA:List Itm) (i:Nat):Itm:=aA.getD i it0
theorem PX {aA:List Itm} {i:Nat} (h:i<aA.length):itA aA i=aA[i]:=by unfold itA;simp[h]
theorem Q45 {aA:List Itm} {i:Nat} (h:i<aA.length):itA aA i∈aA:=by rw[PX h];exact List.getElem_mem h
theorem Fq {aA:List Itm} {i:Nat} (h:i<aA.length):nth [] (aA.map Ah) i=Ah (itA aA i):=by rw[PX h];exact I1 _ _ _ _ h
theorem Qfw {aA:List Itm} {i:Nat} (h:i<aA.length):aA.drop i=itA aA i::aA.drop (i+1):=by rw[PX h];exact Nq _ _ h
def AG (it:Itm):Prop:=1<=it.kind/\it.kind<=6
def smI (it:Itm):Prop:=it.kind=2/\it.fr≠it.to
def syI (it:Itm):Prop:=it.kind=5\/it.kind=6
instance (it:Itm):Decidable (AG it):=by unfold AG;infer_instance
instance (it:Itm):Decidable (smI it):=by unfold smI;infer_instance
instance (it:Itm):Decidable (syI it):=by unfold syI;infer_instance
def Bd (it:Itm):Pt:=⟨(it.fr.x+it.to.x)*8,(it.fr.y+it.to.y)*8,(it.fr.z+it.to.z)*8⟩
theorem LM {it:Itm} (h1:bd 1048576 it.fr) (h2:bd 1048576 it.to):bd B24 (Bd it):=by
 unfold bd B24 Bd at*;simp only;omega
def GY:List Itm->Nat->Int
 |[],_=> -1
 |it::l,k=>if it.kind=10 then GY l (k+1)else if smI it then k else-1
def BV (aA:List Itm) (i:Nat):Int:=if smI (itA aA i)/\(itA aA i).blend≠0 then GY (aA.drop (i+1)) (i+1)else-1
theorem Qst:∀(l:List Itm) (k:Nat),GY l k= -1\/∃j:Nat,GY l k=((k+j:Nat):Int)/\∃h:j<l.length,smI l[j]/\∀i (hi:i<l.length),i<j->l[i].kind=10
 |[],_=> .inl rfl
 |it::l,k=>by
  unfold GY;split
  ·rename_i h10;rcases Qst l (k+1)with h|⟨j,h1,h2,h3,h4⟩
   ·exact .inl h
   ·refine .inr ⟨j+1,by rw[h1];omega,by simp;omega,by simpa using h3,?_⟩;intro i hi hij;cases i with
    |zero=>simpa using h10
    |succ i=>simpa using h4 i (by simpa using hi) (by omega)
  ·split
   ·rename_i hs;exact .inr ⟨0,by simp,by simp,by simpa using hs,fun i _ hi=>by omega⟩
   ·exact .inl rfl
theorem YR (aA:List Itm) (i:Nat):BV aA i= -1\/(smI (itA aA i)/\(itA aA i).blend≠0/\∃k:Nat,BV aA i=k/\i<k/\k<aA.length/\smI (itA aA k)/\∀j,i<j->j<k->(itA aA j).kind=10):=by
 unfold BV;split
 ·rename_i h;rcases Qst (aA.drop (i+1)) (i+1)with h1|⟨j,h1,h2,h3,h4⟩
  ·exact .inl h1
  ·have h5:i+1+j<aA.length:=by rw[List.length_drop]at h2;omega
   refine .inr ⟨h.1,h.2,i+1+j,h1,by omega,h5,?_,?_⟩
   ·rw[PX h5];rw[List.getElem_drop]at h3;exact h3
   ·intro m hm1 hm2;have:=h4 (m-(i+1)) (by omega) (by omega);rw[List.getElem_drop]at this;rw[PX (by omega)];have e:i+1+(m-(i+1))=m:=by omega
    simp only[e]at this;exact this
 ·exact .inl rfl
def Pg (it:Itm):Int:=if it.kind=10 then 5 else if it.kind=13 then 4 else 3
def Ht:List Itm->Int
 |[]=>2
 |it::l=>if AG it then(if syI it then 1 else 2)else Ht l
def Kw (aA:List Itm) (i:Nat):Int:=if(itA aA i).kind=4 then 6 else if(itA aA i).blend=0 then 1 else if syI (itA aA i)then 1 else Ht (aA.drop (i+1))
noncomputable def HD (aA:List Itm) (i k:Nat):List Pt:=FO (Bd (itA aA i)) (Ax (itA aA i).to) (Bd (itA aA k)) ((itA aA i).blend*16)
def drawn (it:Itm):Prop:=Dj it/\0<=it.blend/\it.blend<=1000
theorem Kz {aA:List Itm} {i k:Nat} (h1:drawn (itA aA i)) (h2:drawn (itA aA k)):(∀p∈HD aA i k,bd B24 p)/\1<=(HD aA i k).length/\(HD aA i k).length<=65:=
 Qrc (LM h1.1.2.1 h1.1.2.2.1) (Ff h1.1.2.2.1) (LM h2.1.2.1 h2.1.2.2.1)
noncomputable def IZ (aA:List Itm) (i:Nat) (frm:Int):List Pt:=if 0<=frm then(HD aA frm.toNat i).drop ((HD aA frm.toNat i).length/2)else(B0 (itA aA i)).take 1
noncomputable def LF (aA:List Itm) (i:Nat):List Pt:=if 0<=BV aA i then(HD aA i (BV aA i).toNat).take ((HD aA i (BV aA i).toNat).length/2+1)else(B0 (itA aA i)).drop 1
noncomputable def Cg (aA:List Itm) (i:Nat) (frm:Int):List Pt:=if smI (itA aA i)then IZ aA i frm++[Bd (itA aA i)]++LF aA i else B0 (itA aA i)
def Li (aA:List Itm) (i:Nat) (frm:Int):Prop:=frm= -1\/∃f:Nat,frm=f/\f<aA.length/\drawn (itA aA f)
theorem Zbf {aA:List Itm} {i:Nat} {frm:Int} (hd:drawn (itA aA i)) (hf:Li aA i frm):(∀p∈IZ aA i frm,bd 67108864 p)/\(IZ aA i frm).length<=65:=by
 unfold IZ;rcases hf with rfl|⟨f,rfl,hf1,hf2⟩
 ·rw[if_neg (by omega)];exact⟨fun p hp=>Qjh hd.1 p (List.mem_of_mem_take hp),by rw[List.length_take];omega⟩
 ·rw[if_pos (by omega)];obtain⟨h1,h2,h3⟩:=Kz (aA:=aA) (i:=(f:Int).toNat) (k:=i) (by simpa using hf2) hd;exact⟨fun p hp=>A7 (h1 p (List.mem_of_mem_drop hp)) (by decide),by rw[List.length_drop];omega⟩
theorem TO {aA:List Itm} {i:Nat} (hall:∀k<aA.length,AG (itA aA k)->drawn (itA aA k)) (hs:0<=BV aA i):∃k:Nat,BV aA i=k/\k<aA.length/\drawn (itA aA k):=by
 rcases YR aA i with h|⟨-,-,k,h1,-,h2,h3,-⟩
 ·omega
 ·exact⟨k,h1,h2,hall k h2 ⟨by have:=h3.1;omega,by have:=h3.1;omega⟩⟩
theorem Zd3 {aA:List Itm} {i:Nat} (hd:drawn (itA aA i)) (h2:(itA aA i).kind≠3) (hall:∀k<aA.length,AG (itA aA k)->drawn (itA aA k)):(∀p∈LF aA i,bd 67108864 p)/\(LF aA i).length<=66:=by
 unfold LF;by_cases h:0<=BV aA i
 ·rw[if_pos h];obtain⟨k,hk,hk1,hk2⟩:=TO hall h;obtain⟨h1,h2,h3⟩:=Kz (aA:=aA) (i:=i) (k:=(BV aA i).toNat) hd (by rw[hk];simpa using hk2);exact⟨fun p hp=>A7 (h1 p (List.mem_of_mem_take hp)) (by decide),by rw[List.length_take];omega⟩
 ·rw[if_neg h];refine⟨fun p hp=>Qjh hd.1 p (List.mem_of_mem_drop hp),?_⟩;unfold B0;rw[if_neg h2];simp
theorem Ui {aA:List Itm} {i:Nat} {frm:Int} (hd:drawn (itA aA i)) (hf:Li aA i frm) (hall:∀k<aA.length,AG (itA aA k)->drawn (itA aA k)):
  (∀p∈Cg aA i frm,bd 67108864 p)/\(Cg aA i frm).length<=65537:=by
 unfold Cg;by_cases hs:smI (itA aA i)
 ·rw[if_pos hs];obtain⟨h1,h2⟩:=Zbf hd hf;obtain⟨h3,h4⟩:=Zd3 hd (by have:=hs.1;omega) hall;refine⟨fun p hp=> ?_,by rw[List.length_append,List.length_append];simp;omega⟩;rcases List.mem_append.1 hp with hp|hp
  ·rcases List.mem_append.1 hp with hp|hp
   ·exact h1 p hp
   ·simp at hp;subst hp;exact A7 (LM hd.1.2.1 hd.1.2.2.1) (by decide)
  ·exact h3 p hp
 ·rw[if_neg hs];exact⟨Qjh hd.1,(Q6u _).2⟩
theorem Qy0 (l:List Pt):List.drop (Int.toNat 1) (l.map ptR)=(l.drop 1).map ptR:=by rw[show Int.toNat 1=1 from rfl,List.map_drop]
theorem R9 (l:List Pt):List.take (Int.toNat 1) (l.map ptR)=(l.take 1).map ptR:=by rw[show Int.toNat 1=1 from rfl,List.map_take]
end Go.Bm
namespace Go.Bm
open Classical
def BF (it:Itm):Prop:=it.kind<1\/it.kind>14\/(AG it/\(¬Dj it\/(it.kind≠1/\(it.feed<1\/it.feed>60000000))\/it.blend<0\/it.blend>1000))\/(¬AG it/\it.kind=8/\(it.n<3\/it.n>5\/it.speed<0\/it.speed>30000))
noncomputable def ET (aA:List Itm):Nat->Nat->Int->Int
 |0,_,_=>0
 |k+1,i,last=>if BF (itA aA i)then 1 else if AG (itA aA i)then(if 0<=last/\(itA aA last.toNat).to≠(itA aA i).fr then 13 else ET aA k (i+1) i)else ET aA k (i+1) last
noncomputable def Cu (aA:List Itm):Int:=if aA.length>20000 then 10 else ET aA aA.length 0 (-1)
theorem Qnl {aA:List Itm}:∀(k i:Nat) (last:Int),i+k=aA.length->ET aA k i last=0->∀j,i<=j->j<aA.length-> ¬BF (itA aA j)
 |0,i,last,hi,_,j,h1,h2=>by omega
 |k+1,i,last,hi,h,j,h1,h2=>by
  unfold ET at h;split at h
  ·omega
  ·rename_i c;by_cases hij:j=i
   ·subst hij;exact c
   ·split at h
    ·split at h
     ·omega
     ·exact Qnl k (i+1) _ (by omega) h j (by omega) h2
    ·exact Qnl k (i+1) _ (by omega) h j (by omega) h2
theorem Ol {aA:List Itm} (h:Cu aA=0):aA.length<=20000/\∀j,j<aA.length-> ¬BF (itA aA j):=by
 unfold Cu at h;split at h
 ·omega
 ·exact⟨by omega,fun j hj=>Qnl _ 0 _ (by omega) h j (by omega) hj⟩
theorem K_ {it:Itm} (h: ¬BF it) (hm:AG it):drawn it/\(it.kind=1\/1<=it.feed/\it.feed<=60000000):=by
 unfold BF at h;have hv:Dj it:=by
  by_cases c:Dj it
  ·exact c
  ·exact absurd (.inr (.inr (.inl ⟨hm, .inl c⟩))) h
 have h2: ¬((it.kind≠1/\(it.feed<1\/it.feed>60000000))\/it.blend<0\/it.blend>1000):=fun c=>h (.inr (.inr (.inl ⟨hm, .inr c⟩)));exact⟨⟨hv,by omega,by omega⟩,by omega⟩
theorem Ze0 {it:Itm} (h: ¬BF it) (h8:it.kind=8):0<=it.speed/\it.speed<=30000:=by
 unfold BF at h;have hm: ¬AG it:=fun c=>by have:=c.2;omega
 have h2: ¬(it.n<3\/it.n>5\/it.speed<0\/it.speed>30000):=fun c=>h (.inr (.inr (.inr ⟨hm,h8,c⟩)));omega
noncomputable def AW (item feed lead:Int) (s:List Sgm×Int×Pt) (q:Pt):List Sgm×Int×Pt:=if q=s.2.2 then s else(s.1++[⟨q,AB s.2.2 q,item,feed,lead⟩],s.2.1+AB s.2.2 q,q)
theorem R2 {item feed lead:Int}:∀(pts:List Pt) (s:List Sgm×Int×Pt),(∀p∈pts,bd 67108864 p)->bd 67108864 s.2.2->0<=s.2.1->
  (pts.foldl (AW item feed lead) s).1.length<=s.1.length+pts.length/\s.2.1<=(pts.foldl (AW item feed lead) s).2.1/\(pts.foldl (AW item feed lead) s).2.1<=s.2.1+pts.length*268435456/\bd 67108864 (pts.foldl (AW item feed lead) s).2.2
 |[],s,_,h2,h3=>⟨by simp,by simp,by simp,h2⟩
 |q::pts,s,h1,h2,h3=>by
  rw[List.foldl_cons];have hq:=h1 q (by simp);have hl:=HW h2 hq;have hs:AW item feed lead s q=s\/AW item feed lead s q=(s.1++[⟨q,AB s.2.2 q,item,feed,lead⟩],s.2.1+AB s.2.2 q,q):=by unfold AW;split<;>simp
  rcases hs with hs|hs
  ·rw[hs];obtain⟨a,b,c,d⟩:=R2 pts s (fun p hp=>h1 p (by simp[hp])) h2 h3 (item:=item) (feed:=feed) (lead:=lead);exact⟨by simp;omega,b,by simp;omega,d⟩
  ·rw[hs];obtain⟨a,b,c,d⟩:=R2 pts (s.1++[⟨q,AB s.2.2 q,item,feed,lead⟩],s.2.1+AB s.2.2 q,q) (fun p hp=>h1 p (by simp[hp])) hq (by simp only;omega) (item:=item) (feed:=feed) (lead:=lead);simp only[List.length_append,List.length_cons,List.length_nil]at a b c;exact⟨by simp;omega,by omega,by simp;omega,d⟩
structure BSt where
 aF:List Sgm
 aD:List Mrk
 (len speed frm:Int)
 begun:Bool
 (start at_:Pt)
def JP (it:Itm):Int:=if syI it then mn (it.feed*16) 16777216 else 0
def OG (it:Itm) (s:Int):Int:=if it.kind=8/\(it.n=3\/it.n=4)then it.speed else s
noncomputable def EA (aA:List Itm) (i:Nat) (s:BSt):List Sgm×Int×Pt:=
 (Cg aA i s.frm).foldl (AW i (F8 (itA aA i) s.speed) (JP (itA aA i))) (s.aF,s.len,if s.begun=true then s.at_ else Ax (itA aA i).fr)
noncomputable def Cw (aA:List Itm) (i:Nat) (s:BSt):BSt:=
 if AG (itA aA i)then
  ⟨(EA aA i s).1,s.aD++[⟨(EA aA i s).2.1,Kw aA i,i⟩],(EA aA i s).2.1,s.speed,if 0<=BV aA i then i else-1,true,if s.begun=true then s.start else Ax (itA aA i).fr,(EA aA i s).2.2⟩
 else⟨s.aF,s.aD++[⟨s.len,Pg (itA aA i),i⟩],s.len,OG (itA aA i) s.speed,s.frm,s.begun,s.start,s.at_⟩
noncomputable def Aq (aA:List Itm):Nat->BSt
 |0=>⟨[],[],0,0,-1,false,⟨0,0,0⟩,⟨0,0,0⟩⟩
 |i+1=>Cw aA i (Aq aA i)
structure BOK (aA : List Itm) (i : Nat) (s : BSt) : Prop where
 aF:s.aF.length<=i*65537
 aD:s.aD.length=i
 len:0<=s.len/\s.len<=i*65537*268435456
 speed:0<=s.speed/\s.speed<=30000
 frm:Li aA i s.frm
 at_:s.begun=true->bd 67108864 s.at_
theorem Qx7 {aA:List Itm} {i:Nat} {s:BSt} (hi:i<aA.length) (hright:∀j<aA.length,¬BF (itA aA j)) (h:BOK aA i s):BOK aA (i+1) (Cw aA i s):=by
 have hall:∀k<aA.length,AG (itA aA k)->drawn (itA aA k):=fun k hk hm=>(K_ (hright k hk) hm).1;unfold Cw;by_cases hm:AG (itA aA i)
 ·rw[if_pos hm];have hd:=hall i hi hm;obtain⟨p1,p2⟩:=Ui hd h.frm hall;have ha:bd 67108864 (if s.begun=true then s.at_ else Ax (itA aA i).fr):=by
   by_cases hb:s.begun=true
   ·rw[if_pos hb];exact h.at_ hb
   ·rw[if_neg hb];exact A7 (Ff hd.1.2.1) (by decide)
  obtain⟨a1,a2,a3,a4⟩:=R2 (item:=i) (feed:=F8 (itA aA i) s.speed) (lead:=JP (itA aA i)) (Cg aA i s.frm) (s.aF,s.len,if s.begun=true then s.at_ else Ax (itA aA i).fr) p1 ha h.len.1;have h1:=h.aF;have h2:=h.len;have e1:(i+1)*65537=i*65537+65537:=by rw[Nat.succ_mul]
  refine⟨?_,?_,?_,h.speed,?_,fun _=>a4⟩
  ·simp only at a1;show(EA aA i s).1.length<=_;unfold EA;omega
  ·show(s.aD++[_]).length=_;rw[List.length_append,h.aD];rfl
  ·show 0<=(EA aA i s).2.1/\(EA aA i s).2.1<=_;unfold EA;simp only at a2 a3;have e2:(((i+1:Nat):Int))*65537*268435456=(i:Int)*65537*268435456+65537*268435456:=by
    rw[Int.natCast_add,Int.natCast_one,Int.add_mul,Int.add_mul];rfl
   constructor
   ·omega
   ·rw[e2];omega
  ·show Li aA (i+1) (if 0<=BV aA i then(i:Int)else-1);split
   ·exact .inr ⟨i,rfl,hi,hd⟩
   ·exact .inl rfl
 ·rw[if_neg hm];have h2:=h.len;have h3:=h.aF;have e1:(i+1)*65537=i*65537+65537:=by rw[Nat.succ_mul]
  refine⟨by show s.aF.length<=_;rw[e1];exact Nat.le_trans h3 (Nat.le_add_right _ _),?_,?_,?_,h.frm,h.at_⟩
  ·show(s.aD++[_]).length=_;rw[List.length_append,h.aD];rfl
  ·have e2:(((i+1:Nat):Int))*65537*268435456=(i:Int)*65537*268435456+65537*268435456:=by
    rw[Int.natCast_add,Int.natCast_one,Int.add_mul,Int.add_mul];rfl
   show 0<=s.len/\s.len<=_;rw[e2];omega
  ·show 0<=OG (itA aA i) s.speed/\OG (itA aA i) s.speed<=30000;unfold OG;split
   ·rename_i h8;exact Ze0 (hright i hi) h8.1
   ·exact h.speed
theorem Ztz (aA:List Itm):BOK aA 0 ⟨[],[],0,0,-1,false,⟨0,0,0⟩,⟨0,0,0⟩⟩:=by
 refine⟨Nat.zero_le _,List.length_nil,⟨Int.le_refl _,?_⟩,⟨Int.le_refl _,?_⟩, .inl rfl,fun h=>by cases h⟩
 ·show(0:Int)<=((0:Nat):Int)*65537*268435456;rw[show((0:Nat):Int)=0 from rfl,Int.zero_mul,Int.zero_mul];exact Int.le_refl _
 ·show(0:Int)<=30000;omega
theorem Mr {aA:List Itm} (hright:∀j<aA.length,¬BF (itA aA j)):∀i,i<=aA.length->BOK aA i (Aq aA i)
 |0,_=>by rw[Aq];exact Ztz aA
 |i+1,hi=>by rw[Aq];exact Qx7 (by omega) hright (Mr hright i (by omega))
end Go.Bm
namespace Go.Bm
open Classical
end Go.Bm
namespace Go.Bm
open Classical
noncomputable def AR (aA:List Itm):Pth:=⟨(Aq aA aA.length).start,(Aq aA aA.length).aF,(Aq aA aA.length).aD⟩
end Go.Bm
namespace Go.Bm
open Classical
def E_:Pt->List Sgm->Pt
 |a,[]=>a
 |_,g::l=>E_ g.to l
abbrev B26:Nat:=67108864
def Mj:Pt->List Sgm->Prop
 |_,[]=>True
 |a,g::l=>g.len=AB a g.to/\g.to≠a/\bd B26 g.to/\Mj g.to l
def AF:List Sgm->Int
 |[]=>0
 |g::l=>g.len+AF l
theorem QF (g:Sgm):∀(a:Pt) (l:List Sgm),E_ a (l++[g])=g.to
 |_,[]=>rfl
 |_,h::l=>by simp only[List.cons_append,E_];exact QF g h.to l
theorem Qta {g:Sgm}:∀{a:Pt} {l:List Sgm},Mj a l->g.len=AB (E_ a l) g.to->g.to≠E_ a l->bd B26 g.to->Mj a (l++[g])
 |a,[],_,h1,h2,h3=>⟨h1,h2,h3,trivial⟩
 |a,k::l,h,h1,h2,h3=>⟨h.1,h.2.1,h.2.2.1,Qta h.2.2.2 h1 h2 h3⟩
theorem ZZ (g:Sgm):∀(l:List Sgm),AF (l++[g])=AF l+g.len
 |[]=>by simp[AF]
 |k::l=>by simp only[List.cons_append,AF];rw[ZZ g l];omega
def Qgw (start:Pt) (s:List Sgm×Int×Pt):Prop:=Mj start s.1/\E_ start s.1=s.2.2/\AF s.1=s.2.1
theorem Qjb {start:Pt} {item feed lead:Int}:∀(pts:List Pt) (s:List Sgm×Int×Pt),(∀p∈pts,bd B26 p)->Qgw start s->Qgw start (pts.foldl (AW item feed lead) s)
 |[],s,_,h=>h
 |q::pts,s,hp,h=>by
  rw[List.foldl_cons];refine Qjb pts _ (fun p hp'=>hp p (by simp[hp'])) ?_;unfold AW;by_cases c:q=s.2.2
  ·rw[if_pos c];exact h
  ·rw[if_neg c];obtain⟨h1,h2,h3⟩:=h;refine⟨Qta h1 (by rw[h2]) (by rw[h2];exact c) (hp q (by simp)),QF _ _ _,?_⟩;simp only[ZZ,h3]
structure BInv (s : BSt) : Prop where
 begun:s.begun=true->bd B26 s.start/\Qgw s.start (s.aF,s.len,s.at_)
 empty:s.begun=false->s.aF=[]/\s.len=0/\s.start=⟨0,0,0⟩
theorem Zgu {aA:List Itm} {i:Nat} {s:BSt} (hi:i<aA.length) (hright:∀j<aA.length,¬BF (itA aA j)) (hok:BOK aA i s) (h:BInv s):BInv (Cw aA i s):=by
 have hall:∀k<aA.length,AG (itA aA k)->drawn (itA aA k):=fun k hk hm=>(K_ (hright k hk) hm).1;unfold Cw;by_cases hm:AG (itA aA i)
 ·rw[if_pos hm];have hd:=hall i hi hm;obtain⟨p1,-⟩:=Ui hd hok.frm hall;refine⟨fun _=> ?_,fun hb=>(by cases hb)⟩;unfold EA;by_cases hb:s.begun=true
  ·rw[if_pos hb,if_pos hb];obtain⟨g1,g2⟩:=h.begun hb;exact⟨g1,Qjb _ _ p1 g2⟩
  ·rw[if_neg hb,if_neg hb];obtain⟨g1,g2,g3⟩:=h.empty (by simpa using hb);refine⟨A7 (Ff hd.1.2.1) (by decide),Qjb _ _ p1 ?_⟩;rw[g1,g2];exact⟨trivial,rfl,rfl⟩
 ·rw[if_neg hm];exact⟨h.begun,h.empty⟩
theorem Jr {aA:List Itm} (hright:∀j<aA.length,¬BF (itA aA j)):∀i,i<=aA.length->BInv (Aq aA i)
 |0,_=>by rw[Aq];exact⟨fun h=>(by cases h),fun _=>⟨rfl,rfl,rfl⟩⟩
 |i+1,hi=>by rw[Aq];exact Zgu (by omega) hright (Mr hright i (by omega)) (Jr hright i (by omega))
structure GoodPath (p : Pth) : Prop where
 start:bd B26 p.start
 aF:Mj p.start p.aF
 count:p.aF.length<=983055
theorem Qmo {aA:List Itm} (hlen:aA.length<=15) (hc:Cu aA=0):GoodPath (AR aA):=by
 have hright:=(Ol hc).2;have h1:=Mr hright aA.length (Nat.le_refl _);have h2:=Jr hright aA.length (Nat.le_refl _);have hs:=h1.aF;unfold AR;by_cases hb:(Aq aA aA.length).begun=true
 ·obtain⟨g1,g2,-⟩:=h2.begun hb;exact⟨g1,g2,by simp only;omega⟩
 ·obtain⟨g1,-,g3⟩:=h2.empty (by simpa using hb);refine⟨?_,?_,?_⟩
  ·simp only[g3];unfold bd;simp
  ·simp only[g1];trivial
  ·simp only[g1];simp
theorem Qsn {a b:Pt} (ha:bd B26 a) (hb:bd B26 b) (h:b≠a):1<=AB a b/\AB a b<=268435456:=by
 obtain⟨-,h1,h2,-⟩:=WE ha hb;have h3:sqD a b≠0:=fun e=>h (Ux.1 e).symm;have h4:=PJ a b;have h5:=HW ha hb;refine⟨?_,h5.2⟩;by_cases c:AB a b=0
 ·rw[c]at h2;omega
 ·omega
theorem S6 {a:Pt} {l:List Sgm} (ha:bd B26 a) (h:Mj a l):∀g∈l,1<=g.len/\g.len<=268435456/\bd B26 g.to:=by
 induction l generalizing a with
 |nil=>simp
 |cons k l ih=>
  obtain⟨h1,h2,h3,h4⟩:=h;intro g hg;rcases List.mem_cons.1 hg with rfl|hg
  ·rw[h1];exact⟨(Qsn ha h3 h2).1,(Qsn ha h3 h2).2,h3⟩
  ·exact ih h3 h4 g hg
theorem Vk {l:List Sgm} (h:∀g∈l,1<=g.len/\g.len<=268435456/\bd B26 g.to):(l.length:Int)<=AF l/\AF l<=l.length*268435456:=by
 induction l with
 |nil=>simp[AF]
 |cons k l ih=>
  have:=ih fun g hg=>h g (by simp[hg]);have:=h k (by simp);simp only[AF,List.length_cons];omega
end Go.Bm
namespace Go.Bm
open Classical
def NN (a:Pt) (g:Sgm) (d:Int):Pt:=⟨a.x+Bh ((g.to.x-a.x)*d) g.len,a.y+Bh ((g.to.y-a.y)*d) g.len,a.z+Bh ((g.to.z-a.z)*d) g.len⟩
def atL:Pt->List Sgm->Int->Pt
 |a,[],_=>a
 |a,g::l,s=>if s<g.len then NN a g s else atL g.to l (s-g.len)
def atP (p:Pth) (s:Int):Pt:=atL p.start p.aF (max s 0)
def A9:List Sgm->Int->Nat×Int
 |[],s=>(0,s)
 |[g],s=>if s<g.len then(0,s)else(0,g.len)
 |g::h::l,s=>if s<g.len then(0,s)else((A9 (h::l) (s-g.len)).1+1,(A9 (h::l) (s-g.len)).2)
def EU (a:Pt) (l:List Sgm) (i:Nat):Pt:=E_ a (l.take i)
def sg0:Sgm:=⟨⟨0,0,0⟩,0,0,0,0⟩
def sgA (l:List Sgm) (i:Nat):Sgm:=l.getD i sg0
theorem NR {l:List Sgm} {i:Nat} (h:i<l.length):sgA l i=l[i]:=by unfold sgA;simp[h]
theorem Ls {l:List Sgm} {i:Nat} (h:i<l.length):nth [] (l.map Ay) i=Ay (sgA l i):=by rw[NR h];exact I1 _ _ _ _ h
theorem Hb {l:List Sgm} {i:Nat} (h:i<l.length):sgA l i∈l:=by rw[NR h];exact List.getElem_mem h
theorem JE (a:Pt) (l:List Sgm):EU a l 0=a:=by unfold EU;simp[E_]
theorem Xr (a:Pt) (g:Sgm) (l:List Sgm) (i:Nat):EU a (g::l) (i+1)=EU g.to l i:=by unfold EU;rw[List.take_succ_cons];rfl
theorem Qdy (g:Sgm) (l:List Sgm) (i:Nat):sgA (g::l) (i+1)=sgA l i:=by unfold sgA;simp
theorem RI:∀{l:List Sgm} {i:Nat} {a:Pt},i<l.length->EU a l (i+1)=(sgA l i).to
 |g::l,0,a,_=>by rw[Xr,JE];rfl
 |g::l,i+1,a,h=>by rw[Xr,Qdy];exact RI (by simpa using h)
theorem UT {x n:Int} (hn:0<n):Bh (x*n) n=x:=QG hn
theorem Zqx {a:Pt} {g:Sgm} (h:0<g.len):NN a g g.len=g.to:=by
 unfold NN;rw[UT h,UT h,UT h];rw[Ei];exact⟨by simp only;omega,by simp only;omega,by simp only;omega⟩
theorem Qmj:∀{l:List Sgm} {a:Pt} {s:Int},l≠[]->(∀g∈l,1<=g.len)->0<=s->
  (A9 l s).1<l.length/\0<=(A9 l s).2/\(A9 l s).2<=(sgA l (A9 l s).1).len/\atL a l s=NN (EU a l (A9 l s).1) (sgA l (A9 l s).1) (A9 l s).2
 |[],_,_,h,_,_=>absurd rfl h
 |[g],a,s,_,hg,hs=>by
  have h1:=hg g (by simp);unfold A9;by_cases c:s<g.len
  ·rw[if_pos c];refine⟨by simp,hs,by show s<=g.len;omega,?_⟩;unfold atL;rw[if_pos c,JE];rfl
  ·rw[if_neg c];refine⟨by simp,by simp only;omega,Int.le_refl _,?_⟩;unfold atL;rw[if_neg c,JE];show atL g.to [] _=NN a g g.len;rw[Zqx (by omega)];rfl
 |g::h::l,a,s,_,hg,hs=>by
  have h1:=hg g (by simp);unfold A9;by_cases c:s<g.len
  ·rw[if_pos c];refine⟨by simp,hs,by show s<=g.len;omega,?_⟩;unfold atL;rw[if_pos c,JE];rfl
  ·rw[if_neg c];obtain⟨k1,k2,k3,k4⟩:=Qmj (l:=h::l) (a:=g.to) (s:=s-g.len) (by simp) (fun k hk=>hg k (by simp at hk⊢;exact .inr hk)) (by omega);refine⟨by simp at k1⊢;omega,k2,?_,?_⟩
   ·simp only[Qdy];exact k3
   ·rw[show atL a (g::h::l) s=atL g.to (h::l) (s-g.len)from by rw[atL,if_neg c]];simp only[Xr,Qdy];exact k4
theorem ZP {x n:Int} {A:Nat} (hn:0<n) (h: -(A*n)<=x/\x<=A*n):(Bh x n).natAbs<=A:=by
 have m1:=RG hn h.2;have m2:=RG hn h.1;rw[show-((A:Int)*n)= -(A:Int)*n by rw[Int.neg_mul]]at m2;rw[QG hn]at m1 m2;omega
theorem Qvw {D L d:Int} (hL:0<L) (hD:D.natAbs<=134217728) (hd:0<=d/\d<=L):(Bh (D*d) L).natAbs<=134217728:=by
 refine ZP hL ?_;have h1:D*d<=134217728*d:=Int.mul_le_mul_of_nonneg_right (by omega) hd.1;have h2: -134217728*d<=D*d:=Int.mul_le_mul_of_nonneg_right (by omega) hd.1;have e:((134217728:Nat):Int)=134217728:=rfl;rw[e];omega
structure SegOK (l : List Sgm) : Prop where
 seg:∀g∈l,1<=g.len/\g.len<=268435456/\bd B26 g.to
 count:l.length<=983055
theorem GoodPath.ok {p:Pth} (h:GoodPath p):SegOK p.aF:=⟨S6 h.start h.aF,h.count⟩
theorem Qqq {a:Pt} {l:List Sgm} (ha:bd B26 a) (h:SegOK l) {i:Nat} (hi:i<l.length):bd B26 (EU a l i):=by
 cases i with
 |zero=>rw[JE];exact ha
 |succ i=>rw[RI (by omega)];exact(h.seg _ (Hb (by omega))).2.2
theorem Q0c {l:List Sgm} (h:SegOK l):∀(k i:Nat) (v:Int),i+k=l.length->0<=v->v+k*268435456<=4000000000000000000->
  Am T0 [I v, .view Ag (l.map Ay),I l.length,I i]=some (1,[I (v+AF (l.drop i))])
 |0,i,v,hi,_,_=>by
  refine Bb ?_ (by simp);rw[Q6y,AX (by omega),List.drop_of_length_le (by omega)];simp[AF]
 |k+1,i,v,hi,h0,h1=>by
  have hlt:i<l.length:=by omega
  have hcn:=h.count;have hg:=h.seg _ (Hb hlt);have hst:T0 [I v, .view Ag (l.map Ay),I l.length,I i]=some (0,[I (v+(sgA l i).len), .view Ag (l.map Ay),I l.length,I (i+1:Nat)]):=by
   rw[Q6y];simp only[go_sem,List.length_map,Int.toNat_natCast,Ls hlt];rw[if_pos (by omega),if_pos (by omega),Ae (x:=v+_) (by omega),Ae (by omega)];rfl
  rw[Bw hst,Q0c h k (i+1) _ (by omega) (by omega) (by omega)];have e:l.drop i=sgA l i::l.drop (i+1):=by rw[NR hlt];exact Nq _ _ hlt
  rw[e];simp only[AF,Int.add_assoc]
theorem Q2k {p:Pth} (h:SegOK p.aF):I3 (Bp p)=some [I (AF p.aF)]:=by
 have hl:=Q0c h p.aF.length 0 0 (by omega) (by omega) (by have:=h.count;omega);have hl':Q5 [I 0, .view Ag (p.aF.map Ay),I p.aF.length,I 0]=some (1,[I (0+AF (p.aF.drop 0))]):=hl;rw[List.drop_zero,Int.zero_add]at hl';unfold I3;generalize Q5=N at*;rw[Zni];simp only[go_sem,List.length_map,hl']
theorem Qsc {g h:Sgm} {l:List Sgm} {s:Int} (c: ¬s<g.len):A9 (g::h::l) s=((A9 (h::l) (s-g.len)).1+1,(A9 (h::l) (s-g.len)).2):=by rw[A9,if_neg c]
theorem Q2t {p:Pth} (h:SegOK p.aF):∀(k i:Nat) (s:Int),i+k=p.aF.length->1<=k->0<=s/\s<=9223372036854775807->
  Am Tx (I s:: .view Ag (p.aF.map Ay)::I p.aF.length::I i::Bp p)=some (1,[I (i+(A9 (p.aF.drop i) s).1:Nat),I (A9 (p.aF.drop i) s).2])
 |k+1,i,s,hi,_,hs=>by
  have hlt:i<p.aF.length:=by omega
  have hcnt:=h.count;have hg:=h.seg _ (Hb hlt);have e:p.aF.drop i=sgA p.aF i::p.aF.drop (i+1):=by rw[NR hlt];exact Nq _ _ hlt
  have hst:Tx (I s:: .view Ag (p.aF.map Ay)::I p.aF.length::I i::Bp p)=if s<(sgA p.aF i).len then some (1,[I i,I s])else if k=0 then some (1,[I i,I (sgA p.aF i).len])else some (0,I (s-(sgA p.aF i).len):: .view Ag (p.aF.map Ay)::I p.aF.length::I (i+1:Nat)::Bp p):=by
   rw[Q4f];simp only[go_sem,List.length_map,Int.toNat_natCast,Ls hlt];rw[if_pos (by omega),if_pos (by omega),Ae (x:=(p.aF.length:Int)-1) (by omega),Ae (x:=(i:Int)+1) (by omega)];by_cases c:s<(sgA p.aF i).len
   ·rw[if_pos c,if_pos c]
   ·rw[if_neg c,if_neg c];by_cases c2:k=0
    ·rw[if_pos (by omega),if_pos c2]
    ·rw[if_neg (by omega),if_neg c2,Ae (by omega)];rfl
  by_cases c:s<(sgA p.aF i).len
  ·rw[if_pos c]at hst;rw[Bb hst (by simp),e];cases p.aF.drop (i+1)with
   |nil=>rw[A9,if_pos c];rfl
   |cons b l=>rw[A9,if_pos c];rfl
  ·rw[if_neg c]at hst;by_cases c2:k=0
   ·rw[if_pos c2]at hst;rw[Bb hst (by simp),e,List.drop_of_length_le (by omega),A9,if_neg c];rfl
   ·rw[if_neg c2]at hst;rw[Bw hst,Q2t h k (i+1) _ (by omega) (by omega) (by omega),e];have e2:p.aF.drop (i+1)=sgA p.aF (i+1)::p.aF.drop (i+1+1):=by rw[NR (show i+1<p.aF.length by omega)];exact Nq _ _ (by omega)
    rw[e2,Qsc c,<-e2];simp only;rw[show i+1+(A9 (p.aF.drop (i+1)) (s-(sgA p.aF i).len)).1=i+((A9 (p.aF.drop (i+1)) (s-(sgA p.aF i).len)).1+1) by omega]
theorem Qgy {p:Pth} (h:SegOK p.aF) {s:Int} (hs:i64 s):EM (Bp p++[I s])=if p.aF=[]then some [I (-1),I 0]else some [I (A9 p.aF (max s 0)).1,I (A9 p.aF (max s 0)).2]:=by
 unfold i64 at hs;have hmx:mx s 0=max s 0:=mx_max' s 0;by_cases c:p.aF=[]
 ·rw[if_pos c];have hend:NQ (I (max s 0):: .view Ag []::I 0::I 0::Bp p)=some (2,[]):=by
   refine Bb ?_ (by simp);rw[Q4f,AX (by omega)]
  unfold EM;generalize NQ=N at*;have he:=Qpi N p.start.x p.start.y p.start.z (p.aF.map Ay) (p.aD.map At) s;refine Eq.trans he ?_;rw[hmx,c];have hend':N [I (max s 0), .view Ag [],I 0,I 0,I p.start.x,I p.start.y,I p.start.z, .view Ag [], .view AE (p.aD.map At)]=some (2,[]):=by
   have:=hend;unfold Bp at this;rw[c]at this;exact this
  simp only[go_sem,List.map_nil,List.length_nil];simp only[Int.natCast_zero];rw[hend'];simp
 ·rw[if_neg c];have hpos:0<p.aF.length:=by
   cases hh:p.aF with
   |nil=>exact absurd hh c
   |cons _ _=>simp
  have hL:=Q2t h p.aF.length 0 (max s 0) (by omega) (by omega) (by omega);have hL':NQ [I (max s 0), .view Ag (p.aF.map Ay),I p.aF.length,I 0,I p.start.x,I p.start.y,I p.start.z, .view Ag (p.aF.map Ay), .view AE (p.aD.map At)]=some (1,[I (0+(A9 (p.aF.drop 0) (max s 0)).1:Nat),I (A9 (p.aF.drop 0) (max s 0)).2]):=hL;rw[List.drop_zero,Nat.zero_add]at hL';unfold EM;generalize NQ=N at*;have he:=Qpi N p.start.x p.start.y p.start.z (p.aF.map Ay) (p.aD.map At) s;refine Eq.trans he ?_;rw[hmx];simp only[go_sem,List.length_map,hL']
 where mx_max' (a b:Int):mx a b=max a b:=by unfold mx;rw[Int.max_def];split<;>split<;>omega
theorem Zkz {MM MF:Fn} {p:Pth} (h:GoodPath p) {s:Int} (hF:MF (Bp p++[I s])=if p.aF=[]then some [I (-1),I 0]else some [I (A9 p.aF (max s 0)).1,I (A9 p.aF (max s 0)).2])
  (hM:∀{a b c:Int},a.natAbs<=134217728->b.natAbs<=268435456->(0<c/\c<=268435456)->MM [I a,I b,I c,I 2]=some [I (Bh (a*b) c),B true]):
  Qiy MM MF (Bp p++[I s])=some (ptR (atP p s)):=by
 have he:=Za8 (AI:=MM) (Dy:=MF) p.start.x p.start.y p.start.z (p.aF.map Ay) (p.aD.map At) s;refine Eq.trans he ?_;simp only[List.cons_append,List.nil_append,Bp]at hF;unfold atP;by_cases c:p.aF=[]
 ·rw[if_pos c]at hF;simp only[hF,go_sem];rw[if_pos (by omega),c];rfl
 ·rw[if_neg c]at hF;have hok:=h.ok;obtain⟨f1,f2,f3,f4⟩:=Qmj (l:=p.aF) (a:=p.start) (s:=max s 0) c (fun g hg=>(hok.seg g hg).1) (by omega);rw[f4];have hg:=hok.seg _ (Hb f1);have hv:=Qqq h.start hok f1;have hr:=Ls f1;have hcnt:=hok.count;generalize(A9 p.aF (max s 0)).1=i at*;generalize(A9 p.aF (max s 0)).2=d at*;have hdn:d.natAbs<=268435456:=by omega
  have fin:∀{a:Pt},bd B26 a->(MM [I (wrap .i64 ((sgA p.aF i).to.x-a.x)),I d,I (sgA p.aF i).len,I 2]=some [I (Bh (((sgA p.aF i).to.x-a.x)*d) (sgA p.aF i).len),B true]/\wrap .i64 (a.x+Bh (((sgA p.aF i).to.x-a.x)*d) (sgA p.aF i).len)=a.x+Bh (((sgA p.aF i).to.x-a.x)*d) (sgA p.aF i).len)/\
    (MM [I (wrap .i64 ((sgA p.aF i).to.y-a.y)),I d,I (sgA p.aF i).len,I 2]=some [I (Bh (((sgA p.aF i).to.y-a.y)*d) (sgA p.aF i).len),B true]/\wrap .i64 (a.y+Bh (((sgA p.aF i).to.y-a.y)*d) (sgA p.aF i).len)=a.y+Bh (((sgA p.aF i).to.y-a.y)*d) (sgA p.aF i).len)/\
    (MM [I (wrap .i64 ((sgA p.aF i).to.z-a.z)),I d,I (sgA p.aF i).len,I 2]=some [I (Bh (((sgA p.aF i).to.z-a.z)*d) (sgA p.aF i).len),B true]/\wrap .i64 (a.z+Bh (((sgA p.aF i).to.z-a.z)*d) (sgA p.aF i).len)=a.z+Bh (((sgA p.aF i).to.z-a.z)*d) (sgA p.aF i).len):=by
   intro a ha;have key:∀u v:Int,u.natAbs<=B26->v.natAbs<=B26->MM [I (wrap .i64 (u-v)),I d,I (sgA p.aF i).len,I 2]=some [I (Bh ((u-v)*d) (sgA p.aF i).len),B true]/\wrap .i64 (v+Bh ((u-v)*d) (sgA p.aF i).len)=v+Bh ((u-v)*d) (sgA p.aF i).len:=by
    intro u v hu hv;have h1:=H5 hu hv;rw[HK h1 (by decide)];refine⟨hM (Nat.le_trans h1 (by decide)) hdn (by omega),?_⟩;exact HK (QW hv (Qvw (by omega) (Nat.le_trans h1 (by decide)) ⟨f2,f3⟩)) (by decide)
   exact⟨key _ _ hg.2.2.1 ha.1,key _ _ hg.2.2.2.1 ha.2.1,key _ _ hg.2.2.2.2 ha.2.2⟩
  have hin:(0:Int)<=(i:Int)/\(i:Int)<(p.aF.length:Int):=by omega
  simp only[hF,go_sem,List.length_map,Int.toNat_natCast,hr,if_pos hin];rw[if_neg (by omega)];by_cases c0:i=0
  ·subst c0;obtain⟨⟨m1,w1⟩,⟨m2,w2⟩,m3,w3⟩:=fin h.start;rw[if_neg (by omega),JE];simp only[m1,m2,m3,go_sem,w1,w2,w3];rfl
  ·obtain⟨j,rfl⟩:∃j,i=j+1:=⟨i-1,by omega⟩;have hj:=Ls (l:=p.aF) (i:=j) (by omega);have hgj:=hok.seg _ (Hb (l:=p.aF) (i:=j) (by omega));obtain⟨⟨m1,w1⟩,⟨m2,w2⟩,m3,w3⟩:=fin hgj.2.2;rw[if_pos (by omega),RI (by omega)];have e1:wrap .i64 (((j+1:Nat):Int)-1)=(j:Int):=by rw[Ae (by omega)];omega
   rw[e1];simp only[Int.toNat_natCast,hj,go_sem];rw[if_pos (by omega)];simp only[m1,m2,m3,go_sem,w1,w2,w3];rfl
theorem Qwo {a b c:Int} (ha:a.natAbs<=134217728) (hb:b.natAbs<=268435456) (hc:0<c/\c<=268435456):Bi [I a,I b,I c,I 2]=some [I (Bh (a*b) c),B true]:=by
 have:=Nat.mul_le_mul ha hb;exact Rl (by unfold i64;omega) (by unfold i64;omega) (by omega) (by omega)
theorem Zv9 {p:Pth} (h:GoodPath p) {s:Int} (hs:i64 s):P9 (Bp p++[I s])=some (ptR (atP p s)):=
 Zkz h (Qgy h.ok hs) Qwo
end Go.Bm
namespace Go.Bm
open Classical
theorem QL {p:Pth} (h:GoodPath p):0<=AF p.aF/\AF p.aF<=263886834032640:=by
 have h1:=Vk h.ok.seg;have h2:=h.count;omega
end Go.Bm
namespace Go.Bm
open Classical
end Go.Bm
namespace Go.Bm
open Classical
theorem Zyo {α:Type} (d x:α) (l:List α):nth d (x::l) 40=nth d l 39:=by simp[nth]
theorem Zz5 {α:Type} (d x:α) (l:List α):nth d (x::l) 41=nth d l 40:=by simp[nth]
theorem Zms {α:Type} (d x:α) (l:List α):nth d (x::l) 42=nth d l 41:=by simp[nth]
theorem Zun {α:Type} (d x:α) (l:List α):nth d (x::l) 43=nth d l 42:=by simp[nth]
theorem Zgw {α:Type} (d x:α) (l:List α):nth d (x::l) 44=nth d l 43:=by simp[nth]
theorem Zsq {α:Type} (d x:α) (l:List α):nth d (x::l) 45=nth d l 44:=by simp[nth]
theorem Zuz {α:Type} (d x:α) (l:List α):nth d (x::l) 46=nth d l 45:=by simp[nth]
theorem Zud {α:Type} (d x:α) (l:List α):nth d (x::l) 47=nth d l 46:=by simp[nth]
theorem Zsc {α:Type} (d x:α) (l:List α):nth d (x::l) 48=nth d l 47:=by simp[nth]
theorem Zz4 {α:Type} (d x:α) (l:List α):nth d (x::l) 49=nth d l 48:=by simp[nth]
theorem Zpn {α:Type} (d x:α) (l:List α):nth d (x::l) 50=nth d l 49:=by simp[nth]
theorem Q9x {α:Type} (d x:α) (l:List α):nth d (x::l) 51=nth d l 50:=by simp[nth]
theorem Zty {α:Type} (d x:α) (l:List α):nth d (x::l) 52=nth d l 51:=by simp[nth]
theorem Z0d {α:Type} (d x:α) (l:List α):nth d (x::l) 53=nth d l 52:=by simp[nth]
theorem Zzh {α:Type} (d x:α) (l:List α):nth d (x::l) 54=nth d l 53:=by simp[nth]
theorem Zpr {α:Type} (d x:α) (l:List α):nth d (x::l) 55=nth d l 54:=by simp[nth]
attribute [go_sem] Zyo Zz5 Zms Zun Zgw Zsq Zuz Zud Zsc Zz4 Zpn Q9x Zty Z0d Zzh Zpr
theorem JR (a b:Int):mn a b=min a b:=by unfold mn;rw[Int.min_def];split<;>split<;>omega
theorem Np (a b:Int):mx a b=max a b:=by unfold mx;rw[Int.max_def];split<;>split<;>omega
def RC (now a b mv:Int):Int:=if b>a then mv else if b<a then-mv else now
def Eb (now a b:Pt) (mv:Int):Pt:=⟨RC now.x a.x b.x mv,RC now.y a.y b.y mv,RC now.z a.z b.z mv⟩
def slk (was dirs n v:Int):Int:=if was=dirs then v else max v n
def C2 (x:Ax3) (was dirs:Pt):Int:=slk was.z dirs.z x.c.back (slk was.y dirs.y x.b.back (slk was.x dirs.x x.a.back 0))
def pc0:Pce:=⟨0,0,0,0,⟨0,0,0⟩,⟨0,0,0⟩⟩
def Bg (l:List Pce):Pce:=l.getD (l.length-1) pc0
def FL (t:Trk) (c:Pce):Trk:=
 if t.aE≠[]/\c.move≠0/\(Bg t.aE).move=c.move/\(Bg t.aE).dirs=c.dirs then
  {t with aE:=t.aE.set (t.aE.length-1) {Bg t.aE with units:=(Bg t.aE).units+c.units},length:=t.length+c.units}
 else{t with aE:=t.aE++[{c with at_:=t.length}],length:=t.length+c.units}
def AA (l:List Sgm) (i:Nat):Int:=AF (l.take i)
def Cz (x:Ax3) (mv:Int) (a b:Pt) (s units:Int) (st:Trk×Pt):Trk×Pt:=
 (FL (if C2 x st.2 (Eb st.2 a b mv) > 0 then FL st.1 ⟨0, C2 x st.2 (Eb st.2 a b mv), s, 0, st.2, Eb st.2 a b mv⟩ else st.1)
  ⟨0,units,s,mv,Eb st.2 a b mv,Eb st.2 a b mv⟩,Eb st.2 a b mv)
def HU (p:Pth) (x:Ax3) (mv lo hi:Int) (i:Nat) (s:Trk×Pt):Trk×Pt:=
 if max (AA p.aF i) lo<min (AA p.aF (i+1)) hi then
  Cz x mv (EU p.start p.aF i) (sgA p.aF i).to (if mv<0 then min (AA p.aF (i+1)) hi else max (AA p.aF i) lo) (min (AA p.aF (i+1)) hi-max (AA p.aF i) lo) s
 else s
def EN (n:Nat) (mv:Int) (j:Nat):Nat:=if mv<0 then n-1-j else j
def CJ (p:Pth) (x:Ax3) (mv lo hi:Int) (t0:Trk×Pt):Nat->Trk×Pt
 |0=>t0
 |j+1=>HU p x mv lo hi (EN p.aF.length mv j) (CJ p x mv lo hi t0 j)
def BC (n hi:Int):Int:=max 0 (min n hi)
def Ee (p:Pth) (x:Ax3) (d:Pt) (from_ to:Int):Trk:=
 let n:=AF p.aF
 let f:=BC from_ n
 let t:=BC to n
 (CJ p x (if f>t then-1 else 1) (min f t) (max f t) (⟨[],0,f,d⟩,d) p.aF.length).1
structure Ax3OK (x : Ax3) : Prop where
 a:0<=x.a.back/\x.a.back<=1000
 b:0<=x.b.back/\x.b.back<=1000
 c:0<=x.c.back/\x.c.back<=1000
theorem R6 {x:Ax3} (h:Ax3OK x) (a b:Pt):0<=C2 x a b/\C2 x a b<=1000:=by
 obtain⟨h1,h2,h3⟩:=h;unfold C2 slk
 (repeat' split)<;>omega
structure TB (t : Trk) (n m : Int) : Prop where
 count:(t.aE.length:Int)<=n
 len:0<=t.length/\t.length<=m
 each:∀c∈t.aE,0<=c.units/\c.units<=t.length
theorem Q26 {l:List Pce} (h:l≠[]):Bg l∈l:=by
 have hp:0<l.length:=by cases l with
  |nil=>exact absurd rfl h
  |cons _ _=>simp
 have hlt:l.length-1<l.length:=by omega
 unfold Bg;rw[List.getD_eq_getElem?_getD,List.getElem?_eq_getElem hlt,Option.getD_some];exact List.getElem_mem _
theorem Qge {t:Trk} {n m:Int} (h:TB t n m) {c:Pce} {k:Int} (hc:0<=c.units/\c.units<=k):TB (FL t c) (n+1) (m+k):=by
 obtain⟨h1,h2,h3⟩:=h;unfold FL;by_cases g:t.aE≠[]/\c.move≠0/\(Bg t.aE).move=c.move/\(Bg t.aE).dirs=c.dirs
 ·rw[if_pos g];refine⟨by simp only[List.length_set];omega,by simp only;omega,?_⟩;intro q hq;rcases List.mem_or_eq_of_mem_set hq with hq|rfl
  ·have:=h3 q hq;simp only;omega
  ·have:=h3 _ (Q26 g.1);simp only;omega
 ·rw[if_neg g];refine⟨by simp only[List.length_append,List.length_cons,List.length_nil];omega,by simp only;omega,?_⟩;intro q hq;rcases List.mem_append.1 hq with hq|hq
  ·have:=h3 q hq;simp only;omega
  ·rw[List.mem_singleton]at hq;subst hq;simp only;omega
theorem Qp9 (t:Trk) (c:Pce):(FL t c).start=t.start/\(FL t c).dirs=t.dirs:=by
 unfold FL;split<;>exact⟨rfl,rfl⟩
theorem Sd (l:List Sgm):AA l 0=0:=by unfold AA;rw[List.take_zero];rfl
theorem PU {l:List Sgm} {i:Nat} (h:i<l.length):AA l (i+1)=AA l i+(sgA l i).len:=by
 unfold AA;rw[List.take_add_one,List.getElem?_eq_getElem h,Option.toList_some,ZZ,NR h]
theorem Qvh (l:List Sgm):AA l l.length=AF l:=by unfold AA;rw[List.take_length]
theorem XC {l:List Sgm} (h:SegOK l):∀i,i<=l.length->0<=AA l i/\AA l i<=i*268435456
 |0,_=>by rw[Sd];simp
 |i+1,hi=>by
  have:=XC h i (by omega);have:=h.seg _ (Hb (show i<l.length by omega));rw[PU (by omega)];omega
theorem Ztt {p:Pth} {x:Ax3} {mv lo hi:Int} {i:Nat} {s:Trk×Pt} {n m:Int} (hx:Ax3OK x) (hp:SegOK p.aF) (hi':i<p.aF.length) (h:TB s.1 n m):TB (HU p x mv lo hi i s).1 (n+2) (m+268436456):=by
 have hl:=hp.seg _ (Hb hi');have e:=PU hi';unfold HU;by_cases c:max (AA p.aF i) lo<min (AA p.aF (i+1)) hi
 ·rw[if_pos c];unfold Cz;have hs:=R6 hx s.2 (Eb s.2 (EU p.start p.aF i) (sgA p.aF i).to mv);have e1:n+2=n+1+1:=by omega
  have e2:m+268436456=m+1000+268435456:=by omega
  rw[e1,e2];refine Qge ?_ (by simp only;omega);by_cases c2:C2 x s.2 (Eb s.2 (EU p.start p.aF i) (sgA p.aF i).to mv)>0
  ·rw[if_pos c2];exact Qge h (by simp only;omega)
  ·rw[if_neg c2];exact⟨by have:=h.count;omega,by have:=h.len;omega,h.each⟩
 ·rw[if_neg c];exact⟨by have:=h.count;omega,by have:=h.len;omega,h.each⟩
theorem WO {n j:Nat} (mv:Int) (h:j<n):EN n mv j<n:=by unfold EN;split<;>omega
theorem Qk3 {p:Pth} {x:Ax3} {mv lo hi f:Int} {d:Pt} (hx:Ax3OK x) (hp:SegOK p.aF):∀j,j<=p.aF.length->TB (CJ p x mv lo hi (⟨[],0,f,d⟩,d) j).1 (j*2) (j*268436456)
 |0,_=>⟨by simp[CJ],by simp[CJ],by simp[CJ]⟩
 |j+1,hj=>by
  have h:=Ztt (mv:=mv) (lo:=lo) (hi:=hi) hx hp (WO mv (show j<p.aF.length by omega)) (Qk3 (mv:=mv) (lo:=lo) (hi:=hi) (f:=f) (d:=d) hx hp j (by omega));rw[CJ];have e1:((j+1:Nat):Int)*2=j*2+2:=by omega
  have e2:((j+1:Nat):Int)*268436456=j*268436456+268436456:=by omega
  rw[e1,e2];exact h
theorem Qsf {p:Pth} {x:Ax3} {mv lo hi:Int} {i:Nat} (s:Trk×Pt):(HU p x mv lo hi i s).1.start=s.1.start/\(HU p x mv lo hi i s).1.dirs=s.1.dirs:=by
 unfold HU;by_cases c:max (AA p.aF i) lo<min (AA p.aF (i+1)) hi
 ·rw[if_pos c];unfold Cz;simp only[Qp9];by_cases c2:C2 x s.2 (Eb s.2 (EU p.start p.aF i) (sgA p.aF i).to mv)>0
  ·rw[if_pos c2];simp only[Qp9];exact⟨trivial,trivial⟩
  ·rw[if_neg c2];exact⟨rfl,rfl⟩
 ·rw[if_neg c];exact⟨rfl,rfl⟩
end Go.Bm
namespace Go.Bm
open Classical
def DW (x:Ax3) (mv:Int) (Q:Int->Pt->Prop):Int->Int->Pt->List Pce->Prop
 |_,_,_,[]=>True
 |at_,s,d,c::l=>c.at_=at_/\c.s=s/\1<=c.units/\((c.move=mv/\c.was=c.dirs/\C2 x d c.dirs=0/\∀k,0<=k->k<c.units->Q (s+mv*k) c.dirs)\/(c.move=0/\c.was=d/\c.units=C2 x d c.dirs))/\DW x mv Q (at_+c.units) (s+c.move*c.units) c.dirs l
def CR:Int->List Pce->Int
 |a,[]=>a
 |a,c::l=>CR (a+c.units) l
def C4:Int->List Pce->Int
 |s,[]=>s
 |s,c::l=>C4 (s+c.move*c.units) l
def Ib:Pt->List Pce->Pt
 |d,[]=>d
 |_,c::l=>Ib c.dirs l
theorem RM (c:Pce):∀(a:Int) (l:List Pce),CR a (l++[c])=CR a l+c.units
 |_,[]=>rfl
 |_,k::l=>RM c _ l
theorem RK (c:Pce):∀(s:Int) (l:List Pce),C4 s (l++[c])=C4 s l+c.move*c.units
 |_,[]=>rfl
 |_,k::l=>RK c _ l
theorem R_ (c:Pce):∀(d:Pt) (l:List Pce),Ib d (l++[c])=c.dirs
 |_,[]=>rfl
 |_,k::l=>R_ c _ l
theorem TG {x:Ax3} {mv:Int} {Q:Int->Pt->Prop} {c:Pce}:∀{at_ s:Int} {d:Pt} {l:List Pce},
  DW x mv Q at_ s d (l++[c])↔DW x mv Q at_ s d l/\c.at_=CR at_ l/\c.s=C4 s l/\1<=c.units/\((c.move=mv/\c.was=c.dirs/\C2 x (Ib d l) c.dirs=0/\∀k,0<=k->k<c.units->Q (C4 s l+mv*k) c.dirs)\/(c.move=0/\c.was=Ib d l/\c.units=C2 x (Ib d l) c.dirs))
 |at_,s,d,[]=>by
  simp only[List.nil_append,DW,CR,C4,Ib,and_true,true_and]
 |at_,s,d,k::l=>by
  simp only[List.cons_append,DW,CR,C4,Ib];rw[TG];constructor
  ·rintro⟨h1,h2,h4,h5,h6,h7⟩;exact⟨⟨h1,h2,h4,h5,h6⟩,h7⟩
  ·rintro⟨⟨h1,h2,h4,h5,h6⟩,h7⟩;exact⟨h1,h2,h4,h5,h6,h7⟩
theorem Q7m {l:List Pce} (h:l≠[]) (v:Pce):l.set (l.length-1) v=l.dropLast++[v]:=by
 have e:=List.dropLast_concat_getLast h;have hl:l.length-1=l.dropLast.length:=by rw[List.length_dropLast]
 conv=>lhs;arg 1;rw[<-e]
 rw[hl,List.set_append_right _ _ (Nat.le_refl _),Nat.sub_self];rfl
theorem Zc5 {l:List Pce} (h:l≠[]):l.dropLast++[Bg l]=l:=by
 have e:=List.dropLast_concat_getLast h;have hp:0<l.length:=by
  cases l with
  |nil=>exact absurd rfl h
  |cons _ _=>simp
 have hlt:l.length-1<l.length:=by omega
 have hl:Bg l=l.getLast h:=by
  unfold Bg;rw[List.getD_eq_getElem?_getD,List.getElem?_eq_getElem hlt,Option.getD_some,List.getLast_eq_getElem]
 rw[hl];exact e
structure TC (x : Ax3) (mv : Int) (Q : Int -> Pt -> Prop) (t : Trk) (s : Int) (d : Pt) : Prop where
 ch:DW x mv Q 0 t.start t.dirs t.aE
 len:CR 0 t.aE=t.length
 s:C4 t.start t.aE=s
 d:Ib t.dirs t.aE=d
theorem ZG {x:Ax3} {mv:Int} {Q:Int->Pt->Prop} {t:Trk} {s:Int} {d:Pt} (hm:mv≠0) (h:TC x mv Q t s d) {c:Pce} (hs:c.s=s) (hu:1<=c.units)
  (hc:(c.move=mv/\c.was=c.dirs/\C2 x d c.dirs=0/\∀k,0<=k->k<c.units->Q (s+mv*k) c.dirs)\/(c.move=0/\c.was=d/\c.units=C2 x d c.dirs)):TC x mv Q (FL t c) (s+c.move*c.units) c.dirs:=by
 obtain⟨h1,h2,h3,h4⟩:=h;unfold FL;by_cases g:t.aE≠[]/\c.move≠0/\(Bg t.aE).move=c.move/\(Bg t.aE).dirs=c.dirs
 ·rw[if_pos g];obtain⟨g1,g2,g3,g4⟩:=g;have e:=Zc5 g1;rw[Q7m g1];rw[<-e]at h1 h2 h3 h4;rw[TG]at h1;rw[RM]at h2;rw[RK]at h3;rw[R_]at h4;generalize t.aE.dropLast=I at*;generalize Bg t.aE=L at*;obtain⟨k0,k1,k2,k4,k5⟩:=h1
  replace hc:=hc.resolve_right fun h=>g2 h.1
  replace k5:=k5.resolve_right fun h=>g2 (g3▸h.1)
  obtain⟨c1,c2,-,c3⟩:=hc;obtain⟨q1,q2,q4,q3⟩:=k5;refine⟨?_,?_,?_,?_⟩
  ·show DW x mv Q 0 t.start t.dirs (I++[_]);rw[TG];refine⟨k0,k1,k2,by simp only;omega, .inl ⟨q1,q2,q4,?_⟩⟩;intro k hk0 hk1;simp only at hk1;by_cases hlt:k<L.units
   ·exact q3 k hk0 hlt
   ·have:=c3 (k-L.units) (by omega) (by omega);rw[<-h3,q1,<-g4]at this;have ea:C4 t.start I+mv*L.units+mv*(k-L.units)=C4 t.start I+mv*k:=by rw[Int.mul_sub];omega
    rw[ea]at this;exact this
  ·show CR 0 (I++[_])=t.length+c.units;rw[RM];simp only;omega
  ·show C4 t.start (I++[_])=s+c.move*c.units;rw[RK];simp only;rw[g3]at h3⊢;rw[Int.mul_add];omega
  ·show Ib t.dirs (I++[_])=c.dirs;rw[R_];exact g4
 ·rw[if_neg g];refine⟨?_,?_,?_,?_⟩
  ·show DW x mv Q 0 t.start t.dirs (t.aE++[_]);rw[TG];refine⟨h1,h2.symm,by rw[h3];exact hs,hu,?_⟩;rw[h3,h4];exact hc
  ·show CR 0 (t.aE++[_])=t.length+c.units;rw[RM,h2]
  ·show C4 t.start (t.aE++[_])=s+c.move*c.units;rw[RK,h3]
  ·show Ib t.dirs (t.aE++[_])=c.dirs;rw[R_]
theorem Zkh (x:Ax3) (d:Pt):C2 x d d=0:=by unfold C2 slk;simp
theorem Qzu {x:Ax3} {mv:Int} {Q:Int->Pt->Prop} {t:Trk} {s units:Int} {d a b:Pt} (hm:mv≠0) (hx:∀w d,0<=C2 x w d) (h:TC x mv Q t s d) (hu:1<=units) (hQ:∀k,0<=k->k<units->Q (s+mv*k) (Eb d a b mv)):
  TC x mv Q (Cz x mv a b s units (t,d)).1 (s+mv*units) (Eb d a b mv):=by
 unfold Cz;simp only;generalize Eb d a b mv=nx at*;by_cases c:C2 x d nx>0
 ·rw[if_pos c];have h1:=ZG hm h (c:=⟨0,C2 x d nx,s,0,d,nx⟩) rfl (by simp only;omega) (.inr ⟨rfl,rfl,rfl⟩);simp only[Int.zero_mul,Int.add_zero]at h1;exact ZG hm h1 (c:=⟨0,units,s,mv,nx,nx⟩) rfl hu (.inl ⟨rfl,rfl,Zkh x nx,hQ⟩)
 ·rw[if_neg c];have:=hx d nx;exact ZG hm h (c:=⟨0,units,s,mv,nx,nx⟩) rfl hu (.inl ⟨rfl,rfl,by simp only;omega,hQ⟩)
def JB (l:List Sgm) (mv lo hi:Int) (j:Nat):Int:=if mv<0 then min (max (AA l (l.length-j)) lo) hi else min (max (AA l j) lo) hi
def Q6d (p:Pth) (mv:Int) (Q:Int->Pt->Prop):Prop:=∀i,i<p.aF.length->∀(d:Pt) (s:Int),AA p.aF i<=s->s<=AA p.aF (i+1)->AA p.aF i<=s+mv->s+mv<=AA p.aF (i+1)->Q s (Eb d (EU p.start p.aF i) (sgA p.aF i).to mv)
theorem Qoi {p:Pth} {x:Ax3} {mv lo hi f:Int} {d:Pt} {Q:Int->Pt->Prop} (hv:mv=1\/mv= -1) (hx:Ax3OK x) (hp:SegOK p.aF) (hlo:0<=lo/\lo<=hi/\hi<=AF p.aF) (hf:(mv=1/\f=lo)\/(mv= -1/\f=hi)) (hQ:Q6d p mv Q):
  ∀j,j<=p.aF.length->TC x mv Q (CJ p x mv lo hi (⟨[],0,f,d⟩,d) j).1 (JB p.aF mv lo hi j) (CJ p x mv lo hi (⟨[],0,f,d⟩,d) j).2
 |0,_=>by
  have hs:JB p.aF mv lo hi 0=f:=by
   unfold JB;have:=Qvh p.aF;rcases hf with⟨rfl,rfl⟩|⟨rfl,rfl⟩
   ·rw[if_neg (by omega),Sd];omega
   ·rw[if_pos (by omega),Nat.sub_zero,this];omega
  rw[hs];exact⟨trivial,rfl,rfl,rfl⟩
 |j+1,hj=>by
  have ih:=Qoi hv hx hp hlo hf hQ (f:=f) (d:=d) j (by omega);have hil:=WO mv (show j<p.aF.length by omega);have hg:=hp.seg _ (Hb hil);have hsucc:=PU hil;have hq:=hQ _ hil;rw[CJ];unfold HU;have hcase:(mv=1/\EN p.aF.length mv j=j)\/(mv= -1/\EN p.aF.length mv j=p.aF.length-1-j):=by
   unfold EN;rcases hv with rfl|rfl
   ·exact .inl ⟨rfl,if_neg (by omega)⟩
   ·exact .inr ⟨rfl,if_pos (by omega)⟩
  have hway:JB p.aF mv lo hi j=(if mv<0 then min (max (AA p.aF (EN p.aF.length mv j+1)) lo) hi else min (max (AA p.aF (EN p.aF.length mv j)) lo) hi)/\
    JB p.aF mv lo hi (j+1)=(if mv<0 then min (max (AA p.aF (EN p.aF.length mv j)) lo) hi else min (max (AA p.aF (EN p.aF.length mv j+1)) lo) hi):=by
   unfold JB;rcases hcase with⟨rfl,e⟩|⟨rfl,e⟩
   ·rw[e,if_neg (by omega),if_neg (by omega),if_neg (by omega),if_neg (by omega)];exact⟨rfl,rfl⟩
   ·rw[e,if_pos (by omega),if_pos (by omega),if_pos (by omega),if_pos (by omega),show p.aF.length-1-j+1=p.aF.length-j by omega,show p.aF.length-(j+1)=p.aF.length-1-j by omega];exact⟨rfl,rfl⟩
  rw[hway.1]at ih;rw[hway.2];generalize EN p.aF.length mv j=i at*;generalize CJ p x mv lo hi (⟨[],0,f,d⟩,d) j=w at*;obtain⟨t,dn⟩:=w;simp only at ih⊢;by_cases c:max (AA p.aF i) lo<min (AA p.aF (i+1)) hi
  ·rw[if_pos c];rcases hcase with⟨rfl,-⟩|⟨rfl,-⟩
   ·rw[if_neg (by omega)]at ih⊢;rw[if_neg (by omega)];have e1:min (max (AA p.aF i) lo) hi=max (AA p.aF i) lo:=by omega
    rw[e1]at ih;have:=Qzu (a:=EU p.start p.aF i) (b:=(sgA p.aF i).to) (units:=min (AA p.aF (i+1)) hi-max (AA p.aF i) lo) (by omega) (fun w d=>(R6 hx w d).1) ih (by omega) (fun k h0 h1=>hq dn _ (by omega) (by omega) (by omega) (by omega));have e2:max (AA p.aF i) lo+1*(min (AA p.aF (i+1)) hi-max (AA p.aF i) lo)=min (max (AA p.aF (i+1)) lo) hi:=by omega
    rw[e2]at this;exact this
   ·rw[if_pos (by omega)]at ih⊢;rw[if_pos (by omega)];have e1:min (max (AA p.aF (i+1)) lo) hi=min (AA p.aF (i+1)) hi:=by omega
    rw[e1]at ih;have:=Qzu (a:=EU p.start p.aF i) (b:=(sgA p.aF i).to) (units:=min (AA p.aF (i+1)) hi-max (AA p.aF i) lo) (by omega) (fun w d=>(R6 hx w d).1) ih (by omega) (fun k h0 h1=>hq dn _ (by omega) (by omega) (by omega) (by omega));have e2:min (AA p.aF (i+1)) hi+ -1*(min (AA p.aF (i+1)) hi-max (AA p.aF i) lo)=min (max (AA p.aF i) lo) hi:=by omega
    rw[e2]at this;exact this
  ·rw[if_neg c];have e:(if mv<0 then min (max (AA p.aF (i+1)) lo) hi else min (max (AA p.aF i) lo) hi)=(if mv<0 then min (max (AA p.aF i) lo) hi else min (max (AA p.aF (i+1)) lo) hi):=by
    split<;>omega
   rw[<-e];exact ih
end Go.Bm
namespace Go.Bm
open Classical
theorem Zk1 {l:List Pce} (h:l≠[]):nth [] (l.map AL) (l.length-1)=AL (Bg l):=by
 have hp:0<l.length:=by cases l with
  |nil=>exact absurd rfl h
  |cons _ _=>simp
 unfold Bg;have hlt:l.length-1<l.length:=by omega
 rw[I1 _ _ _ _ hlt,List.getD_eq_getElem?_getD,List.getElem?_eq_getElem hlt,Option.getD_some]
theorem Qtq {a b:Pt}:a=b↔a.x=b.x/\a.y=b.y/\a.z=b.z:=Ei
theorem Zif {t:Trk} {c:Pce} {n m k:Int} (h:TB t n m) (hn:n<=10000000) (hm:m<=1000000000000000000) (hk:k<=1000000000000000000) (hc:0<=c.units/\c.units<=k):
  Qhg [.view As (t.aE.map AL),I c.at_,I c.units,I c.s,I c.move,I c.was.x,I c.was.y,I c.was.z,I c.dirs.x,I c.dirs.y,I c.dirs.z,I t.length,I t.start,I t.dirs.x,I t.dirs.y,I t.dirs.z]=some (Bo (FL t c)):=by
 obtain⟨h1,h2,h3⟩:=h;have hw:wrap .i64 (t.length+c.units)=t.length+c.units:=Ae (by omega);have hble:((t.aE.map AL++[[I t.length,I c.units,I c.s,I c.move,I c.was.x,I c.was.y,I c.was.z,I c.dirs.x,I c.dirs.y,I c.dirs.z]]).length*80).ble 140737488355328=true:=by
  rw[Nat.ble_eq,List.length_append,List.length_map];simp only[List.length_cons,List.length_nil];omega
 have hble':(t.aE.map AL++[[I t.length,I c.units,I c.s,I c.move,I c.was.x,I c.was.y,I c.was.z,I c.dirs.x,I c.dirs.y,I c.dirs.z]]).length*80<=140737488355328:=Nat.le_of_ble_eq_true hble;have happ:some [AC.view As (t.aE.map AL++[[I t.length,I c.units,I c.s,I c.move,I c.was.x,I c.was.y,I c.was.z,I c.dirs.x,I c.dirs.y,I c.dirs.z]]),I (t.length+c.units),I t.start,I t.dirs.x,I t.dirs.y,I t.dirs.z]=
   some (Bo {t with aE:=t.aE++[{c with at_:=t.length}],length:=t.length+c.units}):=by
  simp only[Bo,List.map_append,List.map_cons,List.map_nil]
 by_cases c1:t.aE=[]
 ·have hg: ¬(t.aE≠[]/\c.move≠0/\(Bg t.aE).move=c.move/\(Bg t.aE).dirs=c.dirs):=fun g=>g.1 c1;unfold FL;rw[if_neg hg,<-happ];rw[Qz8,List.length_map,AX (by rw[c1];simp),Bu hble,hw]
 ·have hp:0<t.aE.length:=by
   cases hh:t.aE with
   |nil=>exact absurd hh c1
   |cons _ _=>simp
  have e1:wrap .i64 ((t.aE.length:Int)-1)=((t.aE.length-1:Nat):Int):=by rw[Ae (by omega)];omega
  have hin:(0:Int)<=((t.aE.length-1:Nat):Int)/\((t.aE.length-1:Nat):Int)<(t.aE.length:Int):=by omega
  have hl:=h3 _ (Q26 c1);have hw2:wrap .i64 ((Bg t.aE).units+c.units)=(Bg t.aE).units+c.units:=Ae (by omega);have hset:some [AC.view As ((t.aE.map AL).set (t.aE.length-1) [I (Bg t.aE).at_,I ((Bg t.aE).units+c.units),I (Bg t.aE).s,I (Bg t.aE).move,I (Bg t.aE).was.x,I (Bg t.aE).was.y,I (Bg t.aE).was.z,I (Bg t.aE).dirs.x,I (Bg t.aE).dirs.y,I (Bg t.aE).dirs.z]),I (t.length+c.units),I t.start,I t.dirs.x,I t.dirs.y,I t.dirs.z]=
   some (Bo {t with aE:=t.aE.set (t.aE.length-1) {Bg t.aE with units:=(Bg t.aE).units+c.units},length:=t.length+c.units}):=by
   simp only[Bo,List.map_set]
  have hr:=Zk1 c1;have main : ∀ R, R = (if c.move ≠ 0 then if (Bg t.aE).move = c.move then if (Bg t.aE).dirs.x = c.dirs.x /\ (Bg t.aE).dirs.y = c.dirs.y /\ (Bg t.aE).dirs.z = c.dirs.z then
    some (Bo {t with aE:=t.aE.set (t.aE.length-1) {Bg t.aE with units:=(Bg t.aE).units+c.units},length:=t.length+c.units})
    else some (Bo {t with aE:=t.aE++[{c with at_:=t.length}],length:=t.length+c.units})else some (Bo {t with aE:=t.aE++[{c with at_:=t.length}],length:=t.length+c.units})else some (Bo {t with aE:=t.aE++[{c with at_:=t.length}],length:=t.length+c.units}))->R=some (Bo (FL t c)):=by
   intro R hR;rw[hR];unfold FL;by_cases g1:c.move≠0
   ·by_cases g2:(Bg t.aE).move=c.move
    ·by_cases g3:(Bg t.aE).dirs.x=c.dirs.x/\(Bg t.aE).dirs.y=c.dirs.y/\(Bg t.aE).dirs.z=c.dirs.z
     ·rw[if_pos g1,if_pos g2,if_pos g3,if_pos ⟨c1,g1,g2,Qtq.2 g3⟩]
     ·rw[if_pos g1,if_pos g2,if_neg g3,if_neg fun g=>g3 (Qtq.1 g.2.2.2)]
    ·rw[if_pos g1,if_neg g2,if_neg fun g=>g2 g.2.2.1]
   ·rw[if_neg g1,if_neg fun g=>g1 g.2.1]
  refine main _ ?_;rw[<-happ,<-hset];rw[Qz8,List.length_map,e1,Int.toNat_natCast,hr];simp only[go_sem,hw,hw2,if_pos hin,if_pos hble'];rw[if_pos (by omega)];simp only[and_true]
theorem Zoz (x:Ax3) (w d:Pt):N0 (AO x++[I w.x,I w.y,I w.z,I d.x,I d.y,I d.z])=some [I (C2 x w d)]:=by
 have he:=Ztv x.a.step x.a.speed x.a.accel x.a.jerk x.a.low x.a.high x.a.back x.a.origin x.a.spacing (x.a.pitch.map Ao) x.b.step x.b.speed x.b.accel x.b.jerk x.b.low x.b.high x.b.back x.b.origin x.b.spacing (x.b.pitch.map Ao) x.c.step x.c.speed x.c.accel x.c.jerk x.c.low x.c.high x.c.back x.c.origin x.c.spacing (x.c.pitch.map Ao) w.x w.y w.z d.x d.y d.z;unfold N0;refine Eq.trans he ?_;unfold C2 slk;simp only[go_sem,Np]
 (repeat' split)<;>first|rfl|(exfalso;omega)
theorem Zhj (n a b:Pt) {mv:Int} (hm:mv=1\/mv= -1):Ow [I n.x,I n.y,I n.z,I a.x,I a.y,I a.z,I b.x,I b.y,I b.z,I mv]=some (ptR (Eb n a b mv)):=by
 unfold Ow;rw[Zvt];have e:wrap .i64 (0-mv)= -mv:=by rw[Ae (by omega)];omega
 unfold Eb RC;simp only[go_sem,e]
 (repeat' split)<;>first|rfl|(exfalso;omega)
theorem Qh5 {n hi:Int}:G5 [I n,I hi]=some [I (BC n hi)]:=by
 unfold G5;rw[Q9a];simp only[JR,Np];rfl
theorem Ze9 {MU MT MA:Fn} {x:Ax3} {mv:Int} {a b:Pt} {s units:Int} {t:Trk} {now:Pt} {n m k:Int} (hx:Ax3OK x) (h:TB t n m) (hn:n<=9000000) (hm:m<=900000000000000000) (hk:k<=900000000000000000) (hu:0<=units/\units<=k)
  (hT:MT [I now.x,I now.y,I now.z,I a.x,I a.y,I a.z,I b.x,I b.y,I b.z,I mv]=some (ptR (Eb now a b mv))) (hU:∀w d:Pt,MU (AO x++[I w.x,I w.y,I w.z,I d.x,I d.y,I d.z])=some [I (C2 x w d)])
  (hA : ∀ {t : Trk} {c : Pce} {n m k : Int}, TB t n m -> n <= 10000000 -> m <= 1000000000000000000 -> k <= 1000000000000000000 -> (0 <= c.units /\ c.units <= k) ->
   MA [.view As (t.aE.map AL),I c.at_,I c.units,I c.s,I c.move,I c.was.x,I c.was.y,I c.was.z,I c.dirs.x,I c.dirs.y,I c.dirs.z,I t.length,I t.start,I t.dirs.x,I t.dirs.y,I t.dirs.z]=some (Bo (FL t c))):
  Qnr MU MT MA (.view As (t.aE.map AL)::I a.x::I a.y::I a.z::I b.x::I b.y::I b.z::I s::I units::I now.x::I now.y::I now.z::I mv::(AO x++[I t.length,I t.start,I t.dirs.x,I t.dirs.y,I t.dirs.z]))=
   some (.view As ((Cz x mv a b s units (t, now)).1.aE.map AL) :: I (Cz x mv a b s units (t, now)).2.x :: I (Cz x mv a b s units (t, now)).2.y :: I (Cz x mv a b s units (t, now)).2.z :: I mv :: (AO x ++
    [I (Cz x mv a b s units (t,now)).1.length,I (Cz x mv a b s units (t,now)).1.start,I (Cz x mv a b s units (t,now)).1.dirs.x,I (Cz x mv a b s units (t,now)).1.dirs.y,I (Cz x mv a b s units (t,now)).1.dirs.z])):=by
 have he:=Zfo MU MT MA (t.aE.map AL) a.x a.y a.z b.x b.y b.z s units now.x now.y now.z mv x.a.step x.a.speed x.a.accel x.a.jerk x.a.low x.a.high x.a.back x.a.origin x.a.spacing (x.a.pitch.map Ao) x.b.step x.b.speed x.b.accel x.b.jerk x.b.low x.b.high x.b.back x.b.origin x.b.spacing (x.b.pitch.map Ao) x.c.step x.c.speed x.c.accel x.c.jerk x.c.low x.c.high x.c.back x.c.origin x.c.spacing (x.c.pitch.map Ao) t.length t.start t.dirs.x t.dirs.y t.dirs.z;refine Eq.trans he ?_;have hs:=R6 hx now (Eb now a b mv);have hU':=hU now (Eb now a b mv);simp only[AO,List.cons_append,List.nil_append]at hU'⊢;unfold Cz;simp only;generalize Eb now a b mv=nx at*;simp only[hT,go_sem,hU'];by_cases c:C2 x now nx>0
 ·have h1:=hA (c:=⟨0,C2 x now nx,s,0,now,nx⟩) h (by omega) (by omega) (k:=1000) (by omega) (by simp only;omega);have hb:=Qge (k:=1000) h (c:=⟨0,C2 x now nx,s,0,now,nx⟩) (by simp only;omega);have h2:=hA (c:=⟨0,units,s,mv,nx,nx⟩) hb (by omega) (by omega) (k:=k) (by omega) hu;simp only at h1 h2;rw[if_pos c,if_pos c];simp only[h1,Bo,go_sem,h2]
 ·have h2:=hA (c:=⟨0,units,s,mv,nx,nx⟩) h (by omega) (by omega) (k:=k) (by omega) hu;simp only at h2;rw[if_neg c,if_neg c];simp only[h2,Bo,go_sem]
theorem Znt {x:Ax3} {mv:Int} {a b:Pt} {s units:Int} {t:Trk} {now:Pt} {n m k:Int} (hv:mv=1\/mv= -1) (hx:Ax3OK x) (h:TB t n m) (hn:n<=9000000) (hm:m<=900000000000000000) (hk:k<=900000000000000000) (hu:0<=units/\units<=k):
  FA (.view As (t.aE.map AL)::I a.x::I a.y::I a.z::I b.x::I b.y::I b.z::I s::I units::I now.x::I now.y::I now.z::I mv::(AO x++[I t.length,I t.start,I t.dirs.x,I t.dirs.y,I t.dirs.z]))=
   some (.view As ((Cz x mv a b s units (t, now)).1.aE.map AL) :: I (Cz x mv a b s units (t, now)).2.x :: I (Cz x mv a b s units (t, now)).2.y :: I (Cz x mv a b s units (t, now)).2.z :: I mv :: (AO x ++
    [I (Cz x mv a b s units (t,now)).1.length,I (Cz x mv a b s units (t,now)).1.start,I (Cz x mv a b s units (t,now)).1.dirs.x,I (Cz x mv a b s units (t,now)).1.dirs.y,I (Cz x mv a b s units (t,now)).1.dirs.z])):=
 Ze9 hx h hn hm hk hu (Zhj now a b hv) (Zoz x) fun h1 h2 h3 h4 h5=>Zif h1 h2 h3 h4 h5
end Go.Bm
namespace Go.Bm
open Classical
end Go.Bm
namespace Go.Bm
open Classical
def Fa (l:List Sgm) (j:Nat):Rw:=(List.range j).map fun i=>[I (AA l i)]
theorem Sh (l:List Sgm) (j:Nat):(Fa l j).length=j:=by simp[Fa]
theorem Zs2 (l:List Sgm) (j:Nat):Fa l (j+1)=Fa l j++[[I (AA l j)]]:=by unfold Fa;rw[List.range_succ,List.map_append];rfl
theorem Z05 {l:List Sgm} {n i:Nat} (h:i<n):nth [] (Fa l n) i=[I (AA l i)]:=by
 have hlt:i<(Fa l n).length:=by rw[Sh];exact h
 rw[G3 [] _ i hlt];simp[Fa]
abbrev Qk (p:Pth) (x:Ax3) (lo hi mv:Int) (t:Trk) (now:Pt) (at_:Int) (bl:Rw) (j:Nat):List AC:=
 [.view Aa bl, .view As (t.aE.map AL),I lo,I hi,I mv,I at_, .view Ag (p.aF.map Ay),I p.aF.length,I j,I p.start.x,I p.start.y,I p.start.z, .view Ag (p.aF.map Ay), .view AE (p.aD.map At),I now.x,I now.y,I now.z,I mv,I x.a.step,I x.a.speed,I x.a.accel,I x.a.jerk,I x.a.low,I x.a.high,I x.a.back,I x.a.origin,I x.a.spacing, .view Aa (x.a.pitch.map Ao),I x.b.step,I x.b.speed,I x.b.accel,I x.b.jerk,I x.b.low,I x.b.high,I x.b.back,I x.b.origin,I x.b.spacing, .view Aa (x.b.pitch.map Ao),I x.c.step,I x.c.speed,I x.c.accel,I x.c.jerk,I x.c.low,I x.c.high,I x.c.back,I x.c.origin,I x.c.spacing, .view Aa (x.c.pitch.map Ao),I t.length,I t.start,I t.dirs.x,I t.dirs.y,I t.dirs.z]
theorem Qs4 {M:Fn} {p:Pth} {x:Ax3} {lo hi mv:Int} {t:Trk} {now:Pt} (h:SegOK p.aF):∀(k j:Nat),j+k=p.aF.length->
  Am (So M) (Qk p x lo hi mv t now (AA p.aF j) (Fa p.aF j) j)=some (1,[.view Aa (Fa p.aF p.aF.length), .view As (t.aE.map AL),I lo,I hi,I mv,I p.start.x,I p.start.y,I p.start.z, .view Ag (p.aF.map Ay), .view AE (p.aD.map At),I now.x,I now.y,I now.z,I mv,I x.a.step,I x.a.speed,I x.a.accel,I x.a.jerk,I x.a.low,I x.a.high,I x.a.back,I x.a.origin,I x.a.spacing, .view Aa (x.a.pitch.map Ao),I x.b.step,I x.b.speed,I x.b.accel,I x.b.jerk,I x.b.low,I x.b.high,I x.b.back,I x.b.origin,I x.b.spacing, .view Aa (x.b.pitch.map Ao),I x.c.step,I x.c.speed,I x.c.accel,I x.c.jerk,I x.c.low,I x.c.high,I x.c.back,I x.c.origin,I x.c.spacing, .view Aa (x.c.pitch.map Ao),I t.length,I t.start,I t.dirs.x,I t.dirs.y,I t.dirs.z])
 |0,j,hj=>by
  have hj':j=p.aF.length:=by omega
  refine Bb (o:=(1,_)) ?_ (by simp);rw[Qse,AX (by omega),hj']
 |k+1,j,hj=>by
  have hlt:j<p.aF.length:=by omega
  have hcnt:=h.count;have hpos:=XC h j (by omega);have hg:=h.seg _ (Hb hlt);have hst:So M (Qk p x lo hi mv t now (AA p.aF j) (Fa p.aF j) j)=some (0,Qk p x lo hi mv t now (AA p.aF (j+1)) (Fa p.aF (j+1)) (j+1)):=by
   have hle:(Fa p.aF j++[[I (AA p.aF j)]]).length*8<=140737488355328:=by rw[List.length_append,Sh];simp only[List.length_cons,List.length_nil];omega
   have e1:wrap .i64 ((j:Int)+1)=((j+1:Nat):Int):=by rw[Ae (by omega)];omega
   rw[Qse];simp only[go_sem,List.length_map,Int.toNat_natCast,Ls hlt,if_pos hle,e1,Zs2];rw[if_pos (by omega),if_pos (by omega),Ae (x:=AA p.aF j+(sgA p.aF j).len) (by omega),PU hlt]
  rw[Bw hst];exact Qs4 h k (j+1) (by omega)
abbrev PK (p:Pth) (x:Ax3) (lo hi mv:Int) (t:Trk) (now:Pt) (j:Nat):List AC:=
 [.view Aa (Fa p.aF p.aF.length), .view As (t.aE.map AL),I lo,I hi,I mv,I p.aF.length,I j,I p.start.x,I p.start.y,I p.start.z, .view Ag (p.aF.map Ay), .view AE (p.aD.map At),I now.x,I now.y,I now.z,I mv,I x.a.step,I x.a.speed,I x.a.accel,I x.a.jerk,I x.a.low,I x.a.high,I x.a.back,I x.a.origin,I x.a.spacing, .view Aa (x.a.pitch.map Ao),I x.b.step,I x.b.speed,I x.b.accel,I x.b.jerk,I x.b.low,I x.b.high,I x.b.back,I x.b.origin,I x.b.spacing, .view Aa (x.b.pitch.map Ao),I x.c.step,I x.c.speed,I x.c.accel,I x.c.jerk,I x.c.low,I x.c.high,I x.c.back,I x.c.origin,I x.c.spacing, .view Aa (x.c.pitch.map Ao),I t.length,I t.start,I t.dirs.x,I t.dirs.y,I t.dirs.z]
abbrev Fqs (x:Ax3) (mv:Int) (t:Trk) (now:Pt):List AC:=[.view As (t.aE.map AL),I now.x,I now.y,I now.z,I mv,I x.a.step,I x.a.speed,I x.a.accel,I x.a.jerk,I x.a.low,I x.a.high,I x.a.back,I x.a.origin,I x.a.spacing, .view Aa (x.a.pitch.map Ao),I x.b.step,I x.b.speed,I x.b.accel,I x.b.jerk,I x.b.low,I x.b.high,I x.b.back,I x.b.origin,I x.b.spacing, .view Aa (x.b.pitch.map Ao),I x.c.step,I x.c.speed,I x.c.accel,I x.c.jerk,I x.c.low,I x.c.high,I x.c.back,I x.c.origin,I x.c.spacing, .view Aa (x.c.pitch.map Ao),I t.length,I t.start,I t.dirs.x,I t.dirs.y,I t.dirs.z]
theorem Zbn {MV:Fn} {N:Lp} {p:Pth} {x:Ax3} {lo hi mv:Int} {t:Trk} {now:Pt} {n m:Int} {j:Nat} (hv:mv=1\/mv= -1) (hp:GoodPath p) (hx:Ax3OK x) (h:TB t n m) (hn:n<=9000000) (hm:m<=900000000000000000)
  (hj:j<p.aF.length)
  (hV:∀{a b:Pt} {s units:Int},(0<=units/\units<=268435456)->MV [.view As (t.aE.map AL),I a.x,I a.y,I a.z,I b.x,I b.y,I b.z,I s,I units,I now.x,I now.y,I now.z,I mv,I x.a.step,I x.a.speed,I x.a.accel,I x.a.jerk,I x.a.low,I x.a.high,I x.a.back,I x.a.origin,I x.a.spacing, .view Aa (x.a.pitch.map Ao),I x.b.step,I x.b.speed,I x.b.accel,I x.b.jerk,I x.b.low,I x.b.high,I x.b.back,I x.b.origin,I x.b.spacing, .view Aa (x.b.pitch.map Ao),I x.c.step,I x.c.speed,I x.c.accel,I x.c.jerk,I x.c.low,I x.c.high,I x.c.back,I x.c.origin,I x.c.spacing, .view Aa (x.c.pitch.map Ao),I t.length,I t.start,I t.dirs.x,I t.dirs.y,I t.dirs.z]=some (Fqs x mv (Cz x mv a b s units (t,now)).1 (Cz x mv a b s units (t,now)).2)):
  Tq MV N (PK p x lo hi mv t now j)=some (0,PK p x lo hi mv (HU p x mv lo hi (EN p.aF.length mv j) (t,now)).1 (HU p x mv lo hi (EN p.aF.length mv j) (t,now)).2 (j+1)):=by
 have hok:=hp.ok;have hcnt:=hok.count;have hil0:=WO mv hj;have hcase:(mv=1/\EN p.aF.length mv j=j)\/(mv= -1/\EN p.aF.length mv j=p.aF.length-1-j):=by
  unfold EN;rcases hv with rfl|rfl
  ·exact .inl ⟨rfl,if_neg (by omega)⟩
  ·exact .inr ⟨rfl,if_pos (by omega)⟩
 obtain⟨i,hix⟩:∃i,EN p.aF.length mv j=i:=⟨_,rfl⟩;rw[hix]at hil0 hcase⊢;have hil:i<p.aF.length:=hil0;have hg:=hok.seg _ (Hb hil);have hr:=Ls hil;have hb:=Z05 (l:=p.aF) hil;have hpos:=XC hok i (by omega);have hsucc:=PU hil;have hin:(0:Int)<=(i:Nat)/\(i:Int)<(p.aF.length:Int):=by omega
 have hin0:(j:Int)<(p.aF.length:Int):=by omega
 have e1:wrap .i64 ((j:Int)+1)=((j+1:Nat):Int):=by rw[Ae (by omega)];omega
 have hI:wrap .i64 (wrap .i64 ((p.aF.length:Int)-1)-(j:Int))=((p.aF.length-1-j:Nat):Int):=by rw[Ae (x:=(p.aF.length:Int)-1) (by omega),Ae (by omega)];omega
 have hw:wrap .i64 (AA p.aF i+(sgA p.aF i).len)=AA p.aF (i+1):=by rw[hsucc,Ae (by omega)]
 have hwd:max (AA p.aF i) lo<min (AA p.aF (i+1)) hi->wrap .i64 (min (AA p.aF (i+1)) hi-max (AA p.aF i) lo)=min (AA p.aF (i+1)) hi-max (AA p.aF i) lo:=fun _=>Ae (by omega);have hd:max (AA p.aF i) lo<min (AA p.aF (i+1)) hi->0<=min (AA p.aF (i+1)) hi-max (AA p.aF i) lo/\min (AA p.aF (i+1)) hi-max (AA p.aF i) lo<=268435456:=fun _=>by omega
 have hI1:i≠0->wrap .i64 ((i:Int)-1)=((i-1:Nat):Int)/\((0:Int)<=((i-1:Nat):Int)/\((i-1:Nat):Int)<(p.aF.length:Int))/\nth [] (p.aF.map Ay) (i-1)=Ay (sgA p.aF (i-1))/\EU p.start p.aF i=(sgA p.aF (i-1)).to:=by
  intro h0;refine⟨by rw[Ae (by omega)];omega,by omega,Ls (by omega),?_⟩;obtain⟨q,rfl⟩:∃q,i=q+1:=⟨i-1,by omega⟩;exact RI (by omega)
 unfold HU;rw[Qu8];rcases hcase with⟨rfl,rfl⟩|⟨rfl,ei⟩
 ·simp only[go_sem,List.length_map,Sh,Int.toNat_natCast,hr,hb,if_pos hin,if_pos hin0,Np,JR,hw,e1];rw[if_neg (by omega)];by_cases c:max (AA p.aF i) lo<min (AA p.aF (i+1)) hi
  ·rw[if_neg (by omega),if_pos c,hwd c];by_cases c0:i=0
   ·rw[if_neg (by omega)];have hV':=hV (a:=p.start) (b:=(sgA p.aF i).to) (s:=max (AA p.aF i) lo) (hd c);subst c0;rw[JE];rw[if_neg (by omega),hV'];simp only[Fqs,go_sem];rfl
   ·obtain⟨k1,k2,k3,k4⟩:=hI1 c0;rw[if_pos (by omega),k1];have hV':=hV (a:=(sgA p.aF (i-1)).to) (b:=(sgA p.aF i).to) (s:=max (AA p.aF i) lo) (hd c);rw[k4];simp only[Int.toNat_natCast,k3,go_sem,if_pos k2];rw[if_neg (by omega),hV'];simp only[Fqs,go_sem];rfl
  ·rw[if_pos (by omega),if_neg c]
 ·rw[<-ei]at hI;simp only[go_sem,List.length_map,Sh,hI,Int.toNat_natCast,hr,hb,if_pos hin,if_pos hin0,Np,JR,hw,e1];rw[if_pos (by omega)];by_cases c:max (AA p.aF i) lo<min (AA p.aF (i+1)) hi
  ·rw[if_neg (by omega),if_pos c,hwd c];by_cases c0:i=0
   ·rw[if_neg (by omega)];have hV':=hV (a:=p.start) (b:=(sgA p.aF i).to) (s:=min (AA p.aF (i+1)) hi) (hd c);subst c0;rw[JE];rw[if_pos (by omega),hV'];simp only[Fqs,go_sem];rfl
   ·obtain⟨k1,k2,k3,k4⟩:=hI1 c0;rw[if_pos (by omega),k1];have hV':=hV (a:=(sgA p.aF (i-1)).to) (b:=(sgA p.aF i).to) (s:=min (AA p.aF (i+1)) hi) (hd c);rw[k4];simp only[Int.toNat_natCast,k3,go_sem,if_pos k2];rw[if_pos (by omega),hV'];simp only[Fqs,go_sem];rfl
  ·rw[if_pos (by omega),if_neg c]
end Go.Bm
