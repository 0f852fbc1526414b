/- laid together -/
import Derived.Test.YtnnpdlgenmnekaaGreatDoorMx3
import Derived.Test.YtnnpdlgenmnekaaGreatDoorBmTy
set_option linter.unusedVariables false
set_option linter.defProp false
set_option linter.unusedSimpArgs false
set_option maxRecDepth 100000
open Go.IntKind (wrap)
variable {a u b k v e r:Int} {p:Go.Bm.Pth} {i A j:Nat} {t:Go.Bm.Trk} {M Z V P H G F:Go.Bm.Fn} {l:Go.Bm.Rw} {d q h:Go.Bm.Pt} {Q:Int->Go.Bm.Pt->Prop} {g:Go.Bm.Sgm} {N:Go.Bm.Lp}
namespace Go.Bm
theorem Ob {x:Int} (h:i64 x):J_ [I x]=some [U (x.natAbs:Int)]:=by
  unfold i64 at h;unfold J_;rw[Znu];by_cases D:x<0
  · rw[E0 D,Ad (x:=x+1),Ad,In (x:=0-(x+1)) (by omega),In (by omega)]
    grind
  rw[BX D,In (by omega)]
  grind
def sgn (a b:Int):Int:=if a=0 then 0 else if b=0 then 0 else if(a<0↔b<0)then 1 else-1
theorem Zs (a b:Int):Jo [I a,I b]=some [I (sgn a b)]:=by grind [Jo,Qpt,sgn]
def Hd (a b:Nat):Int:=if a<b then-1 else if a=b then 0 else 1
def IL (a b:Int):Int:=if a<b then-1 else if a=b then 0 else 1
noncomputable def w64:Nat:=Classical.choose (⟨18446744073709551616,rfl⟩:∃n:Nat,n=18446744073709551616)
theorem CK:w64=18446744073709551616:=jl (⟨18446744073709551616,rfl⟩:∃n:Nat,n=18446744073709551616)
def OV {x:Int} (h:i64 x):x.natAbs<w64:=by grind [i64,CK]
theorem Zfc {x y:Nat} (D:x<w64) (G:y<w64):JO [U x,U y]=some [U ((x*y/w64:Nat):Int),U ((x*y%w64:Nat):Int)]:=by
  rw[CK]at D G;have I:∀z:Nat,z<18446744073709551616->inU (z:Int)=true:=by
    have L:F8=18446744073709551616:=rfl;simp only[inU,ak,dx];omega
  show T6 (x:Int) (y:Int)=_;unfold T6;rw[I x D,I y G,CK];rfl
def Q6f {x y:Nat} (D:x<w64) (G:y<w64):GO [U x,U y]=some [U ((x*y/w64:Nat):Int),U ((x*y%w64:Nat):Int)]:=by
  unfold GO;rw[Zsn,Zfc D G];rfl
def Qt3 (a b c d:Nat) (hb:b<w64) (hd:d<w64):KH [U a,U b,U c,U d]=some [I (Hd (a*w64+b) (c*w64+d))]:=by
  unfold KH;rw[Zta];unfold Hd;simp only[CK]at*
  grind
def Xt (a b:Int):sgn a b*((a.natAbs*b.natAbs:Nat):Int)=a*b:=by
  unfold sgn
  grind
theorem V4 (a b:Int):(sgn a b=0/\a*b=0)\/(sgn a b=1/\0<a*b)\/(sgn a b= -1/\a*b<0):=by
  have h:=Xt a b;by_cases D:a=0
  · grind [sgn]
  by_cases G:b=0
  · grind [sgn]
  have I:0<a.natAbs*b.natAbs:=Nat.mul_pos (by omega) (by omega)
  generalize a.natAbs*b.natAbs=p at*;unfold sgn at h⊢
  grind
theorem Yab {a b c d:Int}:(if sgn a b≠sgn c d then(if sgn a b<sgn c d then-1 else 1)else sgn a b*Hd (a.natAbs*b.natAbs) (c.natAbs*d.natAbs))=IL (a*b) (c*d):=by
  have D:=Xt a b;have G:=Xt c d;have I:=V4 a b;have L:=V4 c d;unfold IL Hd;generalize a.natAbs*b.natAbs=p at*;generalize c.natAbs*d.natAbs=q at*
  grind
def Q4s (p:Nat):p/w64*w64+p%w64=p:=by grind [w64]
def TD:0<w64:=by grind [CK]
def Zxf (p q:Nat): -1<=Hd p q/\Hd p q<=1:=by grind [Hd]
def Zs1 (a b:Int): -1<=sgn a b/\sgn a b<=1:=by grind [sgn]
def Yam (D: -1<=u/\u<=1) (G: -1<=v/\v<=1): -1<=u*v/\u*v<=1:=by
  have:u= -1\/u=0\/u=1:=by omega
  grind
def QD {x y:Nat} (G:x<w64) (I:y<w64):∃D lo:Nat,GO [U x,U y]=some [U D,U lo]/\D*w64+lo=x*y/\lo<w64:=
  ⟨_,_,Q6f G I,Q4s _,gx _ TD⟩
theorem Zn9 {a b c d:Int} (M L D N:Fn) (O V X Y:Nat)
   (ka:D [I a]=some [U a.natAbs]) (kb:D [I b]=some [U b.natAbs]) (kc:D [I c]=some [U c.natAbs]) (kd:D [I d]=some [U d.natAbs])
   (ks:∀a b,N [I a,I b]=some [I (sgn a b)])
   (e1:L [U a.natAbs,U b.natAbs]=some [U O,U V]) (f1:L [U c.natAbs,U d.natAbs]=some [U X,U Y])
   (G:M [U O,U V,U X,U Y]=some [I (Hd (a.natAbs*b.natAbs) (c.natAbs*d.natAbs))]):Qiv M L D N [I a,I b,I c,I d]=some [I (IL (a*b) (c*d))]:=by
  have hm:=Yam (Zs1 a b) (Zxf (a.natAbs*b.natAbs) (c.natAbs*d.natAbs));rw[Zn0];simp only[go_sem,ks,ka,kb,kc,kd,e1,f1,G];rw[<-Yab];rw[Ad]
  grind
def W_ {a b c d:Int} (G:i64 a) (hb:i64 b) (L:i64 c) (hd:i64 d):Ir [I a,I b,I c,I d]=some [I (IL (a*b) (c*d))]:=by
  obtain⟨M,N,e1,e2,e3⟩:=QD (OV G) (OV hb);obtain⟨O,U,X,Y,V⟩:=QD (OV L) (OV hd);have D:=Qt3 M N O U e3 V;unfold Ir
  grind [Zn9,Ob,Zs]
theorem Yap (h:2^(j+1)*i+2^j<w64):wrap .u64 (((BitVec.ofInt IntKind.u64.bits ((2^(j+1)*i:Nat):Int)|||BitVec.ofInt IntKind.u64.bits ((2^j:Nat):Int)).toNat:Nat):Int)=((2^(j+1)*i+2^j:Nat):Int):=by
 rw[CK]at h;have e:(BitVec.ofInt IntKind.u64.bits ((2^(j+1)*i:Nat):Int)|||BitVec.ofInt IntKind.u64.bits ((2^j:Nat):Int)).toNat=2^(j+1)*i+2^j:=by
  rw[BitVec.toNat_or];have e1:∀v:Nat,v<18446744073709551616->(BitVec.ofInt IntKind.u64.bits (v:Int)).toNat=v:=by
   simp only[IntKind.bits,BitVec.toNat_ofInt];omega
  have D:0<2^j:=f8 _;generalize G:2^(j+1)*i=A at*;rw[e1 _ (by omega),e1 _ (by omega),<-G];exact(Nat.two_pow_add_eq_or_of_lt (Nat.pow_lt_pow_right (by omega) (by omega)) i).symm
 grind [In]
def Qll (k:Nat):((2^(k+1):Nat):Int).fdiv (2^min (Int.toNat 1) IntKind.u64.bits)=((2^k:Nat):Int):=by
 have e:(2^min (Int.toNat 1) IntKind.u64.bits:Int)=2:=rfl
 grind
def Z1m:(1:Int).fdiv (2^min (Int.toNat 1) IntKind.u64.bits)=0:=rfl
def Qr9 (O:∀x y:Nat,x<w64->y<w64->∃hi lo:Nat,Z [U x,U y]=some [U hi,U lo]/\hi*w64+lo=x*y/\lo<w64)
  (V:∀a b c d:Nat,b<w64->d<w64->M [U a,U b,U c,U d]=some [I (Hd (a*w64+b) (c*w64+d))]) {k m hi lo:Nat} {bit:Int} (L:lo<w64) (hb:((2^k:Nat):Int).fdiv (2^min (Int.toNat 1) IntKind.u64.bits)=bit) (h:2^(k+1)*m+2^k<w64):
  Nv M Z [U ((2^(k+1)*m:Nat):Int),U ((2^k:Nat):Int),U hi,U lo]=
   some (0,[U (((if(2^(k+1)*m+2^k)*(2^(k+1)*m+2^k)<=hi*w64+lo then 2^(k+1)*m+2^k else 2^(k+1)*m):Nat):Int),U bit,U hi,U lo]):=by
 obtain⟨G,X,e1,e2,e3⟩:=O _ _ h h;have D:=V G X hi lo e3 L;rw[e2]at D;have N:0<2^k:=f8 _;rw[Zh5,Yap h,hb];simp only[go_sem,e1,D];rw[ac];generalize(2^(k+1)*m+2^k)*(2^(k+1)*m+2^k)=q at*;unfold Hd;by_cases G:q<hi*w64+lo
 ·rw[ac G,ac,ac]
 rw[ab G];by_cases Y:q=hi*w64+lo
 ·simp_all
 rw[ab Y,ab,ab]
def Qb7 {N O:Fn} (L:∀x y:Nat,x<w64->y<w64->∃hi lo:Nat,O [U x,U y]=some [U hi,U lo]/\hi*w64+lo=x*y/\lo<w64)
  (M:∀a b c d:Nat,b<w64->d<w64->N [U a,U b,U c,U d]=some [I (Hd (a*w64+b) (c*w64+d))]) {hi lo:Nat} (D:lo<w64):∀(k m:Nat),2^(k+1)*m+2^(k+1)<=w64->
  (2^(k+1)*m)*(2^(k+1)*m)<=hi*w64+lo->hi*w64+lo<(2^(k+1)*m+2^(k+1))*(2^(k+1)*m+2^(k+1))->
  ∃r:Nat,Ak (Nv N O) [U ((2^(k+1)*m:Nat):Int),U ((2^k:Nat):Int),U hi,U lo]=some (1,[U r])/\r*r<=hi*w64+lo/\hi*w64+lo<(r+1)*(r+1)/\r<w64
 |0,m,hw,V,h2=>by
  have X:=Qr9 L M (k:=0) (m:=m) (hi:=hi) (bit:=0) D Z1m (by omega);rw[Bw X];have Y:∀r:Nat,Ak (Nv N O) [U (r:Int),U 0,U hi,U lo]=some (1,[U r]):=by
   intro r;refine Bc ?_ (by simp);rw[Zh5];simp only[go_sem];rw[ab]
  grind
 |k+1,m,hw,V,h2=>by
  have e1:2^(k+1+1)*m=2^(k+1)*(2*m):=by rw[Nat.pow_succ 2 (k+1),jb]
  have e2:2^(k+1+1)*m+2^(k+1)=2^(k+1)*(2*m+1):=by rw[e1,Nat.mul_add,Nat.mul_one]
  have a0:0<2^(k+1):=f8 _;have X:=Qr9 L M (k:=k+1) (m:=m) (hi:=hi) D (Qll k) (by omega);rw[Bw X];by_cases h:(2^(k+1+1)*m+2^(k+1))*(2^(k+1+1)*m+2^(k+1))<=hi*w64+lo
  ·rw[ac h,e2];rw[e2]at h;refine Qb7 L M D k (2*m+1) ?_ h ?_
   ·omega
   grind
  rw[ab h];have h3:hi*w64+lo<(2^(k+1+1)*m+2^(k+1))*(2^(k+1+1)*m+2^(k+1)):=by omega
  have G:2^(k+1+1)*m+2^(k+1)<=w64:=by omega
  rw[e1]at V h3 G⊢;exact Qb7 L M D k (2*m) G V h3
def Z24 (V:∀x y:Nat,x<w64->y<w64->∃D lo:Nat,Z [U x,U y]=some [U D,U lo]/\D*w64+lo=x*y/\lo<w64)
  (X:∀a b c d:Nat,b<w64->d<w64->M [U a,U b,U c,U d]=some [I (Hd (a*w64+b) (c*w64+d))]) {D lo:Nat} (G:D<w64) (L:lo<w64):
  ∃r:Nat,Qbr M Z (Ak (Nv M Z)) [U D,U lo]=some [U r]/\r*r<=D*w64+lo/\D*w64+lo<(r+1)*(r+1)/\r<w64:=by
 have hb:D*w64+lo<w64*w64:=by
  have:D*w64+w64<=w64*w64:=by rw[<-Nat.succ_mul];exact db _ G
  omega
 obtain⟨r,Y,h2,h3,h4⟩:=Qb7 V X L 63 0 (by grind [CK]) (by simp) (by rw[Nat.mul_zero,fw,show 2^(63+1)=w64 by rw[CK]];exact hb);refine⟨r,?_,h2,h3,h4⟩;generalize Ak (Nv M Z)=N at*;have O:N [AC.int IntKind.u64 0,AC.int IntKind.u64 9223372036854775808,AC.int IntKind.u64 D,AC.int IntKind.u64 lo]=some (1,[U r]):=Y;rw[Yb2,O];rfl
def Zne (D:i<w64) (G:A<w64):∃r:Nat,OC [U i,U A]=some [U r]/\r*r<=i*w64+A/\i*w64+A<(r+1)*(r+1)/\r<w64:=
 Z24 (λ_ _ I L=>QD I L) Qt3 D G
def Qdt {n:Nat} (h:n<9223372036854775808):G9 [U n,B false]=some [I n,B true]:=by
 unfold G9;rw[Qja];simp only[go_sem];rw[ab (by simp),ac (by simp),ac,Ad]
def Zzp {x y b:Nat} (I:x<w64) (L:y<w64) (hb:b=0\/b=1):Le [U x,U y,U b]=some [U (((x:Int)-y-b)%F8),U (if x<y+b then 1 else 0)]:=by
 rw[CK]at I L;have D:F8=18446744073709551616:=rfl;have M:∀z:Nat,z<18446744073709551616->inU (z:Int)=true:=by
  intro z N;simp only[inU,D,ak,dx];omega
 have G:(decide ((b:Int)=0)||decide ((b:Int)=1))=true:=by
  rcases hb with rfl|rfl<;>simp
 unfold Le;simp only[Iu,Cx,Cx,Id,gA,jA,wA,bA];rw[M x I,M y L,G]
 grind
def Q4g {x y:Nat} (D:x<w64) (G:y<=x):Le [U x,U y,U 0]=some [U ((x-y:Nat):Int),U 0]:=by
 have:=Zzp (y:=y) D (by omega) (.inl rfl);have I:F8=18446744073709551616:=rfl;rw[CK]at D
 grind
def Z02 {n r:Nat} (hn:n<9223372036854775807) (O:r*r<=n) (X:P [U 0,U n]=some [U r]) (Y:V [U r,U r]=some [U 0,U ((r*r:Nat):Int)]) (D:Z [U n,U ((r*r:Nat):Int),U 0]=some [U ((n-r*r:Nat):Int),U 0])
  (G:Z [U 0,U 0,U 0]=some [U 0,U 0]) (N:∀k:Nat,k<9223372036854775808->M [U k,B false]=some [I k,B true]) (L:a=1\/a=2):
  Zm M Z V P [U 0,U n,I a]=some [I ((if(a=1/\r*r<n)\/(a=2/\r*r+r<n)then r+1 else r:Nat):Int),B true]:=by
 have a0:r<=r*r:=by
  rcases fe r with h|h
  ·omega
  exact Nat.le_mul_of_pos_left r h
 have hw:wrap .u64 ((r:Int)+1)=((r+1:Nat):Int):=by rw[In (by omega)];omega
 have s1:=N r (by omega);have s2:=N (r+1) (by omega);rw[Z5f];simp only[go_sem,X,Y,D,G,hw,s1,s2]
 grind
def Zrw {n:Nat} (hn:n<9223372036854775807) (D:Z [I a]=some [B true]) (G:M [U 0,U n,I a]=some [I k,B true]):Qaf M Z [I n,I a]=some [I k,B true]:=by
 have L:wrap .u64 (n:Int)=(n:Int):=In (by omega);rw[Z74];simp only[D,L,G];rfl
def Qfk (h:a=0\/a=1\/a=2):Jg [I a]=some [B true]:=by grind [Jg,Q66]
def Qtk {n:Nat} (hn:n<9223372036854775807) (D:a=1\/a=2):
  ∃r:Nat,Me [I n,I a]=some [I ((if(a=1/\r*r<n)\/(a=2/\r*r+r<n)then r+1 else r:Nat):Int),B true]/\r*r<=n/\n<(r+1)*(r+1):=by
 have G:n<w64:=by rw[CK];omega
 obtain⟨r,Y,M,V,X⟩:=Zne TD G;rw[Nat.zero_mul,fw]at M V;obtain⟨L,lo,e1,e2,e3⟩:∃L lo:Nat,JO [U r,U r]=some [U L,U lo]/\L*w64+lo=r*r/\lo<w64:=⟨_,_,Zfc X X,Q4s _,gx _ TD⟩;have N:L=0:=by
  rcases fe L with h|h
  ·exact h
  grind [w64]
 subst N;have O:lo=r*r:=by omega
 subst O;have z:=Q4g TD (dm _);refine⟨r,?_,M,V⟩;exact Zrw hn (Qfk (.inr D)) (Z02 hn M Y e1 (Q4g G M) z (λk hk=>Qdt hk) D)
def AA (a b:Int):Int:=(2*a+b)/(2*b)
theorem F6 (hb:0<b) (D:k*(2*b)<=2*a+b) (G:2*a+b<(k+1)*(2*b)):AA a b=k:=by
 unfold AA;have g1:=(Int.le_ediv_iff_mul_le (by omega)).2 D;have g2:=(Int.ediv_lt_iff_lt_mul (by omega)).2 G;omega
def PI (hb:0<b):AA a b*(2*b)<=2*a+b/\2*a+b<(AA a b+1)*(2*b):=by
 unfold AA;exact⟨(Int.le_ediv_iff_mul_le (by omega)).1 (fa _),(Int.ediv_lt_iff_lt_mul (by omega)).1 (Int.lt_add_one_of_le (fa _))⟩
theorem Zg2 {p c:Nat} (D:p<w64) (G:0<c):JK [U 0,U p,U c]=some [U ((p/c:Nat):Int),U ((p%c:Nat):Int)]:=by
 rw[CK]at D;have I:(p:Int).tdiv (c:Int)=((p/c:Nat):Int):=by rw[dg (by omega)];simp
 have L:(p:Int).tmod (c:Int)=((p%c:Nat):Int):=by rw[iw (by omega)];simp
 have M:p/c<=p:=gy _ _;unfold JK;rw[Q0f]
 grind [In]
def Zj3 (more:Int) (some_ neg:Bool):LM [I 2,I more,B some_,B neg]=some [B (if more>0 then true else if more=0 then !neg else false)]:=by
 unfold LM;rw[Q1l]
 grind
def Qr1 {n:Nat} (h:n<=9223372036854775808):G9 [U n,B true]=some [I (-(n:Int)),B true]:=by
 unfold G9;rw[Qja];simp only[go_sem];rw[ac,Qap,Qbe]
 grind
def HG (q r c:Nat) (neg:Bool):Nat:=if r>c-r then q+1 else if r<c-r then q else if neg then q else q+1
def Yej {a b s:Int} {A C p q r c:Nat} (X:0<c) (Y:c<9223372036854775808) (hr:r<c) (hq:q<9223372036854775807)
  (k1:F [I 2]=some [B true]) (k2:G [I a]=some [U A]) (k3:G [I b]=some [U C]) (k4:G [I c]=some [U c]) (k5:H [U A,U C]=some [U 0,U p]) (k6:P [U 0,U p,U c]=some [U q,U r]) (k7:V [I a,I b]=some [I s])
  (k8:∀(more:Int) (some_ neg:Bool),Z [I 2,I more,B some_,B neg]=some [B (if more>0 then true else if more=0 then !neg else false)])
  (N:∀k:Nat,k<9223372036854775808->M [U k,B false]=some [I k,B true]) (D:∀k:Nat,k<9223372036854775808->M [U k,B true]=some [I (-(k:Int)),B true]):
  Ve M Z V P H G F [I a,I b,I c,I 2]=some [I (if s<0 then-(HG q r c true:Int)else(HG q r c false:Int)),B true]:=by
 have w1:wrap .u64 ((c:Int)-(r:Int))=((c-r:Nat):Int):=by rw[In (by omega)];omega
 have w2:wrap .u64 ((q:Int)+1)=((q+1:Nat):Int):=by rw[In (by omega)];omega
 have n1:=N q (by omega);have n2:=N (q+1) (by omega);rw[Zhe];simp only[go_sem,k1,k2,k3,k4,k5,k6,k7,k8,w1,w2,n1,n2];rw[ab,ab (by simp),ab];by_cases O:s<0
 ·rw[ac O];rw[ac (show¬(s<0↔(c:Int)<0) by omega)];have L:(s !=0)=true:=by simp;omega
  rw[L];unfold HG;by_cases g1:r>c-r
  ·rw[ac g1];rw[ac,ac (by decide),ab (show¬((q+1:Nat):Int)=0 by omega),D (q+1) (by omega)];rfl
  rw[ab g1];rw[ab];by_cases g2:r<c-r
  ·rw[ac g2];rw[ac (show(r:Int)<((c-r:Nat):Int) by omega),ab (by decide),D q (by omega)];rfl
  rw[ab g2,ac rfl];rw[ab,ab (by decide),D q (by omega)];rfl
 rw[ab O];unfold HG
 grind
theorem Yaw (q r c:Nat):HG q r c false=if r<c-r then q else q+1:=by
 unfold HG
 grind
theorem Ye3 (q r c:Nat):HG q r c true=if r>c-r then q+1 else q:=by simp[HG]
theorem Zck {p q r c:Nat} (D:0<c) (h:p=c*q+r) (G:r<c):AA p c=HG q r c false:=by
 have e3:(q:Int)*(2*c)=2*((c:Int)*q):=by grind
 have I:((q+1:Nat):Int)*(2*c)=2*((c:Int)*q)+2*c:=by grind
 have L:((q:Int)+1)*(2*c)=2*((c:Int)*q)+2*c:=by grind
 have M:(((q+1:Nat):Int)+1)*(2*c)=2*((c:Int)*q)+4*c:=by grind
 rw[Yaw];by_cases g:r<c-r
 ·rw[ac g];exact F6 (by omega) (by omega) (by omega)
 rw[ab g];exact F6 (by omega) (by omega) (by omega)
theorem Zzr {p q r c:Nat} (D:0<c) (h:p=c*q+r) (G:r<c):AA (-(p:Int)) c= -(HG q r c true:Int):=by
 have e3: -(q:Int)*(2*c)= -(2*((c:Int)*q)):=by grind
 have I: -((q+1:Nat):Int)*(2*c)= -(2*((c:Int)*q))-2*c:=by grind
 have L:(-(q:Int)+1)*(2*c)= -(2*((c:Int)*q))+2*c:=by grind
 have M:(-((q+1:Nat):Int)+1)*(2*c)= -(2*((c:Int)*q)):=by grind
 rw[Ye3];by_cases g:r>c-r
 ·rw[ac g];exact F6 (by omega) (by omega) (by omega)
 rw[ab g];exact F6 (by omega) (by omega) (by omega)
theorem VR {a b c:Int} (O:i64 a) (hb:i64 b) (hc:0<c/\c<9223372036854775808) (hp:a.natAbs*b.natAbs<9223372036854775807):Cy [I a,I b,I c,I 2]=some [I (AA (a*b) c),B true]:=by
 obtain⟨U,lo,e1,e2,e3⟩:=QD (OV O) (OV hb);have V:=Xt a b;have hs:=V4 a b;have hz:a*b=0->a.natAbs*b.natAbs=0:=λh=>by grind
 generalize a.natAbs*b.natAbs=p at*;have G:U=0:=by
  rcases fe U with h|h
  ·exact h
  grind [w64]
 subst G;have L:lo=p:=by omega
 subst L;obtain⟨n,rfl⟩:=bh (show 0<=c by omega);have hn:0<n:=by omega
 have X:=f9 lo n;have M:=gx lo hn;have h3:lo/n<=lo:=gy _ _;have hd:=Zg2 e3 hn;have N:=Ob (x:=(n:Int)) (by grind [i64]);generalize lo/n=q at*;generalize lo%n=r at*;have D:=Yej hn (by omega) M (by omega)
  (Qfk (.inr (.inr rfl))) (Ob O) (Ob hb) N e1 hd (Zs a b) Zj3 (λk Y=>Qdt Y) (λk Y=>Qr1 (by omega))
 have hv:(if sgn a b<0 then-(HG q r n true:Int)else(HG q r n false:Int))=AA (a*b) n:=by
  rcases hs with⟨g1,g2⟩|⟨g1,g2⟩|⟨g1,g2⟩
  ·rw[ab,g2]
   grind [Zck]
  ·rw[ab,<-Zck hn X.symm M,<-V,g1,gq]
  rw[ac,<-Zzr hn X.symm M,<-V,g1,j9,gq]
 rw[hv]at D;exact D
def bd (A:Nat) (p:Pt):Prop:=p.x.natAbs<=A/\p.y.natAbs<=A/\p.z.natAbs<=A
def Bf (a b:Pt):Int:=a.x*b.x+a.y*b.y+a.z*b.z
def Ax (a b:Pt):Pt:=⟨a.x-b.x,a.y-b.y,a.z-b.z⟩
def EF {x y:Int} {A B:Nat} (D:x.natAbs<=A) (G:y.natAbs<=B):(x*y).natAbs<=A*B:=by simp_all [Int.natAbs_mul,d9]
def Zj7 {A B:Nat} (D:bd A d) (hb:bd B q):(d.x*q.x).natAbs<=A*B/\(d.y*q.y).natAbs<=A*B/\(d.z*q.z).natAbs<=A*B:=
 ⟨EF D.1 hb.1,EF D.2.1 hb.2.1,EF D.2.2 hb.2.2⟩
def YM {A B:Nat} (D:bd A d) (hb:bd B q):bd (A+B) (Ax d q):=by
 obtain⟨G,I,L⟩:=D;obtain⟨g1,g2,M⟩:=hb;refine⟨?_,?_,?_⟩<;>simp only[Ax]<;>omega
theorem AH {A B:Nat} (h:bd A d) (D:A<=B):bd B d:=⟨co h.1 D,co h.2.1 D,co h.2.2 D⟩
theorem Z7n (D:bd 67108864 d) (hb:bd 67108864 q):O (O (O (d.x*q.x)+O (d.y*q.y))+O (d.z*q.z))=Bf d q:=by
 obtain⟨G,I,L⟩:=Zj7 D hb;unfold Bf
 grind [Ad]
theorem Z17 (D:bd 33554432 d) (hb:bd 33554432 q):O (d.x-q.x)=(Ax d q).x/\O (d.y-q.y)=(Ax d q).y/\O (d.z-q.z)=(Ax d q).z:=by
 obtain⟨G,I,L⟩:=D;obtain⟨g1,g2,M⟩:=hb;refine⟨?_,?_,?_⟩<;>rw[Ad]<;>rfl
theorem Ybi (a b:Pt):Bf (Ax a b) (Ax a b)=Bf (Ax b a) (Ax b a):=by
 simp only[Bf,Ax]
 grind
def IU (a b p:Pt) (e:Int):Prop:=
 if Bf (Ax b a) (Ax p a)<=0 then Bf (Ax p a) (Ax p a)<=e*e
 else if Bf (Ax b a) (Ax p a)>=Bf (Ax b a) (Ax b a)then Bf (Ax p b) (Ax p b)<=e*e
 else(Bf (Ax p a) (Ax p a)-e*e)*Bf (Ax b a) (Ax b a)<=Bf (Ax b a) (Ax p a)*Bf (Ax b a) (Ax p a)
theorem Wu {x y:Int}:IL x y<=0↔x<=y:=by
 unfold IL;omega
def Qjw (D:bd 67108864 d) (hb:bd 67108864 q):(Bf d q).natAbs<=13510798882111488:=by
 obtain⟨G,I,L⟩:=Zj7 D hb
 grind [Bf]
def Zum (he:e.natAbs<=32000):(e*e).natAbs<=1024000000:=EF he he
theorem Q5p (v:Nat) (h:v<w64):wrap .u64 (((BitVec.ofInt IntKind.u64.bits (v:Int)&&&BitVec.ofInt IntKind.u64.bits 4294967295).toNat:Nat):Int)=((v%4294967296:Nat):Int):=by
 rw[CK]at h;have e:(BitVec.ofInt IntKind.u64.bits (v:Int)&&&BitVec.ofInt IntKind.u64.bits 4294967295).toNat=v%4294967296:=by
  rw[BitVec.toNat_and];have e1:(BitVec.ofInt IntKind.u64.bits (v:Int)).toNat=v:=by
   simp only[IntKind.bits,BitVec.toNat_ofInt];omega
  have e2:(BitVec.ofInt IntKind.u64.bits 4294967295).toNat=2^32-1:=by
   rfl
  rw[e1,e2,Nat.and_two_pow_sub_one_eq_mod]
 grind [In]
theorem Q03 (v:Nat):(v:Int).fdiv (2^min (Int.toNat 32) IntKind.u64.bits)=((v/4294967296:Nat):Int):=by
 have e:(2^min (Int.toNat 32) IntKind.u64.bits:Int)=4294967296:=rfl
 grind
def Fj (a n:Nat) (down:Bool) (j:Nat):Prop:=
 (j=0\/if down=true then(2*j-1)*(2*j-1)*n<4*(a*a)else(2*j-1)*(2*j-1)*n<=4*(a*a))/\
 (if down=true then 4*(a*a)<=(2*j+1)*(2*j+1)*n else 4*(a*a)<(2*j+1)*(2*j+1)*n)
def SQ {p q n:Nat} (h:p<=q):p*p*n<=q*q*n:=by simp_all [d9]
theorem Zrc {a n:Nat} {down:Bool} (I:Fj a n down i) (L:Fj a n down j):i=j:=by
 have key:∀{i j:Nat},Fj a n down i->Fj a n down j-> ¬i<j:=by
  rintro i j ⟨-,M⟩ ⟨D,-⟩ G;have N:=SQ (n:=n) (show 2*i+1<=2*j-1 by omega);rcases D with D|D
  ·omega
  grind
 grind
open Classical in
noncomputable def rnd (a n:Nat) (down:Bool):Nat:=if h:∃j,Fj a n down j then Classical.choose h else 0
theorem Q_ {a n:Nat} {down:Bool} (h:Fj a n down j):rnd a n down=j:=by
 have D:∃j,Fj a n down j:=⟨j,h⟩;unfold rnd
 grind [Zrc]
noncomputable def AM (x r n:Int):Int:=if x<0 then-(rnd (x.natAbs*r.natAbs) n.natAbs true:Int)else(rnd (x.natAbs*r.natAbs) n.natAbs false:Int)
def YX {X R n j:Nat} {down:Bool} (hn:0<n) (D:X*X<=n) (h:Fj (X*R) n down j):j<=R:=by
 by_cases c:j<=R
 ·exact c
 exfalso;have G:(2*R)*(2*R)*(X*X)<=(2*R)*(2*R)*n:=Nat.mul_le_mul_left _ D;have I:(2*R+1)*(2*R+1)*n<=(2*j-1)*(2*j-1)*n:=SQ (by omega);obtain⟨L,-⟩:=h
 grind
def Zxe {X R n j:Nat} {down:Bool} (hn:0<n) (D:R*R<=n) (h:Fj (X*R) n down j):j<=X:=by
 rw[fm]at h;exact YX hn D h
def Z55 {a n q:Nat} (down:Bool) (D:q*q*n<=a*a) (G:a*a<(q+1)*(q+1)*n):
  Fj a n down (if(if down=true then(2*q+1)*(2*q+1)*n<2*a*(2*a)else(2*q+1)*(2*q+1)*n<=2*a*(2*a))then q+1 else q):=by
 have I:2*a*(2*a)=4*(a*a):=by grind
 have L:(2*(q+1))*(2*(q+1))*n<=(2*(q+1)+1)*(2*(q+1)+1)*n:=SQ (by omega);have M:n=0\/q=0\/(2*q-1)*(2*q-1)*n<(2*q)*(2*q)*n:=by
  by_cases hn:n=0
  ·omega
  by_cases N:q=0
  ·omega
  right;right;refine il ?_ (by omega);exact j7 (by omega)
 unfold Fj
 grind
def LT:∀n:Nat,∃r:Nat,r*r<=n/\n<(r+1)*(r+1)
 |0=>⟨0,by decide,by decide⟩
 |n+1=>by
  obtain⟨r,D,G⟩:=LT n;by_cases c:(r+1)*(r+1)<=n+1
  ·exact⟨r+1,c,by grind⟩
  exact⟨r,by omega,by omega⟩
theorem To {x r n:Int} (hx:x.natAbs<=33554432*4) (M:0<=r/\r<=33554432*4) (hn:0<n/\n<=4611686018427387904) (O:x*x<=n):
  (AM x r n).natAbs<=268435456/\Fj (x.natAbs*r.natAbs) n.natAbs (decide (x<0)) (AM x r n).natAbs:=by
 obtain⟨R,rfl⟩:=bh M.1;obtain⟨N,rfl⟩:=bh (show 0<=n by omega);have I:x.natAbs*x.natAbs<=N:=by
  have:((x.natAbs*x.natAbs:Nat):Int)=x*x:=by rw[bv]
  omega
 have U:(x.natAbs*R)*(x.natAbs*R)<268435456*268435456*N:=by
  have e:(x.natAbs*R)*(x.natAbs*R)=(R*R)*(x.natAbs*x.natAbs):=by grind
  have V:R*R<=(33554432*4)*(33554432*4):=d9 (by omega) (by omega);have h2:=d9 V I;omega
 simp only[AM,j0];generalize x.natAbs*R=A at*;have L:0<N:=by omega
 obtain⟨q,X,Y⟩:=LT (A*A/N);have l2:=(Nat.le_div_iff_mul_le L).1 X;have l3:=(dz L).1 Y;have hq:q<268435456:=by
  apply iz;intro c;have:=SQ (n:=N) (show 268435456<=q by omega);omega
 have G:=Z55 (decide (x<0)) l2 l3;by_cases D:x<0
 ·rw[av D]at G⊢;rw[ac D,Q_ G,Int.natAbs_neg,j0]
  grind
 rw[ba D]at G⊢;rw[ab D,Q_ G,j0]
 grind
def Ja (n k:Int):Prop:=0<=k/\n<=k*k/\(k=0\/(k-1)*(k-1)<n)
theorem Zo6 {n i j:Int} (L:Ja n i) (M:Ja n j):i=j:=by
 have key:∀{i j:Int},Ja n i->Ja n j-> ¬i<j:=by
  rintro i j ⟨G,N,-⟩ ⟨O,U,D⟩ I;rcases D with D|D
  ·omega
  have:=ai G (show i<=j-1 by omega);omega
 grind
open Classical in
noncomputable def upR (n:Int):Int:=if h:∃j,Ja n j then Classical.choose h else 0
theorem Zmn {n k:Int} (h:Ja n k):upR n=k:=by
 have D:∃j,Ja n j:=⟨k,h⟩;unfold upR
 grind [Zo6]
def Q4i {n r:Nat} (D:r*r<=n) (G:n<(r+1)*(r+1)):Ja n (if r*r<n then r+1 else r:Nat):=by
 unfold Ja
 grind
def Zp2 (k:Nat):((2^(k+1):Nat):Int).fdiv (2^min (Int.toNat 1) IntKind.i64.bits)=((2^k:Nat):Int):=by
 have e:(2^min (Int.toNat 1) IntKind.i64.bits:Int)=2:=rfl
 grind
def Ybv:(1:Int).fdiv (2^min (Int.toNat 1) IntKind.i64.bits)=0:=rfl
def sqD (a b:Pt):Int:=Bf (Ax a b) (Ax a b)
def KK (a b:Pt):0<=sqD a b:=by
 unfold sqD Bf;have h:∀u:Int,0<=u*u:=λu=>by rw[<-bv];omega
 have:=h (Ax a b).x;have:=h (Ax a b).y;have:=h (Ax a b).z;omega
def B3 {x:Int} (h:x.natAbs<=A):0<=x*x/\x*x<=((A*A:Nat):Int):=by
 have:=d9 h h
 grind [Int.natAbs_mul_self]
def Un (D:bd A d) (hb:bd A q) (G:A<=67108864):sqD d q<=54043195528445952:=by
 have h:∀x y:Int,x.natAbs<=A->y.natAbs<=A->(x-y)*(x-y)<=18014398509481984:=by
  intro x y I L;exact(B3 (A:=134217728) (by omega)).2
 have M:=h _ _ D.1 hb.1;have N:=h _ _ D.2.1 hb.2.1;have O:=h _ _ D.2.2 hb.2.2;unfold sqD Bf Ax
 grind
noncomputable def AB (a b:Pt):Int:=upR (sqD a b)
def Rj (_:bd 67108864 q) (_:bd 67108864 h):Ja (sqD q h) (AB q h):=by
 obtain⟨d,hd⟩:=bh (KK q h);unfold AB;obtain⟨r,D,G⟩:=LT d;have I:=Q4i D G
 grind [Zmn]
theorem Ib (G:bd 67108864 d) (hb:bd 67108864 q):0<=AB d q/\AB d q<=268435456:=by
 obtain⟨I,L,D⟩:=Rj G hb;have M:=Un G hb (dm _);refine⟨I,?_⟩;rcases D with D|D
 ·omega
 by_cases c:AB d q<=268435456
 ·exact c
 have:=ai (a:=268435456) (b:=AB d q-1) (by omega) (by omega);omega
def Ka (n k:Int):Prop:=0<=k/\n<=k*(k+1)/\(k=0\/(k-1)*k<n)
theorem Jr {x:Int} (h:x.natAbs<=A) (D:A<=9223372036854775807):O x=x:=Ad
def I2 {x y:Int} {A B:Nat} (D:x.natAbs<=A) (G:y.natAbs<=B):(x-y).natAbs<=A+B:=by omega
theorem Wd {x y:Int} {A B:Nat} (D:x.natAbs<=A) (G:y.natAbs<=B):(x+y).natAbs<=A+B:=by omega
def YI {c u x:Int} (D:c.natAbs<=A) (G:(c+x).natAbs<=A) (h:(0<=x->0<=u/\u<=x)/\(x<=0->x<=u/\u<=0)):(c+u).natAbs<=A:=by omega
theorem Z1 (a b:Pt):sqD a b=(a.x-b.x)*(a.x-b.x)+(a.y-b.y)*(a.y-b.y)+(a.z-b.z)*(a.z-b.z):=rfl
theorem Bj (u:Int):0<=u*u:=by rw[<-bv];omega
def VW:sqD d q=0↔d=q:=by
 rw[Z1];obtain⟨a1,a2,a3⟩:=d;obtain⟨b1,b2,b3⟩:=q;have D:=Bj (a1-b1);have G:=Bj (a2-b2);have I:=Bj (a3-b3)
 grind [Int.mul_eq_zero]
def W7 (a b:Pt):(a.x-b.x)*(a.x-b.x)<=sqD a b/\(a.y-b.y)*(a.y-b.y)<=sqD a b/\(a.z-b.z)*(a.z-b.z)<=sqD a b:=by
 rw[Z1];have D:=Bj (a.x-b.x);have G:=Bj (a.y-b.y);have I:=Bj (a.z-b.z);omega
noncomputable def AE (c a:Pt) (d:Int):Pt:=⟨c.x+AM (a.x-c.x) d (sqD a c),c.y+AM (a.y-c.y) d (sqD a c),c.z+AM (a.z-c.z) d (sqD a c)⟩
abbrev B24:Nat:=16777216
def Yf {x r n:Int} (G:x.natAbs<=33554432*4) (I:0<=r/\r<=33554432*4) (hn:0<n/\n<=4611686018427387904) (D:x*x<=n) (L:r*r<=n):
  (0<=x->0<=AM x r n/\AM x r n<=x)/\(x<=0->x<=AM x r n/\AM x r n<=0):=by
 obtain⟨N,M⟩:=To G I hn D;have O:=Zxe (by omega) (by grind) M;unfold AM at*;omega
def Zsv (D:bd B24 d) (hb:bd B24 q):sqD d q<=3377699720527872:=by
 have h:∀x y:Int,x.natAbs<=B24->y.natAbs<=B24->(x-y)*(x-y)<=1125899906842624:=by
  intro x y G I;unfold B24 at*;exact(B3 (x:=x-y) (A:=33554432) (by omega)).2
 have L:=h _ _ D.1 hb.1;have M:=h _ _ D.2.1 hb.2.1;have N:=h _ _ D.2.2 hb.2.2
 grind [Z1]
def QM {c a:Pt} (D:bd B24 c) (G:bd B24 a) (M:a≠c) (hd:0<=u/\u<AB a c):bd B24 (AE c a u):=by
 have O:sqD a c≠0:=λh=>M (VW.1 h);have U:=KK a c;have V:=Un (AH G (by decide)) (AH D (by decide)) (show 67108864<=67108864 by omega);obtain⟨g1,g2,g3⟩:=Rj (AH G (show B24<=67108864 by decide)) (AH D (show B24<=67108864 by decide));have hl:=Ib (AH G (show B24<=67108864 by decide)) (AH D (show B24<=67108864 by decide));have I:u*u<=sqD a c:=by
  have:=ai hd.1 (show u<=AB a c-1 by omega);omega
 have N:u<=33554432*4:=by
  by_cases X:u<=33554432*4
  ·exact X
  exfalso;have h3:=ai (a:=33554432*4+1) (b:=u) (by omega) (by omega);have h4:=Zsv G D;omega
 obtain⟨Y,q2,q3⟩:=W7 a c;have hn:0<sqD a c/\sqD a c<=4611686018427387904:=⟨Int.lt_iff_le_and_ne.2 ⟨U,λh=>O h.symm⟩,dh V (by decide)⟩;have L:0<=u/\u<=33554432*4:=⟨hd.1,N⟩;have k1:=Yf (x:=a.x-c.x) (r:=u) (n:=sqD a c) (co (I2 G.1 D.1) (by decide)) L hn Y I;have k2:=Yf (x:=a.y-c.y) (r:=u) (n:=sqD a c) (co (I2 G.2.1 D.2.1) (by decide)) L hn q2 I;have k3:=Yf (x:=a.z-c.z) (r:=u) (n:=sqD a c) (co (I2 G.2.2 D.2.2) (by decide)) L hn q3 I;have e:∀x y:Int,x+(y-x)=y:=λx y=>by omega
 exact⟨YI D.1 (by rw[e];exact G.1) k1,YI D.2.1 (by rw[e];exact G.2.1) k2,YI D.2.2 (by rw[e];exact G.2.2) k3⟩
def GH (p c q:Pt):Pt:=⟨p.x-c.x+(q.x-c.x),p.y-c.y+(q.y-c.y),p.z-c.z+(q.z-c.z)⟩
def H2 (p c q:Pt):Int:=Bf (GH p c q) (GH p c q)
def Zy7 {p c q:Pt} (D:bd B24 p) (G:bd B24 c) (I:bd B24 q):bd 67108864 (GH p c q):=by
 unfold bd B24 GH at*;simp only;omega
def Iq (a c b:Pt) (tol d:Int):Prop:=d<=mn (AB a c) (AB c b)-2/\H2 (AE c a d) c (AE c b d)<=16*tol*tol
def Tl (x y:Int):mn x y<=x/\mn x y<=y:=by grind [mn]
theorem Zqv (a b:Pt):sqD a b=sqD b a:=by grind [sqD,Ybi]
theorem Vs (a b:Pt):AB a b=AB b a:=by grind [AB,Zqv]
open Classical in
noncomputable def Ii (P:Int->Prop):Nat->Int->Int
 |0,d=>if P (d+1)then d+1 else d
 |k+1,d=>Ii P k (if P (d+((2^(k+1):Nat):Int))then d+((2^(k+1):Nat):Int)else d)
open Classical in
def Q2t {P:Int->Prop}:∀(k:Nat) (d:Int),d<=Ii P k d/\Ii P k d<d+((2^(k+1):Nat):Int)/\(Ii P k d=d\/P (Ii P k d))
 |0,d=>by
  have e:((2^(0+1):Nat):Int)=2:=rfl;rw[e];unfold Ii
  grind
 |k+1,d=>by
  unfold Ii;have I:0<2^(k+1):=f8 _;have e3:2^(k+1+1)=2^(k+1)+2^(k+1):=by rw[Nat.pow_succ 2 (k+1)];omega
  rw[e3];have D:(if P (d+((2^(k+1):Nat):Int))then d+((2^(k+1):Nat):Int)else d)=d\/((if P (d+((2^(k+1):Nat):Int))then d+((2^(k+1):Nat):Int)else d)=d+((2^(k+1):Nat):Int)/\P (if P (d+((2^(k+1):Nat):Int))then d+((2^(k+1):Nat):Int)else d)):=by
   split
   ·grind
   simp
  generalize(if P (d+((2^(k+1):Nat):Int))then d+((2^(k+1):Nat):Int)else d)=G at*;obtain⟨L,M,N⟩:=Q2t (P:=P) k G
  grind
open Classical in
noncomputable def Cp (a c b:Pt) (tol:Int):Int:=if a=c\/b=c then 0 else if Ii (Iq a c b tol) 24 0<16 then 0 else Ii (Iq a c b tol) 24 0
def Xn {a c b:Pt} (h:Cp a c b u≠0):a≠c/\b≠c/\16<=Cp a c b u/\Cp a c b u<33554432/\Iq a c b u (Cp a c b u):=by
 unfold Cp at*;split at h
 ·omega
 rename_i D;rw[ab D];split at h
 ·omega
 rename_i G;rw[ab G];obtain⟨I,L,M⟩:=Q2t (P:=Iq a c b u) 24 0
 grind
theorem If:d=q↔d.x=q.x/\d.y=q.y/\d.z=q.z:=by
 obtain⟨a1,a2,a3⟩:=d;obtain⟨b1,b2,b3⟩:=q;simp
def OZ (bend:Int):Nat->Int->Int
 |0,n=>n
 |k+1,n=>if n<64/\bend>16*n*n*n*n*4*4 then OZ bend k (n*2)else n
def JM (n:Int):Prop:=n=2\/n=4\/n=8\/n=16\/n=32\/n=64
def JQ (p c q:Pt):Int:=OZ (H2 p c q) 5 2
def Zkj (b:Int):∀(k:Nat) (n:Int),JM n->JM (OZ b k n)
 |0,_,h=>h
 |k+1,n,h=>by
  unfold OZ;split
  ·rename_i c;exact Zkj b k _ (by grind [JM])
  omega
def RW (p c q:Pt):JM (JQ p c q):=Zkj _ _ _ (.inl rfl)
def Lv (n i p c q:Int):Int:=c+AA ((n-i)*(n-i)*(p-c)+i*i*(q-c)) (n*n)
def Ih (n i:Int) (p c q:Pt):Pt:=⟨Lv n i p.x c.x q.x,Lv n i p.y c.y q.y,Lv n i p.z c.z q.z⟩
def H1 {a b n:Int} (hn:0<n) (h:a<=b):AA a n<=AA b n:=by
 unfold AA;exact Int.ediv_le_ediv (by omega) (by omega)
theorem Qs {k n:Int} (hn:0<n):AA (k*n) n=k:=F6 hn (by grind) (by grind)
def O9 {n i p c q:Int} (hn:0<n) (I:0<=i/\i<=n) (hp:p.natAbs<=A) (hc:c.natAbs<=A) (hq:q.natAbs<=A):(Lv n i p c q).natAbs<=A:=by
 have D:0<n*n:=dk hn hn;have L:0<=(n-i)*(n-i):=Bj _;have M:0<=i*i:=Bj _;have N:(n-i)*(n-i)+i*i<=n*n:=by
  have:n*n-((n-i)*(n-i)+i*i)=2*(i*(n-i)):=by grind
  have:0<=i*(n-i):=al I.1;omega
 have key:∀s:Int,(s=1\/s= -1)->s*((n-i)*(n-i)*(p-c)+i*i*(q-c))<=(A-s*c)*(n*n):=by
  intro s G;have O:s*p<=A:=by rcases G with rfl|rfl<;>omega
  have U:s*c<=A:=by rcases G with rfl|rfl<;>omega
  have V:s*q<=A:=by rcases G with rfl|rfl<;>omega
  have g1:(n-i)*(n-i)*(s*p-s*c)<=(n-i)*(n-i)*(A-s*c):=af (by omega) L;have g2:i*i*(s*q-s*c)<=i*i*(A-s*c):=af (by omega) M;have g3:((n-i)*(n-i)+i*i)*(A-s*c)<=n*n*(A-s*c):=ap N;have e1:s*((n-i)*(n-i)*(p-c)+i*i*(q-c))=(n-i)*(n-i)*(s*p-s*c)+i*i*(s*q-s*c):=by grind
  have e2:((n-i)*(n-i)+i*i)*(A-s*c)=(n-i)*(n-i)*(A-s*c)+i*i*(A-s*c):=iv ..;have e3:(A-s*c)*(n*n)=n*n*(A-s*c):=jk ..;omega
 unfold Lv;have X:=H1 D (key 1 (.inl rfl)|>λh=>(by rw[gq,gq]at h;exact h));rw[Qs D]at X;have k2:=key (-1) (.inr rfl);have Y:(-(A:Int)-c)*(n*n)<=(n-i)*(n-i)*(p-c)+i*i*(q-c):=by
  have e:(-(A:Int)-c)*(n*n)= -((A- -1*c)*(n*n)):=by grind
  omega
 have k4:=H1 D Y
 grind [Qs]
noncomputable def Ea (a c b:Pt) (tol:Int):List Pt:=
 if Cp a c b tol=0 then [c]
 else(List.range ((JQ (AE c a (Cp a c b tol)) c (AE c b (Cp a c b tol))).toNat+1)).map fun(i:Nat)=>Ih (JQ (AE c a (Cp a c b tol)) c (AE c b (Cp a c b tol))) i (AE c a (Cp a c b tol)) c (AE c b (Cp a c b tol))
def Q01 {a c b:Pt} (M:bd B24 a) (D:bd B24 c) (hb:bd B24 b):(∀p∈Ea a c b u,bd B24 p)/\1<=(Ea a c b u).length/\(Ea a c b u).length<=65:=by
 unfold Ea;by_cases h:Cp a c b u=0
 ·grind
 rw[ab h];obtain⟨N,O,V,X,Y,-⟩:=Xn h;obtain⟨m1,m2⟩:=Tl (AB a c) (AB c b);generalize Cp a c b u=d at*;have G:bd B24 (AE c a d):=QM D M N (by omega);have I:bd B24 (AE c b d):=QM D hb O (by grind [Vs]);have U:=RW (AE c a d) c (AE c b d);generalize JQ (AE c a d) c (AE c b d)=n at*;have hn:2<=n/\n<=64:=by rcases U with rfl|rfl|rfl|rfl|rfl|rfl<;>omega
 refine⟨?_,by simp,by grind⟩;intro p L;simp only[bj,List.mem_range]at L;obtain⟨i,hi,rfl⟩:=L;exact⟨O9 (by omega) (by omega) G.1 D.1 I.1,O9 (by omega) (by omega) G.2.1 D.2.1 I.2.1,O9 (by omega) (by omega) G.2.2 D.2.2 I.2.2⟩
def Q75 {v n:Int} (_:i64 v) (hn:0<n/\n<=4611686018427387904):JH [I v,I n]=some [I (v%n)]:=by
 unfold JH;rw[Z0k,BX (by omega),BX (by omega)];have M: -n<v.tmod n/\v.tmod n<n:=by
  have a1:=Int.tmod_lt_of_pos v hn.1;have a2:=Int.lt_tmod_of_pos v hn.1;omega
 rw[Ad];have D:(v.tmod n+n).tmod n=v%n:=by
  rw[iw (by omega),Int.add_emod_right];have G:=Int.tmod_add_mul_tdiv v n;have L:v%n=(v.tmod n+n*v.tdiv n)%n:=by rw[G]
  rw[L,Int.add_mul_emod_self_left]
 rw[D]
def Src (l:Rw):Prop:=l.length<=9223372036854775807/\∀c∈l,i64 (Af (nth .vD c 0))
def Zzt (h:i<l.length):nth [] l i∈l:=by grind [Fu]
def Z44 (G:∀v n:Int,i64 v->0<n/\n<=4611686018427387904->M [I v,I n]=some [I (v%n)]) {l:Rw} (D:Src l) {k:Nat} {n:Int} (hn:0<n/\n<=4611686018427387904):
  ∃(v:Int) (k':Nat),Qh9 M [I n, .vC Aa l,I k]=some [I v, .vC Aa l,I k']/\0<=v/\v<n/\k<=k'/\(k<l.length->k'=k+1)/\(l.length<=k->k'=k):=by
 have L:=D.1;rw[Z4j];by_cases h:k<l.length
 ·have N:=G _ n (D.2 _ (Zzt h)) hn;simp only[go_sem,ag,N];rw[ab,ac,Ad];exact⟨_,k+1,rfl,ju _ (by omega),jf _ hn.1,by omega,λ_=>rfl,by omega⟩
 simp only[go_sem];rw[ac]
 grind
def Ycl (D:Src l) (k:Nat) {n:Int} (hn:0<n/\n<=4611686018427387904):
  ∃(v:Int) (k':Nat),C0 [I n, .vC Aa l,I k]=some [I v, .vC Aa l,I k']/\0<=v/\v<n/\k<=k'/\(k<l.length->k'=k+1)/\(l.length<=k->k'=k):=
 Z44 (λ_ _ G hn=>Q75 G hn) D hn
def Qpv (l:Rw) (k:Nat):IK [.vC Aa l,I k]=some [B (decide (k<l.length)), .vC Aa l,I k]:=by simp[IK,Zp1]
theorem RZ (l:Rw):DR [.vC Aa l]=some [.vC Aa l,I 0]:=by grind [DR,Zx6]
def AO (r:Int) (k:Int):Int:=if k%4=0 then r else if k%4=2 then-r else 0
def AP (r:Int) (k:Int):Int:=if k%4=1 then r else if k%4=3 then-r else 0
def Yeh (L:0<=r/\r<=1000000) (D:0<=k/\k<=1000):SX [I r,I k]=some [I (AO r k),I (AP r k)]:=by
 unfold SX;rw[Z3u,Ad,iw D.1];have G:k%4=0\/k%4=1\/k%4=2\/k%4=3:=by omega
 unfold AO AP;rcases G with h|h|h|h<;>rw[h]<;>simp[nth,Af]
def plU (pl:Int) (p:Pt):Int:=if pl=17 then p.x else if pl=18 then p.z else p.y
def plW (pl:Int) (p:Pt):Int:=if pl=17 then p.y else if pl=18 then p.x else p.z
def plH (pl:Int) (p:Pt):Int:=if pl=17 then p.z else if pl=18 then p.y else p.x
def spP (pl u w h:Int):Pt:=if pl=17 then⟨u,w,h⟩else if pl=18 then⟨w,h,u⟩else⟨h,u,w⟩
def CU (pl:Int):Prop:=pl=17\/pl=18\/pl=19
def Z42 (h:CU a):Sl [I d.x,I d.y,I d.z,I a]=some [I (plU a d),I (plW a d),I (plH a d)]:=by
 unfold Sl;rw[Zxr];rcases h with rfl|rfl|rfl<;>rfl
def Ydz {u w h pl:Int} (D:CU pl):Sy [I u,I w,I h,I pl]=some (ptR (spP pl u w h)):=by
 unfold Sy;rw[Yb5];rcases D with rfl|rfl|rfl<;>rfl
theorem CI {pl u w h:Int} (D:CU pl):plU pl (spP pl u w h)=u/\plW pl (spP pl u w h)=w/\plH pl (spP pl u w h)=h:=by
 rcases D with rfl|rfl|rfl<;>exact⟨rfl,rfl,rfl⟩
structure ArcMade (size : Int) (it : Itm) : Prop where
 aP:it.aP=3
 aG:CU it.aG
 dir:it.dir=1\/it.dir= -1
 ends:∃r k t g h:Int,8<=r/\r<8+size/\0<=k/\k<=3/\0<=t/\t<=3/\0<=g/\g<=4/\(h=0\/h=7\/h= -12)/\(t=0->g=0)/\it.bI=decide (t=0)/\
  it.ce=spP it.aG (plU it.aG it.fr-AO r k) (plW it.aG it.fr-AP r k) (plH it.aG it.fr)/\
  it.to=spP it.aG (plU it.aG it.fr-AO r k+AO (r+g) (k+t)) (plW it.aG it.fr-AP r k+AP (r+g) (k+t)) (plH it.aG it.fr+h)
def L7 (D:0<=r):(-r<=AO r k/\AO r k<=r)/\(-r<=AP r k/\AP r k<=r):=by grind [AO,AP]
def Znw (G:1<=r) (k:Int):((AO r k).tdiv r=AO 1 k)/\((AP r k).tdiv r=AP 1 k):=by
 have D:r.tdiv r=1:=Int.tdiv_self (by omega);have I:(-r).tdiv r= -1:=by rw[Int.neg_tdiv,D]
 unfold AO AP;constructor<;>split<;>(try split)<;>simp[D]
def Ybp (r k e f:Int):∃g,(g=e\/g=f)/\AO r k+AO 1 k*e=AO (r+g) k/\AP r k+AP 1 k*f=AP (r+g) k:=by
 unfold AO AP;by_cases h:k%4=0\/k%4=2
 ·refine⟨e, .inl rfl,?_,?_⟩
  ·grind
  grind
 have D:k%4=1\/k%4=3:=by omega
 refine⟨f, .inr rfl,?_,?_⟩
 ·grind
 grind
theorem FL {pl:Int} (h:bd i d):(plU pl d).natAbs<=i/\(plW pl d).natAbs<=i/\(plH pl d).natAbs<=i:=by
 obtain⟨D,G,I⟩:=h;unfold plU plW plH;omega
def He (l:Rw) (M:Fn):Prop:=∀(k:Nat) {n:Int},0<n/\n<=4611686018427387904->
  ∃(v:Int) (k':Nat),M [I n, .vC Aa l,I k]=some [I v, .vC Aa l,I k']/\0<=v/\v<n/\k<=k'/\(k<l.length->k'=k+1)/\(l.length<=k->k'=k)
abbrev Gb (it:Itm):Prop:=it.block=0/\it.side=0/\it.radius=0/\it.aS=0/\it.on=false
theorem Z9m (h:0<=v/\v<3):Af (nth .vD (nth [] [[I 17],[I 18],[I 19]] v.toNat) 0)=17+v:=by
 have D:v=0\/v=1\/v=2:=by omega
 rcases D with rfl|rfl|rfl<;>rfl
def Q5q (h:0<=v/\v<4):∃x,Af (nth .vD (nth [] [[I 0],[I 0],[I 7],[I (-12)]] v.toNat) 0)=x/\(x=0\/x=7\/x= -12):=by
 have D:v=0\/v=1\/v=2\/v=3:=by omega
 rcases D with rfl|rfl|rfl|rfl<;>exact⟨_,rfl,by decide⟩
def Zoz (X:He l P)
  (hP:∀{p:Pt} {pl:Int},CU pl->V [I p.x,I p.y,I p.z,I pl]=some [I (plU pl p),I (plW pl p),I (plH pl p)])
  (hS:∀{u w h pl:Int},CU pl->M [I u,I w,I h,I pl]=some (ptR (spP pl u w h)))
  (hT:∀{r k:Int},(0<=r/\r<=1000000)->(0<=k/\k<=1000)->Z [I r,I k]=some [I (AO r k),I (AP r k)])
  {p:Pt} (hp:bd 100000000 p) {size:Int} (hs:0<size/\size<=100000) (k:Nat):
  ∃(it:Itm) (k':Nat),Qfl M Z V P [I p.x,I p.y,I p.z,I size, .vC Aa l,I k]=some (Ag it++[.vC Aa l,I k'])/\k<=k'/\it.fr=p/\ArcMade size it/\
   it.aZ=0/\it.perRev=false/\it.bJ=0/\it.n=0/\Gb it:=by
 obtain⟨N,k1,e1,a1,b1,c1,-,-⟩:=X k (n:=3) (by omega);obtain⟨v2,k2,e2,a2,b2,c2,-,-⟩:=X k1 (n:=2) (by omega);obtain⟨G,k3,e3,a3,b3,c3,-,-⟩:=X k2 (n:=size) (by omega);obtain⟨D,k4,e4,a4,b4,c4,-,-⟩:=X k3 (n:=4) (by omega);obtain⟨L,k5,e5,a5,b5,c5,-,-⟩:=X k4 (n:=4) (by omega);rw[Z46];simp only[go_sem,e1,e2,e3,e4,e5];rw[ac (by simp;omega)];have a0:CU (17+N):=by unfold CU;omega
 have w1:O (8+G)=8+G:=Ad;have w2:O (D+L)=D+L:=Ad;simp only[Z9m ⟨a1,b1⟩,hP a0,go_sem,w1,w2,hT (r:=8+G) (k:=D) (by omega) (by omega),hT (r:=8+G) (k:=D+L) (by omega) (by omega),hS a0];obtain⟨q1,q2,q3⟩:=FL (pl:=17+N) hp;obtain⟨⟨r1,r2⟩,r3,r4⟩:=L7 (r:=8+G) (k:=D) (by omega);obtain⟨⟨r5,r6⟩,r7,r8⟩:=L7 (r:=8+G) (k:=D+L) (by omega);obtain⟨d1,d2⟩:=Znw (r:=8+G) (by omega) (D+L);obtain⟨⟨r9,f2⟩,f3,f4⟩:=L7 (r:=1) (k:=D+L) (by omega);have w3:O (plU (17+N) p-AO (8+G) D)=plU (17+N) p-AO (8+G) D:=Ad;have w4:O (plW (17+N) p-AP (8+G) D)=plW (17+N) p-AP (8+G) D:=Ad;have w5:O (1-O (v2*2))=1-v2*2:=by rw[Ad (x:=v2*2),Ad]
 have w6:O (plU (17+N) p-AO (8+G) D+AO (8+G) (D+L))=plU (17+N) p-AO (8+G) D+AO (8+G) (D+L):=Ad;have w7:O (plW (17+N) p-AP (8+G) D+AP (8+G) (D+L))=plW (17+N) p-AP (8+G) D+AP (8+G) (D+L):=Ad;rw[w3,w4,w5,w6,w7];have d0:1-v2*2=1\/1-v2*2= -1:=by omega
 have fin:∀(g:Int) (u w:Int) (k8:Nat),k5<=k8->0<=g->g<=4->(L=0->g=0)->u=AO (8+G+g) (D+L)->w=AP (8+G+g) (D+L)->∀U:Int,0<=U/\U<4->
   ∃it:Itm,[I 3,I 0,I p.x,I p.y,I p.z,I (spP (17+N) (plU (17+N) p-AO (8+G) D+u) (plW (17+N) p-AP (8+G) D+w) (plH (17+N) p+Af (nth .vD (nth [] [[I 0],[I 0],[I 7],[I (-12)]] U.toNat) 0))).x,
    I (spP (17+N) (plU (17+N) p-AO (8+G) D+u) (plW (17+N) p-AP (8+G) D+w) (plH (17+N) p+Af (nth .vD (nth [] [[I 0],[I 0],[I 7],[I (-12)]] U.toNat) 0))).y,
    I (spP (17+N) (plU (17+N) p-AO (8+G) D+u) (plW (17+N) p-AP (8+G) D+w) (plH (17+N) p+Af (nth .vD (nth [] [[I 0],[I 0],[I 7],[I (-12)]] U.toNat) 0))).z,
    I (17+N),I (spP (17+N) (plU (17+N) p-AO (8+G) D) (plW (17+N) p-AP (8+G) D) (plH (17+N) p)).x,I (spP (17+N) (plU (17+N) p-AO (8+G) D) (plW (17+N) p-AP (8+G) D) (plH (17+N) p)).y,I (spP (17+N) (plU (17+N) p-AO (8+G) D) (plW (17+N) p-AP (8+G) D) (plH (17+N) p)).z,
    I (1-v2*2),B (decide (L=0)),I 0,B false,I 0,I 0,I 0,I 0,I 0,B false, .vC Aa l,I k8]=Ag it++[.vC Aa l,I k8]/\it.fr=p/\ArcMade size it/\it.aZ=0/\it.perRev=false/\it.bJ=0/\it.n=0/\Gb it:=by
  intro g u w k8 f5 d6 d7 f0 hu hw U b0;obtain⟨x,hx,d3⟩:=Q5q b0;rw[hx];refine⟨⟨3,0,p,_,17+N,_,1-v2*2,decide (L=0),0,false,0,0,0,0,0,false⟩,rfl,rfl,⟨rfl,a0,d0,8+G,D,L,g,x,?_⟩,rfl,rfl,rfl,rfl,rfl,rfl,rfl,rfl,rfl⟩;subst hu hw;exact⟨by omega,by omega,by omega,by omega,by omega,by omega,d6,d7,d3,f0,rfl,rfl,rfl⟩
 have c0:∀U:Int,0<=U/\U<4->O (plH (17+N) p+Af (nth .vD (nth [] [[I 0],[I 0],[I 7],[I (-12)]] U.toNat) 0))=plH (17+N) p+Af (nth .vD (nth [] [[I 0],[I 0],[I 7],[I (-12)]] U.toNat) 0):=by
  intro U b0;obtain⟨x,hx,d3⟩:=Q5q b0;rw[hx];exact Ad
 have f1:(L==0)=decide (L=0):=rfl;by_cases d4:L>0
 ·rw[ac d4];obtain⟨v6,k6,e6,a6,b6,c6,-,-⟩:=X k5 (n:=3) (by omega);simp only[go_sem,e6];by_cases d5:v6=0
  ·rw[ac d5,ab];obtain⟨v7,k7,e7,a7,b7,c7,-,-⟩:=X k6 (n:=5) (by omega);obtain⟨v8,k8,e8,a8,b8,c8,-,-⟩:=X k7 (n:=5) (by omega);obtain⟨U,Y,e9,a9,b9,c9,-,-⟩:=X k8 (n:=4) (by omega);simp only[go_sem,e7,e8,e9];rw[ab,ac (by simp;omega),c0 U ⟨a9,b9⟩,d1,d2];obtain⟨g,hg,hu,hw⟩:=Ybp (8+G) (D+L) v7 v8;have mu: -4<=AO 1 (D+L)*v7/\AO 1 (D+L)*v7<=4:=by
    have hc:AO 1 (D+L)= -1\/AO 1 (D+L)=0\/AO 1 (D+L)=1:=by omega
    rcases hc with h|h|h<;>rw[h]<;>omega
   have mw: -4<=AP 1 (D+L)*v8/\AP 1 (D+L)*v8<=4:=by
    have hc:AP 1 (D+L)= -1\/AP 1 (D+L)=0\/AP 1 (D+L)=1:=by omega
    rcases hc with h|h|h<;>rw[h]<;>omega
   rw[Ad (x:=AO 1 (D+L)),Ad (x:=AP 1 (D+L)),Ad (x:=AO 1 (D+L)*v7),Ad (x:=AP 1 (D+L)*v8),
    Ad (x:=AO (8+G) (D+L)+_),Ad (x:=AP (8+G) (D+L)+_),hu,hw]
   obtain⟨⟨s1,s2⟩,s3,s4⟩:=L7 (r:=8+G+g) (k:=D+L) (by omega);rw[Ad (x:=_+AO (8+G+g) (D+L)),Ad (x:=_+AP (8+G+g) (D+L))];obtain⟨it,h1,h2⟩:=fin g _ _ Y (by omega) (by omega) (by omega) (by omega) rfl rfl U ⟨a9,b9⟩;refine⟨it,Y,?_,by omega,h2⟩;exact ij some h1
  rw[ab d5];obtain⟨U,Y,e9,a9,b9,c9,-,-⟩:=X k6 (n:=4) (by omega);simp only[go_sem,e9];rw[ac (by simp;omega),c0 U ⟨a9,b9⟩];obtain⟨it,h1,h2⟩:=fin 0 _ _ Y (by omega) (by omega) (by omega) (by omega) (by rw[ie]) (by rw[ie]) U ⟨a9,b9⟩;refine⟨it,Y,?_,by omega,h2⟩;exact ij some h1
 rw[ab d4];obtain⟨U,Y,e9,a9,b9,c9,-,-⟩:=X k5 (n:=4) (by omega);simp only[go_sem,e9];rw[ac (by simp;omega),c0 U ⟨a9,b9⟩];obtain⟨it,h1,h2⟩:=fin 0 _ _ Y (by omega) (by omega) (by omega) (by omega) (by rw[ie]) (by rw[ie]) U ⟨a9,b9⟩;refine⟨it,Y,?_,by omega,h2⟩;exact ij some h1
def HX (D:Src l):He l C0:=λk _ hn=>Ycl D k hn
def Z9c (D:Src l) {p:Pt} (G:bd 100000000 p) {size:Int} (L:0<size/\size<=100000) (k:Nat):
  ∃(it:Itm) (k':Nat),U9 [I p.x,I p.y,I p.z,I size, .vC Aa l,I k]=some (Ag it++[.vC Aa l,I k'])/\k<=k'/\it.fr=p/\ArcMade size it/\
   it.aZ=0/\it.perRev=false/\it.bJ=0/\it.n=0/\Gb it:=
 Zoz (HX D) Z42 Ydz Yeh G L k
structure Made (it : Itm) : Prop where
 aP:1<=it.aP/\it.aP<=6
 line:it.aP≠3->(it.to.x-it.fr.x).natAbs<=16/\(it.to.y-it.fr.y).natAbs<=16/\(it.to.z-it.fr.z).natAbs<=16
 arc:it.aP=3->ArcMade 8 it
 aZ:it.aP≠1->1<=it.aZ/\it.aZ<=60000000
 bJ:0<=it.bJ/\it.bJ<=9
 sync:it.aP=5\/it.aP=6->it.bJ=0/\it.aZ<=60
 free:it.aP<=4->it.perRev=false
 bI:it.aP≠3->it.bI=false
def Zga (h:0<=v/\v<5):∃x,Af (nth .vD (nth [] [[I 300000],[I 1],[I 60000],[I 2000000],[I 60000000]] v.toNat) 0)=x/\1<=x/\x<=60000000:=by
 have D:v=0\/v=1\/v=2\/v=3\/v=4:=by omega
 rcases D with rfl|rfl|rfl|rfl|rfl<;>exact⟨_,rfl,by decide⟩
def Zan (h:0<=v/\v<5):∃x,Af (nth .vD (nth [] [[I 0],[I 1],[I 2],[I 4],[I 9]] v.toNat) 0)=x/\0<=x/\x<=9:=by
 have D:v=0\/v=1\/v=2\/v=3\/v=4:=by omega
 rcases D with rfl|rfl|rfl|rfl|rfl<;>exact⟨_,rfl,by decide⟩
theorem Yev {it:Itm} (h:ArcMade a it) (f b:Int) (pr:Bool) (n:Int):ArcMade a {it with aZ:=f,bJ:=b,perRev:=pr,n:=n}:=⟨h.aP,h.aG,h.dir,h.ends⟩
def Z6y (D:He l Z)
  (hA:∀{p:Pt},bd 100000000 p->∀k:Nat,∃(it:Itm) (k':Nat),M [I p.x,I p.y,I p.z,I 8, .vC Aa l,I k]=some (Ag it++[.vC Aa l,I k'])/\k<=k'/\it.fr=p/\ArcMade 8 it/\it.aZ=0/\it.perRev=false/\it.bJ=0/\it.n=0/\Gb it)
  {p:Pt} (hp:bd 100000000 p) {aP:Int} (hk:1<=aP/\aP<=6) (k:Nat):
  ∃(it:Itm) (k':Nat),Ya Z M [I p.x,I p.y,I p.z,I aP, .vC Aa l,I k]=some (Ag it++[.vC Aa l,I k'])/\k<=k'/\it.fr=p/\it.aP=aP/\Made it/\Gb it:=by
 rw[Z65];obtain⟨b0,c0,d0⟩:=hp;by_cases h3:aP=3
 ·subst h3;obtain⟨it,k1,e1,c1,g1,g2,g3,g4,g5,g6,g7,g8,g9,g10,g11⟩:=hA ⟨b0,c0,d0⟩ k;obtain⟨G,k2,e2,a2,b2,c2,-,-⟩:=D k1 (n:=5) (by omega);obtain⟨L,k3,e3,a3,b3,c3,-,-⟩:=D k2 (n:=5) (by omega);simp only[go_sem,e1,Ag,da,cq,e2,e3];rw[ab,ac (by grind),ac (by grind),ab,ab,ab];obtain⟨f,hf,d1,d2⟩:=Zga ⟨a2,b2⟩;obtain⟨b,hb,d3,d4⟩:=Zan ⟨a3,b3⟩;rw[hf,hb];have d5:=g2.aP;refine⟨{it with aZ:=f,bJ:=b,perRev:=it.perRev,n:=it.n},k3,rfl,by omega,g1,d5,⟨?_,?_,?_,?_,?_,?_,?_,?_⟩,g7,g8,g9,g10,g11⟩
  ·grind
  ·grind
  ·grind [Yev]
  ·grind
  ·grind
  ·grind
  ·grind
  grind
 simp only[go_sem];rw[ab h3];obtain⟨N,k1,e1,a1,b1,c1,-,-⟩:=D k (n:=25) (by omega);obtain⟨G,k2,e2,a2,b2,c2,-,-⟩:=D k1 (n:=25) (by omega);obtain⟨L,k3,e3,a3,b3,c3,-,-⟩:=D k2 (n:=3) (by omega);obtain⟨v4,k4,e4,a4,b4,c4,-,-⟩:=D k3 (n:=9) (by omega);obtain⟨U,k5,e5,a5,b5,c5,-,-⟩:=D k4 (n:=2) (by omega);simp only[go_sem,e1,e2,e3,e4,e5];have hm:0<=L*v4/\L*v4<=16:=by
  have hc:L=0\/L=1\/L=2:=by omega
  rcases hc with rfl|rfl|rfl<;>omega
 generalize L*v4=m at hm;have w1:O (O (p.x+N)-12)=p.x+N-12:=by rw[Ad (x:=p.x+N),Ad]
 have w2:O (O (p.y+G)-12)=p.y+G-12:=by rw[Ad (x:=p.y+G),Ad]
 have w3:O (O (p.z+O m)-O (8*U))=p.z+m-8*U:=by
  rw[Ad (x:=m),Ad (x:=p.z+m),Ad (x:=8*U),Ad]
 rw[w1,w2,w3]
 have mk:∀(f b n:Int) (pr:Bool),(aP≠1->1<=f/\f<=60000000)->(0<=b/\b<=9)->(aP=5\/aP=6->b=0/\f<=60)->(aP<=4->pr=false)->
   ∃it:Itm,Ag it=[I aP,I 0,I p.x,I p.y,I p.z,I (p.x+N-12),I (p.y+G-12),I (p.z+m-8*U),I 0,I 0,I 0,I 0,I 0,B false,I f,B pr,I 0,I 0,I b,I n,I 0,B false]/\it.fr=p/\it.aP=aP/\Made it/\Gb it:=by
  intro f b n pr V h2 X Y;refine⟨⟨aP,0,p,⟨p.x+N-12,p.y+G-12,p.z+m-8*U⟩,0,⟨0,0,0⟩,0,false,f,pr,0,0,b,n,0,false⟩,rfl,rfl,rfl,⟨hk,λ_=> ?_,λh=>absurd h h3,V,h2,X,Y,λ_=>rfl⟩,rfl,rfl,rfl,rfl,rfl⟩;show(p.x+N-12-p.x).natAbs<=16/\(p.y+G-12-p.y).natAbs<=16/\(p.z+m-8*U-p.z).natAbs<=16;omega
 have en:∀(f b n:Int) (pr:Bool) (k':Nat),k<=k'->(aP≠1->1<=f/\f<=60000000)->(0<=b/\b<=9)->(aP=5\/aP=6->b=0/\f<=60)->(aP<=4->pr=false)->
   ∃(it:Itm) (a0:Nat),some [I aP,I 0,I p.x,I p.y,I p.z,I (p.x+N-12),I (p.y+G-12),I (p.z+m-8*U),I 0,I 0,I 0,I 0,I 0,B false,I f,B pr,I 0,I 0,I b,I n,I 0,B false, .vC Aa l,I k']=some (Ag it++[.vC Aa l,I a0])/\k<=a0/\it.fr=p/\it.aP=aP/\Made it/\Gb it:=by
  intro f b n pr k' h0 V h2 X Y;obtain⟨it,i1,i2⟩:=mk f b n pr V h2 X Y;refine⟨it,k',?_,h0,i2⟩;rw[i1];rfl
 by_cases V:aP=1
 ·rw[ac V];exact en _ _ _ _ _ (by omega) (λh=>absurd V h) (by omega) (by omega) (λ_=>rfl)
 rw[ab V];obtain⟨v6,k6,e6,a6,b6,c6,-,-⟩:=D k5 (n:=5) (by omega);obtain⟨v7,k7,e7,a7,b7,c7,-,-⟩:=D k6 (n:=5) (by omega);obtain⟨v8,k8,e8,a8,b8,c8,-,-⟩:=D k7 (n:=60) (by omega);obtain⟨v9,k9,e9,a9,b9,c9,-,-⟩:=D k8 (n:=2) (by omega);simp only[go_sem,e6,e7,e8,e9];rw[ac (by grind),ac (by grind)];obtain⟨f,hf,d1,d2⟩:=Zga ⟨a6,b6⟩;obtain⟨b,hb,d3,d4⟩:=Zan ⟨a7,b7⟩;rw[hf,hb,Ad (x:=1+v8),Ad (x:=3+v9)];by_cases Y:aP=5
 ·rw[ac Y,ab];exact en _ _ _ _ _ (by omega) (by omega) (by omega) (by omega) (by omega)
 rw[ab Y];by_cases h6:aP=6
 ·rw[ac h6,ac h6];exact en _ _ _ _ _ (by omega) (by omega) (by omega) (by omega) (by omega)
 rw[ab h6];by_cases X:aP=4
 ·rw[ac X];exact en _ _ _ _ _ (by omega) (by omega) (by omega) (by omega) (λ_=>rfl)
 rw[ab X];exact en _ _ _ _ _ (by omega) (by omega) (by omega) (by omega) (λ_=>rfl)
def Z1u (G:Src l) {p:Pt} (D:bd 100000000 p) {aP:Int} (L:1<=aP/\aP<=6) (k:Nat):
  ∃(it:Itm) (k':Nat),Rf [I p.x,I p.y,I p.z,I aP, .vC Aa l,I k]=some (Ag it++[.vC Aa l,I k'])/\k<=k'/\it.fr=p/\it.aP=aP/\Made it/\Gb it:=
 Z6y (HX G) (λD k=>Z9c G D (by omega) k) D L k
def WI {it:Itm} (h:ArcMade a it) (M:a<=1000) (hf:bd i it.fr):bd (i+2*(12+a.toNat)) it.to/\bd (i+8+a.toNat) it.ce:=by
 obtain⟨r,k,t,g,x,N,O,U,V,X,Y,h7,h8,h9,I,L,D,G⟩:=h.ends;obtain⟨q1,q2,q3⟩:=FL (pl:=it.aG) hf;obtain⟨⟨r1,r2⟩,r3,r4⟩:=L7 (r:=r) (k:=k) (by omega);obtain⟨⟨r5,r6⟩,r7,r8⟩:=L7 (r:=r+g) (k:=k+t) (by omega);rw[D,G];unfold bd spP;constructor<;>split<;>(try split)<;>refine⟨?_,?_,?_⟩<;>simp only<;>omega
def Qpo {it:Itm} (h:Made it) (hf:bd i it.fr):bd (i+40) it.to:=by
 by_cases D:it.aP=3
 ·exact AH (WI (h.arc D) (by omega) hf).1 (by omega)
 obtain⟨G,I,L⟩:=h.line D;obtain⟨g1,g2,M⟩:=hf;exact⟨by omega,by omega,by omega⟩
instance (pl:Int):Decidable (CU pl):=by unfold CU;infer_instance
instance (A:Nat) (p:Pt):Decidable (bd A p):=by unfold bd;infer_instance
def dU (it:Itm) (p:Pt):Int:=plU it.aG p-plU it.aG it.ce
def dW (it:Itm) (p:Pt):Int:=plW it.aG p-plW it.aG it.ce
def sq2 (u w:Int):Int:=u*u+w*w
def crs (u w x y:Int):Int:=u*y-w*x
def dt2 (u w x y:Int):Int:=u*x+w*y
def qA (it:Itm):Int:=sq2 (dU it it.fr) (dW it it.fr)
def qB (it:Itm):Int:=sq2 (dU it it.to) (dW it it.to)
def cAB (it:Itm):Int:=crs (dU it it.fr) (dW it it.fr) (dU it it.to) (dW it it.to)
def dAB (it:Itm):Int:=dt2 (dU it it.fr) (dW it it.fr) (dU it it.to) (dW it it.to)
def JJ (X Y:Int):Prop:=X+Y-16<=0\/(X+Y-16)*(X+Y-16)<=4*X*Y
def Q9a (it:Itm):Prop:=64<=qA it/\64<=qB it/\JJ (qA it) (qB it)/\(it.bI=true->dU it it.fr=dU it it.to/\dW it it.fr=dW it it.to)/\(it.bI=false->cAB it≠0\/dAB it<0)
def Zyd (it:Itm):Prop:=CU it.aG/\(it.dir=1\/it.dir= -1)/\bd 1048576 it.ce/\Q9a it
def Cb (it:Itm):Prop:=(1<=it.aP/\it.aP<=6)/\bd 1048576 it.fr/\bd 1048576 it.to/\(it.aP=3->Zyd it)
def Qb4 {it:Itm} {b c:Nat} (D:bd c it.ce) (h:bd b d):(dU it d).natAbs<=b+c/\(dW it d).natAbs<=b+c:=by
 obtain⟨G,I,L⟩:=FL (pl:=it.aG) h;obtain⟨g1,g2,M⟩:=FL (pl:=it.aG) D
 grind [dU,dW]
def V_ (x:Int) {b:Nat} (h:x.natAbs<=b):0<=x*x/\x*x<=((b*b:Nat):Int):=by
 have D:=EF h h
 grind [Int.natAbs_mul_self]
def Tp {u w:Int} (D:u.natAbs<=i) (G:w.natAbs<=i):0<=sq2 u w/\sq2 u w<=((2*(i*i):Nat):Int):=by
 have I:=V_ u D;have L:=V_ w G
 grind [sq2]
def Qdn {u w x y:Int} {b c:Nat} (D:u.natAbs<=b) (G:w.natAbs<=b) (I:x.natAbs<=c) (L:y.natAbs<=c):(dt2 u w x y).natAbs<=2*(b*c)/\(crs u w x y).natAbs<=2*(b*c):=by
 have M:=EF D I;have N:=EF G L;have O:=EF D L;have U:=EF G I
 grind [dt2,crs]
theorem Zpm (D:64<=a) (G:64<=u):JJ a u↔(max a u-min a u-16<=0\/(max a u-min a u-16)*(max a u-min a u-16)<=64*min a u):=by
 unfold JJ;have key:∀M m:Int,64<=M->64<=m->m<=M->((M+m-16<=0\/(M+m-16)*(M+m-16)<=4*M*m)↔(M-m-16<=0\/(M-m-16)*(M-m-16)<=64*m)):=by
  intro M m L N O;have e:(M-m-16)*(M-m-16)-64*m=(M+m-16)*(M+m-16)-4*M*m:=by grind
  by_cases I:M-m-16<=0
  ·refine iff_of_true (.inr ?_) (.inl I);have U:(16-(M-m))*(M-m+16)>=0:=al
   grind
  omega
 by_cases h:a<=u
 ·rw[kf h,Int.min_eq_left h,<-key u a G D h];have e1:a+u-16=u+a-16:=by omega
  have e2:4*a*u=4*u*a:=by grind
  rw[e1,e2]
 rw[jt (by omega),Int.min_eq_right (by omega),<-key a u D G (by omega)]
def Zwu (p:Pt):RL [I p.x,I p.y,I p.z]=some [B (decide (bd 1048576 p))]:=by
 unfold RL;rw[Zw4];simp only[go_sem];by_cases h:bd 1048576 p
 ·obtain⟨D,G,L⟩:=h;rw[ab,ab,ab,ab,ab,ab];congr 3;symm;exact av ⟨D,G,L⟩
 have e:=ba h;unfold bd at h;by_cases M:p.x< -1048576
 ·grind
 by_cases N:p.x>1048576
 ·grind
 grind
def axI (pl:Int):Int×Int×Int:=if pl=17 then(0,1,2)else if pl=18 then(2,0,1)else if pl=19 then(1,2,0)else(0,0,0)
def Qd2 (pl:Int):IF [I pl]=some [I (axI pl).1,I (axI pl).2.1,I (axI pl).2.2,B (decide (CU pl))]:=by
 unfold IF;rw[Z78];unfold axI CU
 grind
def Ych (D:∀pl:Int,M [I pl]=some [I (axI pl).1,I (axI pl).2.1,I (axI pl).2.2,B (decide (CU pl))]) {p:Pt} {pl:Int} (G:CU pl):
  XX M [I p.x,I p.y,I p.z,I pl]=some [I (plU pl p),I (plW pl p),I (plH pl p)]:=by
 rw[Ydw];simp only[D];rcases G with rfl|rfl|rfl<;>rfl
def Zu (D:CU a):IB [I d.x,I d.y,I d.z,I a]=some [I (plU a d),I (plW a d),I (plH a d)]:=Ych Qd2 D
def Am (p:Pt):Pt:=⟨p.x*16,p.y*16,p.z*16⟩
def C7 (h:bd i d):bd (i*16) (Am d):=by
 obtain⟨D,G,I⟩:=h;unfold Am;exact⟨by grind,by grind,by grind⟩
theorem FK (pl:Int) (p:Pt):plU pl (Am p)=plU pl p*16/\plW pl (Am p)=plW pl p*16/\plH pl (Am p)=plH pl p*16:=by grind [plU,plW,plH,Am]
def Q5f (h:bd 100000000 d):JD [I d.x,I d.y,I d.z]=some (ptR (Am d)):=by
 unfold JD;rw[Zvn];obtain⟨D,G,L⟩:=h;rw[Ad,Ad,Ad];rfl
def Qfo {u w r h x y s g:Int} (D:u.natAbs<=1000000000) (G:w.natAbs<=1000000000) (L:x.natAbs<=1000000000) (M:y.natAbs<=1000000000):JC [I u,I w,I r,I h,I x,I y,I s,I g]=some [I (dt2 u w x y)]:=by
 unfold JC;rw[Z4i];have N:=EF D L;have O:=EF G M
 grind [dt2,Ad]
def Qhd {u w r h x y s g:Int} (D:u.natAbs<=1000000000) (G:w.natAbs<=1000000000) (L:x.natAbs<=1000000000) (M:y.natAbs<=1000000000):J0 [I u,I w,I r,I h,I x,I y,I s,I g]=some [I (crs u w x y)]:=by
 unfold J0;rw[Zvr];have N:=EF D M;have O:=EF G L
 grind [crs,Ad]
def Zpt (L:∀{a b c d:Int},i64 a->i64 b->i64 c->i64 d->M [I a,I b,I c,I d]=some [I (IL (a*b) (c*d))]) {X Y:Int} (N:64<=X/\X<=1000000000000000) (O:64<=Y/\Y<=1000000000000000):
  ∃v,Zr M [I X,I Y]=some [B v]/\(v=true↔JJ X Y):=by
 rw[Zyr,Zpm N.1 O.1];have D:mx X Y=max X Y:=by unfold mx;rw[Int.max_def];split<;>split<;>omega
 have G:mn X Y=min X Y:=by unfold mn;rw[Int.min_def];split<;>split<;>omega
 have U:max X Y<=1000000000000000/\64<=max X Y:=by omega
 have V:min X Y<=1000000000000000/\64<=min X Y:=by omega
 rw[D,G];generalize max X Y=a at*;generalize min X Y=b at*;simp only[go_sem];rw[Ad (x:=a-b),Ad];by_cases c1:a-b-16<=0
 ·simp_all
 rw[ab c1,L (by grind [i64]) (by grind [i64]) (by grind [i64]) (by grind [i64])];refine⟨_,rfl,?_⟩;simp only[go_sem,Wu];omega
def Zsi (D:64<=a/\a<=1000000000000000) (G:64<=u/\u<=1000000000000000):∃v,UK [I a,I u]=some [B v]/\(v=true↔JJ a u):=Zpt W_ D G
def Z6w {it:Itm} (G:∀p:Pt,M [I p.x,I p.y,I p.z,I it.aG]=some [I (plU it.aG p),I (plW it.aG p),I (plH it.aG p)]) (hS:∀{p:Pt},bd 100000000 p->Z [I p.x,I p.y,I p.z]=some (ptR (Am p)))
  (U:bd 1048576 it.fr) (V:bd 1048576 it.to) (X:bd 1048576 it.ce):
  Zt M Z (Ak (Qjs M Z)) (Ag it)=some [I (dU it it.fr*16),I (dW it it.fr*16),I 0,I (plH it.aG it.fr*16),I (dU it it.to*16),I (dW it it.to*16),I 0,I (plH it.aG it.to*16)]:=by
 rw[Z3h];obtain⟨q1,q2,q3⟩:=FL (pl:=it.aG) U;obtain⟨q4,q5,q6⟩:=FL (pl:=it.aG) V;obtain⟨q7,q8,q9⟩:=FL (pl:=it.aG) X;simp only[hS (AH X (by omega)),G,go_sem];have w0:O (0+1)=1:=Ad;have Y:O (1+1)=2:=Ad;have L:=FK it.aG it.fr;have N:=FK it.aG it.to;have D:=FK it.aG it.ce;have u1:O (plU it.aG (Am it.fr)-plU it.aG (Am it.ce))=dU it it.fr*16:=by rw[L.1,D.1];unfold dU;rw[Ad];omega
 have u2:O (plW it.aG (Am it.fr)-plW it.aG (Am it.ce))=dW it it.fr*16:=by rw[L.2.1,D.2.1];unfold dW;rw[Ad];omega
 have u3:O (plU it.aG (Am it.to)-plU it.aG (Am it.ce))=dU it it.to*16:=by rw[N.1,D.1];unfold dU;rw[Ad];omega
 have u4:O (plW it.aG (Am it.to)-plW it.aG (Am it.ce))=dW it it.to*16:=by rw[N.2.1,D.2.1];unfold dW;rw[Ad];omega
 have b1:bd 100000000 it.fr:=AH U (by omega);have b2:bd 100000000 it.to:=AH V (by omega);have e1:=hS b1;have e2:=hS b2;rw[Bw (by rw[Qim];simp only[go_sem,e1,e2,G,u1,u2,w0];rfl),Bw (by rw[Qim];simp only[go_sem,e1,e2,G,u3,u4,Y];rfl),
  Bc (o:=(1,_)) (by rw[Qim];simp only[go_sem];rfl) (by simp)]
 simp only[go_sem,L.2.2,N.2.2]
theorem Zkr {it:Itm} (D:CU it.aG) (G:bd 1048576 it.fr) (L:bd 1048576 it.to) (M:bd 1048576 it.ce):
  P_ (Ag it)=some [I (dU it it.fr*16),I (dW it it.fr*16),I 0,I (plH it.aG it.fr*16),I (dU it it.to*16),I (dW it it.to*16),I 0,I (plH it.aG it.to*16)]:=
 Z6w (λ_=>Zu D) Q5f G L M
def Yek {G:Fn} {X Y C D L M N U:Int} {bI:Bool} (hX:0<=X/\X<=1000000000000000) (hY:0<=Y/\Y<=1000000000000000)
  (V:∀{X Y:Int},(64<=X/\X<=1000000000000000)->(64<=Y/\Y<=1000000000000000)->∃v,G [I X,I Y]=some [B v]/\(v=true↔JJ X Y)):
  ∃ v, (if X * 256 < O (128 * 128) then some [B false] else if Y * 256 < O (128 * 128) then some [B false] else
   (G [I (O ((X*256).tdiv 256)),I (O ((Y*256).tdiv 256))]).bind λo=>
   if¬EJ (nth .vD o 0)=true then some [B false]else if bI=true then if L*16=N*16 then some [B (M*16==U*16)]else some [B false]else if C*256≠0 then some [B true]else some [B (decide (D*256<0))])=some [B v]/\
   (v=true↔64<=X/\64<=Y/\JJ X Y/\(bI=true->L=N/\M=U)/\(bI=false->C≠0\/D<0)):=by
 rw[Ad,Int.mul_tdiv_cancel _ (by omega),Int.mul_tdiv_cancel _ (by omega),Ad,Ad];by_cases c1:X*256<128*128
 ·rw[ac c1];grind
 by_cases c2:Y*256<128*128
 ·grind
 obtain⟨v,h1,h2⟩:=V (X:=X) (Y:=Y) (by omega) (by omega);simp only[h1,go_sem]
 grind
theorem Q85 (a b c d:Int):dt2 (a*16) (b*16) (c*16) (d*16)=dt2 a b c d*256/\crs (a*16) (b*16) (c*16) (d*16)=crs a b c d*256:=by grind [dt2,crs]
def Zug (hA:∀pl:Int,H [I pl]=some [I (axI pl).1,I (axI pl).2.1,I (axI pl).2.2,B (decide (CU pl))]) (hW:∀p:Pt,G [I p.x,I p.y,I p.z]=some [B (decide (bd 1048576 p))])
  {it:Itm} (hE:CU it.aG->bd 1048576 it.fr->bd 1048576 it.to->bd 1048576 it.ce->P (Ag it)=some [I (dU it it.fr*16),I (dW it it.fr*16),I 0,I (plH it.aG it.fr*16),I (dU it it.to*16),I (dW it it.to*16),I 0,I (plH it.aG it.to*16)])
  (hD:∀{u w r h x y s g:Int},u.natAbs<=1000000000->w.natAbs<=1000000000->x.natAbs<=1000000000->y.natAbs<=1000000000->V [I u,I w,I r,I h,I x,I y,I s,I g]=some [I (dt2 u w x y)])
  (hX:∀{u w r h x y s g:Int},u.natAbs<=1000000000->w.natAbs<=1000000000->x.natAbs<=1000000000->y.natAbs<=1000000000->M [I u,I w,I r,I h,I x,I y,I s,I g]=some [I (crs u w x y)])
  (hN:∀{X Y:Int},(64<=X/\X<=1000000000000000)->(64<=Y/\Y<=1000000000000000)->∃v,Z [I X,I Y]=some [B v]/\(v=true↔JJ X Y)):
  ∃v,Qik M Z V P H G (Ag it)=some [B v]/\(v=true↔Cb it):=by
 rw[Z3t];simp only[go_sem,hW,hA];by_cases c1:it.aP<1
 ·rw[ac c1];exact⟨_,rfl,ji (by simp) λh=>by have:=h.1;omega⟩
 rw[ab c1];by_cases O:it.aP>6
 ·rw[ac O];exact⟨_,rfl,ji (by simp) λh=>by have:=h.1;omega⟩
 rw[ab O];by_cases U:bd 1048576 it.fr
 case neg=>rw[ac];exact⟨_,rfl,ji (by simp) λh=>U h.2.1⟩
 rw[ab (by grind)];by_cases c3:bd 1048576 it.to
 case neg=>rw[ac];exact⟨_,rfl,ji (by simp) λh=>c3 h.2.2.1⟩
 rw[ab (by grind)];by_cases L:it.aP=3
 case neg=>rw[ac L];exact⟨_,rfl,iff_of_true rfl ⟨by omega,U,c3,λh=>absurd h L⟩⟩
 rw[ab];by_cases c5:CU it.aG
 case neg=>rw[ac];exact⟨_,rfl,ji (by simp) λh=>c5 (h.2.2.2 L).1⟩
 rw[ab (by grind)];by_cases N:bd 1048576 it.ce
 case neg=>
  refine⟨false,?_,ji (by simp) λh=>N (h.2.2.2 L).2.2.1⟩;simp_all
 by_cases c6:it.dir=1\/it.dir= -1
 case neg=>
  rw[ac (c:=it.dir≠1),ac (c:=it.dir≠-1)];exact⟨false,rfl,ji (by simp) λh=>c6 (h.2.2.2 L).2.1⟩
 have D:=hE c5 U c3 N;obtain⟨b1,b2⟩:=Qb4 (it:=it) N U;obtain⟨b3,b4⟩:=Qb4 (it:=it) N c3;simp only[Ag]at D;have x1:=Tp b1 b2;have x2:=Tp b3 b4;have core:Cb it↔64<=qA it/\64<=qB it/\JJ (qA it) (qB it)/\(it.bI=true->dU it it.fr=dU it it.to/\dW it it.fr=dW it it.to)/\(it.bI=false->cAB it≠0\/dAB it<0):=
  ⟨λh=>(h.2.2.2 L).2.2.2,λh=>⟨by omega,U,c3,λ_=>⟨c5,c6,N,h⟩⟩⟩
 rw[core];have a0:0<=qA it/\qA it<=1000000000000000:=⟨x1.1,by grind [qA]⟩;have a1:0<=qB it/\qB it<=1000000000000000:=⟨x2.1,by grind [qB]⟩;have D1:= @hD (dU it it.fr*16) (dW it it.fr*16) 0 (plH it.aG it.fr*16) (dU it it.fr*16) (dW it it.fr*16) 0 (plH it.aG it.fr*16) (by omega) (by omega) (by omega) (by omega);have D2:= @hD (dU it it.to*16) (dW it it.to*16) 0 (plH it.aG it.to*16) (dU it it.to*16) (dW it it.to*16) 0 (plH it.aG it.to*16) (by omega) (by omega) (by omega) (by omega);have D3:= @hD (dU it it.fr*16) (dW it it.fr*16) 0 (plH it.aG it.fr*16) (dU it it.to*16) (dW it it.to*16) 0 (plH it.aG it.to*16) (by omega) (by omega) (by omega) (by omega);have D4:= @hX (dU it it.fr*16) (dW it it.fr*16) 0 (plH it.aG it.fr*16) (dU it it.to*16) (dW it it.to*16) 0 (plH it.aG it.to*16) (by omega) (by omega) (by omega) (by omega);rw[(Q85 _ _ _ _).1]at D1 D2 D3;rw[(Q85 _ _ _ _).2]at D4;have e1:dt2 (dU it it.fr) (dW it it.fr) (dU it it.fr) (dW it it.fr)=qA it:=rfl;have e2:dt2 (dU it it.to) (dW it it.to) (dU it it.to) (dW it it.to)=qB it:=rfl;have e3:dt2 (dU it it.fr) (dW it it.fr) (dU it it.to) (dW it it.to)=dAB it:=rfl;have e4:crs (dU it it.fr) (dW it it.fr) (dU it it.to) (dW it it.to)=cAB it:=rfl;rw[e1]at D1;rw[e2]at D2;rw[e3]at D3;rw[e4]at D4;have T:= @Yek Z (qA it) (qB it) (cAB it) (dAB it) (dU it it.fr) (dW it it.fr) (dU it it.to) (dW it it.to) it.bI a0 a1 hN;have n7: ¬ ¬bd 1048576 it.ce:=λh=>h N;by_cases d1:it.dir=1
 ·rw[ab (c:=it.dir≠1) (λh=>h d1),ab n7];simp only[D,go_sem,D1,D2,D3,D4];exact T
 rw[ac (c:=it.dir≠1) d1,ab (c:=it.dir≠-1),ab n7];simp only[D,go_sem,D1,D2,D3,D4];exact T
def Td (it:Itm):∃v,Gs (Ag it)=some [B v]/\(v=true↔Cb it):=
 Zug Qd2 Zwu (λD G I L=>Zkr D G I L) Qfo Qhd Zsi
def okS (s:Spk):Prop:=s.u.natAbs<=50000000/\s.w.natAbs<=50000000/\(0<=s.r/\s.r<=50000000)/\s.h.natAbs<=16777216
def hf (a b:Int):Int:=(a+b+1)/2
def BR (a b:Spk) (dir:Int) (bI:Bool):Int×Int:=
 if bI=true then(-a.u,-a.w)
 else if 0<dt2 a.u a.w b.u b.w/\0<crs a.u a.w b.u b.w*dir then(a.u+b.u,a.w+b.w)
 else if 0<dt2 a.u a.w b.u b.w then(-(a.u+b.u),-(a.w+b.w))
 else(dir*(b.w-a.w),dir*(a.u-b.u))
noncomputable def DC (a b:Spk) (u w:Int):Spk:=if u=0/\w=0 then⟨0,0,0,0⟩else⟨AM u (hf a.r b.r) (sq2 u w),AM w (hf a.r b.r) (sq2 u w),hf a.r b.r,hf a.h b.h⟩
noncomputable def AS (a b:Spk) (dir:Int) (bI:Bool):Spk:=DC a b (BR a b dir bI).1 (BR a b dir bI).2
def NE {a b:Spk} (D:okS a) (hb:okS b) {dir:Int} (hd:dir=1\/dir= -1) (bI:Bool):(BR a b dir bI).1.natAbs<=100000000/\(BR a b dir bI).2.natAbs<=100000000:=by
 obtain⟨a1,a2,-⟩:=D;obtain⟨b1,b2,-⟩:=hb;unfold BR
 grind
def Kl (u w:Int):u*u<=sq2 u w/\w*w<=sq2 u w:=by
 have D:=Bj u;have G:=Bj w
 grind [sq2]
def KA {u w:Int} (h: ¬(u=0/\w=0)):0<sq2 u w:=by
 have D:=Bj u;have G:=Bj w
 grind [Int.mul_eq_zero,sq2]
def Qee (D:0<=a/\a<=50000000) (hb:0<=b/\b<=50000000):0<=hf a b/\hf a b<=50000000:=by grind [hf]
def Zqx (D:a.natAbs<=16777216) (hb:b.natAbs<=16777216):(hf a b).natAbs<=16777216:=by grind [hf]
theorem Qep {u w r:Int} (D:u.natAbs<=100000000) (G:w.natAbs<=100000000) (N:0<=r/\r<=50000000) (h: ¬(u=0/\w=0)):(AM u r (sq2 u w)).natAbs<=r.natAbs/\(AM w r (sq2 u w)).natAbs<=r.natAbs:=by
 have O:=KA h;have U:=B3 D;have V:=B3 G;have X:sq2 u w<=20000000000000000:=by unfold sq2;omega
 obtain⟨Y,q2⟩:=Kl u w;have key:∀x:Int,x.natAbs<=100000000->x*x<=sq2 u w->(AM x r (sq2 u w)).natAbs<=r.natAbs:=by
  intro x I L;have M:=(To (r:=r) (co I (by decide)) (by omega) (by omega) L).2;refine YX (by omega) ?_ M;have:((x.natAbs*x.natAbs:Nat):Int)=x*x:=bv;omega
 grind
def Qns {a b:Spk} (D:okS a) (hb:okS b) {u w:Int} (I:u.natAbs<=100000000) (L:w.natAbs<=100000000):okS (DC a b u w):=by
 unfold DC;split
 ·exact⟨by simp,by simp,by simp,by simp⟩
 rename_i h;have G:=Qee D.2.2.1 hb.2.2.1;obtain⟨M,N⟩:=Qep I L G h;exact⟨by grind,by grind,G,Zqx D.2.2.2 hb.2.2.2⟩
def Qax {a b:Spk} (D:okS a) (hb:okS b) {dir:Int} (hd:dir=1\/dir= -1) (bI:Bool):okS (AS a b dir bI):=
 Qns D hb (NE D hb hd bI).1 (NE D hb hd bI).2
def HT {x:Int} (h:x.natAbs<=50000000):x.natAbs<=1000000000:=by omega
def EN (a b:Spk) (dir:Int) (bI:Bool):Prop:=bI=false/\0<crs a.u a.w b.u b.w*dir/\sq2 (a.u-b.u) (a.w-b.w)<=32*mn a.r b.r-64
instance {a b:Spk} {dir:Int} {bI:Bool}:Decidable (EN a b dir bI):=by unfold EN;infer_instance
noncomputable def A0 (dir:Int):Nat->Bool->Spk->Spk->List Spk
 |0,_,_,b=>[b]
 |k+1,bI,a,b=>if EN a b dir bI then [b]else A0 dir k false a (AS a b dir bI)++A0 dir k false (AS a b dir bI) b
def XF {dir:Int}:∀(k:Nat) (bI:Bool) (a b:Spk),1<=(A0 dir k bI a b).length/\(A0 dir k bI a b).length<=2^k
 |0,_,_,b=>by simp[A0]
 |k+1,bI,a,b=>by
  unfold A0;split
  ·grind
  have D:=XF k false a (AS a b dir bI) (dir:=dir);have G:=XF k false (AS a b dir bI) b (dir:=dir)
  grind
theorem X8 {dir:Int} (hd:dir=1\/dir= -1):∀(k:Nat) (bI:Bool) {a b:Spk},okS a->okS b->∀s∈A0 dir k bI a b,okS s
 |0,_,a,b,_,hb,s,D=>by grind [A0]
 |k+1,bI,a,b,G,hb,s,D=>by
  unfold A0 at D;have I:=Qax G hb hd bI;split at D
  ·grind
  rcases bt.1 D with D|D
  ·exact X8 hd k false G I s D
  exact X8 hd k false I hb s D
theorem Zuf {n i j:Int} (I:Ka n i) (L:Ka n j):i=j:=by
 have key:∀{i j:Int},Ka n i->Ka n j-> ¬i<j:=by
  rintro i j ⟨M,N,-⟩ ⟨O,U,D⟩ G;rcases D with D|D
  ·omega
  have V:=cv (show i<=j-1 by omega) (show i+1<=j by omega);omega
 grind
open Classical in
noncomputable def Fo (n:Int):Int:=if h:∃j,Ka n j then Classical.choose h else 0
theorem Pu {n k:Int} (h:Ka n k):Fo n=k:=by
 have D:∃j,Ka n j:=⟨k,h⟩;unfold Fo
 grind [Zuf]
theorem Sh {n r:Nat} (D:r*r<=n) (G:n<(r+1)*(r+1)):Ka n (if r*r+r<n then r+1 else r:Nat):=by
 unfold Ka;by_cases c:r*r+r<n
 ·rw[ac c]
  grind
 grind
noncomputable def Av (it:Itm) (p:Pt):Spk:=⟨dU it p*16,dW it p*16,Fo (sq2 (dU it p*16) (dW it p*16)),plH it.aG p*16⟩
def Zxx {n:Nat} (hn:n<=2251799813685248):0<=Fo n/\Fo n<=50000000:=by
 obtain⟨r,D,G⟩:=LT n;have I:=Sh D G;rw[Pu I];have:r<50000000:=by
  by_cases c:r<50000000
  ·exact c
  have:=d9 (show 50000000<=r by omega) (show 50000000<=r by omega);omega
 grind
def PP {it:Itm} (D:bd 1048576 it.ce) (G:bd 1048576 d):(dU it d*16).natAbs<=33554432/\(dW it d*16).natAbs<=33554432/\0<=sq2 (dU it d*16) (dW it d*16)/\sq2 (dU it d*16) (dW it d*16)<=2251799813685248:=by
 obtain⟨M,N⟩:=Qb4 D G;have I:(dU it d*16).natAbs<=33554432:=by omega
 have L:(dW it d*16).natAbs<=33554432:=by omega
 have O:=B3 I;have U:=B3 L
 grind [sq2]
theorem P6 {it:Itm} (G:bd 1048576 it.ce) (D:bd 1048576 d):okS (Av it d):=by
 obtain⟨I,L,M,N⟩:=PP G D;have O:=(FL (pl:=it.aG) D).2.2;obtain⟨n,hn⟩:=bh M;refine⟨co I (by decide),co L (by decide),?_,?_⟩
 ·show 0<=Fo _/\Fo _<=_;rw[hn]at N⊢;exact Zxx (by omega)
 show(plH it.aG d*16).natAbs<=_;omega
noncomputable def Dh (it:Itm):List Spk:=Av it it.fr::A0 it.dir 16 it.bI (Av it it.fr) (Av it it.to)
def Zcb {it:Itm} (h:Cb it) (G:it.aP=3):∀s∈Dh it,okS s:=by
 obtain⟨-,L,M,I⟩:=h;obtain⟨N,hd,O,-⟩:=I G;intro s D;rcases be.1 D with rfl|D
 ·grind [P6]
 grind [X8,P6]
theorem Quz (it:Itm):2<=(Dh it).length/\(Dh it).length<=65537:=by
 have:=XF (dir:=it.dir) 16 it.bI (Av it it.fr) (Av it it.to);simp_all [Dh]
noncomputable def Bo (it:Itm) (s:Spk):Pt:=spP it.aG (plU it.aG (Am it.ce)+s.u) (plW it.aG (Am it.ce)+s.w) s.h
noncomputable def BE (it:Itm):List Pt:=if it.aP=3 then(Dh it).map (Bo it)else [Am it.fr,Am it.to]
def Qgp {pl u w h:Int} (D:u.natAbs<=i) (G:w.natAbs<=i) (I:h.natAbs<=i):bd i (spP pl u w h):=by grind [spP,bd]
def Zue {it:Itm} {s:Spk} (D:bd 1048576 it.ce) (G:okS s):bd 67108864 (Bo it s):=by
 obtain⟨I,L,-⟩:=FL (pl:=it.aG) (C7 D);obtain⟨s1,s2,-,M⟩:=G;exact Qgp (by omega) (by omega) (by omega)
def Qcp {it:Itm} (h:Cb it):∀p∈BE it,bd 67108864 p:=by
 intro p D;unfold BE at D;split at D
 ·rename_i G;simp at D;obtain⟨s,I,rfl⟩:=D;exact Zue (h.2.2.2 G).2.2.1 (Zcb h G s I)
 simp at D;rcases D with rfl|rfl
 ·exact AH (C7 h.2.1) (by decide)
 exact AH (C7 h.2.2.1) (by decide)
def Qw3 (it:Itm):2<=(BE it).length/\(BE it).length<=65537:=by grind [Quz,BE]
def Ge (t:Itm) (aS:Int):Int:=if t.aP=1 then 0 else mx (AA (mn (if t.perRev=true then t.aZ*mx aS 1 else t.aZ) 60000000*4096) 60000) 1
def Zux {f s:Int} (hf:0<=f/\f<=60000000) (G:0<=s/\s<=30000):0<=f*mx s 1/\f*mx s 1<=1800000000000:=by
 have D:1<=mx s 1/\mx s 1<=30000:=by unfold mx;split<;>omega
 generalize mx s 1=m at*;have I:=cv hf.2 D.2;have L:=al hf.1 (show 0<=m by omega);omega
def Q4p {x:Int} (h:0<=x):0<=mn x 60000000/\mn x 60000000<=60000000:=by grind [mn]
def Z4w {t:Itm} (hf:0<=t.aZ/\t.aZ<=60000000) (G:0<=u/\u<=30000)
  (D:∀a:Int,0<=a/\a<=60000000->M [I a,I 4096,I 60000,I 2]=some [I (AA (a*4096) 60000),B true]):Yd M (Ag t++[I u])=some [I (Ge t u)]:=by
 have L:=Zux hf G;have N:=D _ (Q4p L.1);have U:=D _ (Q4p hf.1);have V:O (t.aZ*mx u 1)=t.aZ*mx u 1:=Ad;simp;rw[Qwu,V];simp only[go_sem,N,U];unfold Ge
 grind
theorem Zpu {t:Itm} (hf:0<=t.aZ/\t.aZ<=60000000) (D:0<=u/\u<=30000):L_ (Ag t++[I u])=some [I (Ge t u)]:=
 Z4w hf D λa G=>VR (by grind [i64]) (by grind [i64]) (by omega) (by grind)
def it0:Itm:=⟨0,0,⟨0,0,0⟩,⟨0,0,0⟩,0,⟨0,0,0⟩,0,false,0,false,0,0,0,0,0,false⟩
def vE (aA:List Itm) (i:Nat):Itm:=aA.getD i it0
theorem PQ {aA:List Itm} (h:i<aA.length):vE aA i=aA[i]:=by grind [vE]
def Tu {aA:List Itm} (h:i<aA.length):vE aA i∈aA:=by grind [PQ]
def Fq {aA:List Itm} (h:i<aA.length):nth [] (aA.map Ag) i=Ag (vE aA i):=by grind [PQ,IS]
theorem Xa {aA:List Itm} (h:i<aA.length):aA.drop i=vE aA i::aA.drop (i+1):=by grind [PQ,NX]
def Aw (it:Itm):Prop:=1<=it.aP/\it.aP<=6
def smI (it:Itm):Prop:=it.aP=2/\it.fr≠it.to
def syI (it:Itm):Prop:=it.aP=5\/it.aP=6
instance (it:Itm):Decidable (Aw it):=by unfold Aw;infer_instance
instance (it:Itm):Decidable (smI it):=by unfold smI;infer_instance
instance (it:Itm):Decidable (syI it):=by unfold syI;infer_instance
def AQ (it:Itm):Pt:=⟨(it.fr.x+it.to.x)*8,(it.fr.y+it.to.y)*8,(it.fr.z+it.to.z)*8⟩
def KN {it:Itm} (D:bd 1048576 it.fr) (G:bd 1048576 it.to):bd B24 (AQ it):=by
 unfold bd B24 AQ at*
 grind
def II:List Itm->Nat->Int
 |[],_=> -1
 |it::l,k=>if it.aP=10 then II l (k+1)else if smI it then k else-1
def BP (aA:List Itm) (i:Nat):Int:=if smI (vE aA i)/\(vE aA i).bJ≠0 then II (aA.drop (i+1)) (i+1)else-1
def Qos:∀(l:List Itm) (k:Nat),II l k= -1\/∃j:Nat,II l k=((k+j:Nat):Int)/\∃h:j<l.length,smI l[j]/\∀i (G:i<l.length),i<j->l[i].aP=10
 |[],_=> .inl rfl
 |it::l,k=>by
  unfold II;split
  ·rename_i D;rcases Qos l (k+1)with h|⟨j,I,L,M,N⟩
   ·omega
   refine .inr ⟨j+1,by omega,by grind,by grind,?_⟩
   grind
  grind
theorem KQ (aA:List Itm) (i:Nat):BP aA i= -1\/(smI (vE aA i)/\(vE aA i).bJ≠0/\∃k:Nat,BP aA i=k/\i<k/\k<aA.length/\smI (vE aA k)/\∀j,i<j->j<k->(vE aA j).aP=10):=by
 unfold BP;split
 ·rename_i h;rcases Qos (aA.drop (i+1)) (i+1)with D|⟨j,D,G,O,I⟩
  ·omega
  have L:i+1+j<aA.length:=by rw[fo]at G;omega
  refine .inr ⟨h.1,h.2,i+1+j,D,by omega,L,?_,?_⟩
  ·grind [PQ]
  intro m M N;have:=I (m-(i+1)) (by omega) (by omega)
  grind [PQ]
 simp
def Ni (it:Itm):Int:=if it.aP=10 then 5 else if it.aP=13 then 4 else 3
def Gu:List Itm->Int
 |[]=>2
 |it::l=>if Aw it then(if syI it then 1 else 2)else Gu l
def Of (aA:List Itm) (i:Nat):Int:=if(vE aA i).aP=4 then 6 else if(vE aA i).bJ=0 then 1 else if syI (vE aA i)then 1 else Gu (aA.drop (i+1))
noncomputable def Fm (aA:List Itm) (i k:Nat):List Pt:=Ea (AQ (vE aA i)) (Am (vE aA i).to) (AQ (vE aA k)) ((vE aA i).bJ*16)
def drawn (it:Itm):Prop:=Cb it/\0<=it.bJ/\it.bJ<=1000
theorem JL {aA:List Itm} {i k:Nat} (D:drawn (vE aA i)) (G:drawn (vE aA k)):(∀p∈Fm aA i k,bd B24 p)/\1<=(Fm aA i k).length/\(Fm aA i k).length<=65:=
 Q01 (KN D.1.2.1 D.1.2.2.1) (C7 D.1.2.2.1) (KN G.1.2.1 G.1.2.2.1)
noncomputable def Hq (aA:List Itm) (i:Nat) (frm:Int):List Pt:=if 0<=frm then(Fm aA frm.toNat i).drop ((Fm aA frm.toNat i).length/2)else(BE (vE aA i)).take 1
noncomputable def GJ (aA:List Itm) (i:Nat):List Pt:=if 0<=BP aA i then(Fm aA i (BP aA i).toNat).take ((Fm aA i (BP aA i).toNat).length/2+1)else(BE (vE aA i)).drop 1
noncomputable def BL (aA:List Itm) (i:Nat) (frm:Int):List Pt:=if smI (vE aA i)then Hq aA i frm++[AQ (vE aA i)]++GJ aA i else BE (vE aA i)
def Lq (aA:List Itm) (i:Nat) (frm:Int):Prop:=frm= -1\/∃f:Nat,frm=f/\f<aA.length/\drawn (vE aA f)
def Z2c {aA:List Itm} (hd:drawn (vE aA i)) (hf:Lq aA i a):(∀p∈Hq aA i a,bd 67108864 p)/\(Hq aA i a).length<=65:=by
 unfold Hq;rcases hf with rfl|⟨f,rfl,D,G⟩
 ·rw[ab];exact⟨λp I=>Qcp hd.1 p (gw I),by grind⟩
 rw[ac]
 grind [JL,AH]
theorem Tx {aA:List Itm} (D:∀k<aA.length,Aw (vE aA k)->drawn (vE aA k)) (M:0<=BP aA i):∃k:Nat,BP aA i=k/\k<aA.length/\drawn (vE aA k):=by
 rcases KQ aA i with h|⟨-,-,k,L,-,G,I,-⟩
 ·omega
 exact⟨k,L,G,D k G ⟨by have:=I.1;omega,by have:=I.1;omega⟩⟩
def Z0r {aA:List Itm} (hd:drawn (vE aA i)) (M:(vE aA i).aP≠3) (D:∀k<aA.length,Aw (vE aA k)->drawn (vE aA k)):(∀p∈GJ aA i,bd 67108864 p)/\(GJ aA i).length<=66:=by
 unfold GJ;by_cases h:0<=BP aA i
 ·rw[ac h];obtain⟨k,N,G,I⟩:=Tx D h
  grind [JL,AH]
 rw[ab h];refine⟨λp L=>Qcp hd.1 p (fh L),?_⟩;simp_all [BE]
def T0 {aA:List Itm} (hd:drawn (vE aA i)) (hf:Lq aA i a) (G:∀k<aA.length,Aw (vE aA k)->drawn (vE aA k)):
  (∀p∈BL aA i a,bd 67108864 p)/\(BL aA i a).length<=65537:=by
 unfold BL;by_cases I:smI (vE aA i)
 ·rw[ac I];obtain⟨L,M⟩:=Z2c hd hf;obtain⟨N,O⟩:=Z0r hd (by have:=I.1;omega) G;refine⟨λp D=> ?_,by grind⟩;rcases bt.1 D with D|D
  ·rcases bt.1 D with D|D
   ·grind
   simp at D;subst D;exact AH (KN hd.1.2.1 hd.1.2.2.1) (by decide)
  grind
 rw[ab I];exact⟨Qcp hd.1,(Qw3 _).2⟩
end Go.Bm
namespace Go.Bm
open Classical
def Ci (it:Itm):Prop:=it.aP<1\/it.aP>14\/(Aw it/\(¬Cb it\/(it.aP≠1/\(it.aZ<1\/it.aZ>60000000))\/it.bJ<0\/it.bJ>1000))\/(¬Aw it/\it.aP=8/\(it.n<3\/it.n>5\/it.aS<0\/it.aS>30000))
noncomputable def GZ (aA:List Itm):Nat->Nat->Int->Int
 |0,_,_=>0
 |k+1,i,last=>if Ci (vE aA i)then 1 else if Aw (vE aA i)then(if 0<=last/\(vE aA last.toNat).to≠(vE aA i).fr then 13 else GZ aA k (i+1) i)else GZ aA k (i+1) last
noncomputable def Df (aA:List Itm):Int:=if aA.length>20000 then 10 else GZ aA aA.length 0 (-1)
theorem YQ {aA:List Itm}:∀(k i:Nat) (last:Int),i+k=aA.length->GZ aA k i last=0->∀j,i<=j->j<aA.length-> ¬Ci (vE aA j)
 |0,i,last,G,_,j,I,D=>by omega
 |k+1,i,last,G,h,j,I,D=>by
  unfold GZ at h;split at h
  ·omega
  rename_i c;by_cases L:j=i
  ·grind
  split at h
  ·split at h
   ·omega
   exact YQ k (i+1) _ (by omega) h j (by omega) D
  exact YQ k (i+1) _ (by omega) h j (by omega) D
def L9 {aA:List Itm} (h:Df aA=0):aA.length<=20000/\∀j,j<aA.length-> ¬Ci (vE aA j):=by grind [Df,YQ]
def Ia {it:Itm} (h: ¬Ci it) (D:Aw it):drawn it/\(it.aP=1\/1<=it.aZ/\it.aZ<=60000000):=by
 unfold Ci at h;have G:Cb it:=by
  by_cases c:Cb it
  ·exact c
  grind
 have I: ¬((it.aP≠1/\(it.aZ<1\/it.aZ>60000000))\/it.bJ<0\/it.bJ>1000):=λc=>h (.inr (.inr (.inl ⟨D, .inr c⟩)));exact⟨⟨G,by omega,by omega⟩,by omega⟩
theorem Z3w {it:Itm} (h: ¬Ci it) (D:it.aP=8):0<=it.aS/\it.aS<=30000:=by simp_all [Ci,Aw]
noncomputable def Bd (aU aZ aX:Int) (s:List Sgm×Int×Pt) (q:Pt):List Sgm×Int×Pt:=if q=s.2.2 then s else(s.1++[⟨q,AB s.2.2 q,aU,aZ,aX⟩],s.2.1+AB s.2.2 q,q)
def R_ {aU aZ aX:Int}:∀(D:List Pt) (s:List Sgm×Int×Pt),(∀p∈D,bd 67108864 p)->bd 67108864 s.2.2->0<=s.2.1->
  (D.foldl (Bd aU aZ aX) s).1.length<=s.1.length+D.length/\s.2.1<=(D.foldl (Bd aU aZ aX) s).2.1/\(D.foldl (Bd aU aZ aX) s).2.1<=s.2.1+D.length*268435456/\bd 67108864 (D.foldl (Bd aU aZ aX) s).2.2
 |[],s,_,I,M=>by grind
 |q::D,s,L,I,M=>by
  rw[iq];have N:=L q (by simp);have U:=Ib I N;have G:Bd aU aZ aX s q=s\/Bd aU aZ aX s q=(s.1++[⟨q,AB s.2.2 q,aU,aZ,aX⟩],s.2.1+AB s.2.2 q,q):=by unfold Bd;split<;>simp
  rcases G with G|G
  ·rw[G];obtain⟨a,b,c,d⟩:=R_ D s (λp O=>L p (by grind)) I M (aU:=aU) (aZ:=aZ) (aX:=aX)
   grind
  rw[G];obtain⟨a,b,c,d⟩:=R_ D (s.1++[⟨q,AB s.2.2 q,aU,aZ,aX⟩],s.2.1+AB s.2.2 q,q) (λp O=>L p (by grind)) N (by grind) (aU:=aU) (aZ:=aZ) (aX:=aX)
  grind
structure BSt where
 aF:List Sgm
 aD:List Mrk
 (len aS frm:Int)
 bK:Bool
 (aQ at_:Pt)
def Kb (it:Itm):Int:=if syI it then mn (it.aZ*16) 16777216 else 0
def SI (it:Itm) (s:Int):Int:=if it.aP=8/\(it.n=3\/it.n=4)then it.aS else s
noncomputable def Eo (aA:List Itm) (i:Nat) (s:BSt):List Sgm×Int×Pt:=
 (BL aA i s.frm).foldl (Bd i (Ge (vE aA i) s.aS) (Kb (vE aA i))) (s.aF,s.len,if s.bK=true then s.at_ else Am (vE aA i).fr)
noncomputable def E3 (aA:List Itm) (i:Nat) (s:BSt):BSt:=
 if Aw (vE aA i)then
  ⟨(Eo aA i s).1,s.aD++[⟨(Eo aA i s).2.1,Of aA i,i⟩],(Eo aA i s).2.1,s.aS,if 0<=BP aA i then i else-1,true,if s.bK=true then s.aQ else Am (vE aA i).fr,(Eo aA i s).2.2⟩
 else⟨s.aF,s.aD++[⟨s.len,Ni (vE aA i),i⟩],s.len,SI (vE aA i) s.aS,s.frm,s.bK,s.aQ,s.at_⟩
noncomputable def Ay (aA:List Itm):Nat->BSt
 |0=>⟨[],[],0,0,-1,false,⟨0,0,0⟩,⟨0,0,0⟩⟩
 |i+1=>E3 aA i (Ay aA i)
structure BOK (aA : List Itm) (i : Nat) (s : BSt) : Prop where
 aF:s.aF.length<=i*65537
 aD:s.aD.length=i
 len:0<=s.len/\s.len<=i*65537*268435456
 aS:0<=s.aS/\s.aS<=30000
 frm:Lq aA i s.frm
 at_:s.bK=true->bd 67108864 s.at_
def Zj5 {aA:List Itm} {s:BSt} (L:i<aA.length) (D:∀j<aA.length,¬Ci (vE aA j)) (h:BOK aA i s):BOK aA (i+1) (E3 aA i s):=by
 have G:=λk M I=>(Ia (D k M) I).1;unfold E3;by_cases I:Aw (vE aA i)
 ·rw[ac I];have hd:=G i L I;obtain⟨N,V⟩:=T0 hd h.frm G;have O:bd 67108864 (if s.bK=true then s.at_ else Am (vE aA i).fr):=by
   by_cases hb:s.bK=true
   ·rw[ac hb];exact h.at_ hb
   rw[ab hb];exact AH (C7 hd.1.2.1) (by decide)
  obtain⟨a1,a2,a3,a4⟩:=R_ (BL aA i s.frm) (s.aF,s.len,if s.bK=true then s.at_ else Am (vE aA i).fr) N O h.len.1;have X:=h.aF;have U:=h.len;refine⟨?_,?_,?_,h.aS,?_,λ_=>a4⟩
  ·grind [Eo]
  ·simp[h.aD]
  ·grind [Eo]
  show Lq aA (i+1) (if 0<=BP aA i then(i:Int)else-1);split
  ·exact .inr ⟨i,rfl,L,hd⟩
  exact .inl rfl
 rw[ab I];have U:=h.len;have Y:=h.aF;have e1:(i+1)*65537=i*65537+65537:=by rw[Nat.succ_mul]
 refine⟨by grind,?_,?_,?_,h.frm,h.at_⟩
 ·simp[h.aD]
 ·grind
 show 0<=SI (vE aA i) s.aS/\SI (vE aA i) s.aS<=30000;unfold SI;split
 ·simp_all [Z3w]
 exact h.aS
theorem Ydb (aA:List Itm):BOK aA 0 ⟨[],[],0,0,-1,false,⟨0,0,0⟩,⟨0,0,0⟩⟩:=by
 refine⟨i8 _,ff,⟨fa _,?_⟩,⟨fa _,?_⟩, .inl rfl,λh=>by cases h⟩
 ·simp
 simp
def Nr {aA:List Itm} (D:∀j<aA.length,¬Ci (vE aA j)):∀i,i<=aA.length->BOK aA i (Ay aA i)
 |0,_=>by grind [Ay,Ydb]
 |i+1,G=>by rw[Ay];exact Zj5 (by omega) D (Nr D i (by omega))
noncomputable def A7 (aA:List Itm):Pth:=⟨(Ay aA aA.length).aQ,(Ay aA aA.length).aF,(Ay aA aA.length).aD⟩
def Eb:Pt->List Sgm->Pt
 |a,[]=>a
 |_,g::l=>Eb g.to l
abbrev B26:Nat:=67108864
def Oh:Pt->List Sgm->Prop
 |_,[]=>True
 |a,g::l=>g.len=AB a g.to/\g.to≠a/\bd B26 g.to/\Oh g.to l
def AJ:List Sgm->Int
 |[]=>0
 |g::l=>g.len+AJ l
theorem Pa (g:Sgm):∀(a:Pt) (l:List Sgm),Eb a (l++[g])=g.to
 |_,[]=>rfl
 |_,h::l=>by simp;exact Pa g h.to l
def Q67 {g:Sgm}:∀{a:Pt} {l:List Sgm},Oh a l->g.len=AB (Eb a l) g.to->g.to≠Eb a l->bd B26 g.to->Oh a (l++[g])
 |a,[],_,D,G,I=>⟨D,G,I,trivial⟩
 |a,k::l,h,D,G,I=>⟨h.1,h.2.1,h.2.2.1,Q67 h.2.2.2 D G I⟩
theorem Qdp (g:Sgm):∀(l:List Sgm),AJ (l++[g])=AJ l+g.len
 |[]=>by simp[AJ]
 |k::l=>by simp only[da,AJ];rw[Qdp g l];omega
def Qau (aQ:Pt) (s:List Sgm×Int×Pt):Prop:=Oh aQ s.1/\Eb aQ s.1=s.2.2/\AJ s.1=s.2.1
theorem Qi8 {aQ:Pt} {aU aZ aX:Int}:∀(D:List Pt) (s:List Sgm×Int×Pt),(∀p∈D,bd B26 p)->Qau aQ s->Qau aQ (D.foldl (Bd aU aZ aX) s)
 |[],s,_,h=>h
 |q::D,s,G,h=>by
  refine Qi8 D _ (λp I=>G p (by grind)) ?_;unfold Bd;by_cases c:q=s.2.2
  ·grind
  rw[ab c];obtain⟨L,M,N⟩:=h;refine⟨Q67 L (by rw[M]) (by grind) (G q (by simp)),Pa _ _ _,?_⟩;simp_all [Qdp]
structure BInv (s : BSt) : Prop where
 bK:s.bK=true->bd B26 s.aQ/\Qau s.aQ (s.aF,s.len,s.at_)
 empty:s.bK=false->s.aF=[]/\s.len=0/\s.aQ=⟨0,0,0⟩
def Yal {aA:List Itm} {s:BSt} (M:i<aA.length) (D:∀j<aA.length,¬Ci (vE aA j)) (L:BOK aA i s) (h:BInv s):BInv (E3 aA i s):=by
 have G:=λk N I=>(Ia (D k N) I).1;unfold E3;by_cases I:Aw (vE aA i)
 ·rw[ac I];have hd:=G i M I;obtain⟨O,-⟩:=T0 hd L.frm G;refine⟨λ_=> ?_,λhb=>(by cases hb)⟩;unfold Eo;by_cases hb:s.bK=true
  ·rw[ac hb,ac hb];obtain⟨g1,g2⟩:=h.bK hb
   grind [Qi8]
  rw[ab hb,ab hb];obtain⟨g1,g2,U⟩:=h.empty (by grind);refine⟨AH (C7 hd.1.2.1) (by decide),Qi8 _ _ O ?_⟩;rw[g1,g2];exact⟨trivial,rfl,rfl⟩
 rw[ab I];exact⟨h.bK,h.empty⟩
def Po {aA:List Itm} (D:∀j<aA.length,¬Ci (vE aA j)):∀i,i<=aA.length->BInv (Ay aA i)
 |0,_=>by rw[Ay];exact⟨λh=>(by cases h),λ_=>⟨rfl,rfl,rfl⟩⟩
 |i+1,G=>by rw[Ay];exact Yal (by omega) D (Nr D i (by omega)) (Po D i (by omega))
structure GoodPath (p : Pth) : Prop where
 aQ:bd B26 p.aQ
 aF:Oh p.aQ p.aF
 count:p.aF.length<=983055
def Ye {aA:List Itm} (hlen:aA.length<=15) (I:Df aA=0):GoodPath (A7 aA):=by
 have D:=(L9 I).2;have L:=Nr D aA.length (dm _);have G:=Po D aA.length (dm _);have M:=L.aF;unfold A7;by_cases hb:(Ay aA aA.length).bK=true
 ·obtain⟨g1,g2,-⟩:=G.bK hb;exact⟨g1,g2,by grind⟩
 obtain⟨g1,-,N⟩:=G.empty (by grind);refine⟨?_,?_,?_⟩
 ·grind [bd]
 ·simp only[g1];trivial
 grind
def Zt0 (D:bd B26 d) (hb:bd B26 q):(q.x-d.x).natAbs<=(AB d q).natAbs/\(q.y-d.y).natAbs<=(AB d q).natAbs/\(q.z-d.z).natAbs<=(AB d q).natAbs:=by
 obtain⟨N,O,-⟩:=Rj D hb;obtain⟨G,I,L⟩:=W7 d q;have key:∀x y:Int,(x-y)*(x-y)<=sqD d q->(y-x).natAbs<=(AB d q).natAbs:=by
  intro x y h;have M:(y-x).natAbs*(y-x).natAbs<=(AB d q).natAbs*(AB d q).natAbs:=by
   have e1:(((y-x).natAbs*(y-x).natAbs:Nat):Int)=(y-x)*(y-x):=bv;have e2:(((AB d q).natAbs*(AB d q).natAbs:Nat):Int)=AB d q*AB d q:=bv;have e3:(y-x)*(y-x)=(x-y)*(x-y):=by grind
   omega
  exact jq.1 M
 exact⟨key _ _ G,key _ _ I,key _ _ L⟩
theorem Zdz (D:bd B26 d) (hb:bd B26 q) (h:q≠d):1<=AB d q/\AB d q<=268435456:=by
 obtain⟨G,I,-⟩:=Rj D hb;have L:=λe=>h (VW.1 e).symm;have M:=KK d q
 grind [Ib]
theorem WV {l:List Sgm} (D:bd B26 d) (h:Oh d l):∀g∈l,1<=g.len/\g.len<=268435456/\bd B26 g.to:=by
 induction l generalizing d with
 |nil=>simp
 |cons k l G=>
  obtain⟨I,L,M,N⟩:=h
  grind [Zdz]
def Qi6 {l:List Sgm} (h:∀g∈l,1<=g.len/\g.len<=268435456/\bd B26 g.to):(l.length:Int)<=AJ l/\AJ l<=l.length*268435456:=by
 induction l with
 |nil=>simp[AJ]
 |cons k l D=>
  have:=D λg G=>h g (by grind)
  grind [AJ]
def Gh (a:Pt) (g:Sgm) (d:Int):Pt:=⟨a.x+AA ((g.to.x-a.x)*d) g.len,a.y+AA ((g.to.y-a.y)*d) g.len,a.z+AA ((g.to.z-a.z)*d) g.len⟩
def atL:Pt->List Sgm->Int->Pt
 |a,[],_=>a
 |a,g::l,s=>if s<g.len then Gh a g s else atL g.to l (s-g.len)
def atP (p:Pth) (s:Int):Pt:=atL p.aQ p.aF (max s 0)
def By:List Sgm->Int->Nat×Int
 |[],s=>(0,s)
 |[g],s=>if s<g.len then(0,s)else(0,g.len)
 |g::h::l,s=>if s<g.len then(0,s)else((By (h::l) (s-g.len)).1+1,(By (h::l) (s-g.len)).2)
def E8 (a:Pt) (l:List Sgm) (i:Nat):Pt:=Eb a (l.take i)
def sg0:Sgm:=⟨⟨0,0,0⟩,0,0,0,0⟩
def sgA (l:List Sgm) (i:Nat):Sgm:=l.getD i sg0
theorem SD {l:List Sgm} (h:i<l.length):sgA l i=l[i]:=by grind [sgA]
theorem Mf {l:List Sgm} (h:i<l.length):nth [] (l.map At) i=At (sgA l i):=by grind [SD,IS]
def Iw {l:List Sgm} (h:i<l.length):sgA l i∈l:=by grind [SD]
theorem Nz (a:Pt) (l:List Sgm):E8 a l 0=a:=by rfl
theorem Ym (a:Pt) (g:Sgm) (l:List Sgm) (i:Nat):E8 a (g::l) (i+1)=E8 g.to l i:=by rfl
theorem Qeu (g:Sgm) (l:List Sgm) (i:Nat):sgA (g::l) (i+1)=sgA l i:=by rfl
theorem Wh:∀{l:List Sgm} {i:Nat} {a:Pt},i<l.length->E8 a l (i+1)=(sgA l i).to
 |g::l,0,a,_=>by rfl
 |g::l,i+1,a,h=>by rw[Ym,Qeu];exact Wh (by grind)
theorem Qgb {x n:Int} (hn:0<n):AA (x*n) n=x:=Qs hn
theorem Yw {a:Pt} (h:0<g.len):Gh a g g.len=g.to:=by
 unfold Gh;rw[Qgb h,Qgb h,Qgb h]
 grind
theorem Zru (h:0<g.len):Gh d g 0=d:=by
 unfold Gh;have e:AA 0 g.len=0:=F6 h (by omega) (by omega);rw[i9,i9,i9,e];rw[If];exact⟨by simp,by simp,by simp⟩
theorem Qiw {l:List Sgm} (h:∀g∈l,1<=g.len):atL d l 0=d:=by
 cases l with
 |nil=>rfl
 |cons g l=>
  have:=h g (by simp);unfold atL;rw[ac,Zru (by omega)]
def Qe6:∀{l:List Sgm} {a:Pt} {s:Int},l≠[]->(∀g∈l,1<=g.len)->0<=s->
  (By l s).1<l.length/\0<=(By l s).2/\(By l s).2<=(sgA l (By l s).1).len/\atL a l s=Gh (E8 a l (By l s).1) (sgA l (By l s).1) (By l s).2
 |[],_,_,h,_,_=>absurd rfl h
 |[g],a,s,_,D,G=>by
  have I:=D g (by simp);unfold By;by_cases c:s<g.len
  ·rw[ac c];refine⟨by simp,G,by show s<=g.len;omega,?_⟩;unfold atL;rw[ac c,Nz];rfl
  rw[ab c];refine⟨by simp,by omega,fa _,?_⟩;unfold atL;rw[ab c,Nz];show atL g.to [] _=Gh a g g.len;rw[Yw (by omega)];rfl
 |g::h::l,a,s,_,D,G=>by
  unfold By;by_cases c:s<g.len
  ·rw[ac c];refine⟨by simp,G,by show s<=g.len;omega,?_⟩;unfold atL;rw[ac c,Nz];rfl
  rw[ab c];obtain⟨L,M,N,O⟩:=Qe6 (l:=h::l) (a:=g.to) (s:=s-g.len) (by simp) (λk U=>D k (by grind)) (by omega);simp_all [Qeu,atL,ab,Ym]
def QG {D L d:Int} (G:0<L) (I: -L<=D/\D<=L): -1<=AA (D*(d+1)) L-AA (D*d) L/\AA (D*(d+1)) L-AA (D*d) L<=1:=by
 have e:D*(d+1)=D*d+D:=by rw[Int.mul_add,Int.mul_one]
 have up:AA (D*d+L) L=AA (D*d) L+1:=by
  obtain⟨a,b⟩:=PI (a:=D*d) G;refine F6 G ?_ ?_
  ·rw[iv];omega
  rw[iv,iv]at*;omega
 have dn:AA (D*d-L) L=AA (D*d) L-1:=by
  obtain⟨a,b⟩:=PI (a:=D*d) G;refine F6 G ?_ ?_
  ·rw[Int.sub_mul];omega
  rw[iv]at b;rw[iv,Int.sub_mul];omega
 have m1:=H1 G (show D*(d+1)<=D*d+L by omega);have m2:=H1 G (show D*d-L<=D*(d+1) by omega);omega
def LC (a b:Pt):Prop:=(-1<=b.x-a.x/\b.x-a.x<=1)/\(-1<=b.y-a.y/\b.y-a.y<=1)/\(-1<=b.z-a.z/\b.z-a.z<=1)
def Yar (D:bd B26 d) (G:bd B26 g.to) (I:g.len=AB d g.to):(-g.len<=g.to.x-d.x/\g.to.x-d.x<=g.len)/\(-g.len<=g.to.y-d.y/\g.to.y-d.y<=g.len)/\(-g.len<=g.to.z-d.z/\g.to.z-d.z<=g.len):=by
 obtain⟨L,M,N⟩:=Zt0 D G;have:=Ib D G;rw[<-I]at*;omega
def Qrd (G:bd B26 q) (I:bd B26 g.to) (L:g.len=AB q g.to) (D:0<g.len):LC (Gh q g u) (Gh q g (u+1)):=by
 obtain⟨M,N,O⟩:=Yar G I L;have s1:=QG (d:=u) D M;have s2:=QG (d:=u) D N;have s3:=QG (d:=u) D O;unfold LC Gh;simp only;omega
def Qn2:∀{l:List Sgm} {a:Pt} {s:Int},bd B26 a->Oh a l->0<=s->LC (atL a l s) (atL a l (s+1))
 |[],a,s,_,_,_=>by unfold LC atL;simp
 |g::l,a,s,G,N,X=>by
  obtain⟨I,O,D,L⟩:=N;have U:=(Zdz G D O).1;rw[<-I]at U;unfold atL;by_cases c:s<g.len
  ·rw[ac c];by_cases M:s+1<g.len
   ·rw[ac M];exact Qrd G D I (by omega)
   rw[ab M];have e:s+1=g.len:=by omega
   have e2:s+1-g.len=0:=by omega
   rw[e2,Qiw λk V=>(WV D L k V).1,<-Yw (a:=a) (g:=g) (by omega),<-e];exact Qrd G D I (by omega)
  rw[ab c,ab,show s+1-g.len=(s-g.len)+1 by omega];exact Qn2 D L (by omega)
def Zv0 (h:GoodPath p) (s:Int):LC (atP p s) (atP p (s+1)):=by
 unfold atP;by_cases c:0<=s
 ·rw[jt c,jt (by omega)];exact Qn2 h.aQ h.aF c
 rw[kf (by omega),kf (by omega)];unfold LC;simp
def Qc9 {x n:Int} (hn:0<n) (h: -(A*n)<=x/\x<=A*n):(AA x n).natAbs<=A:=by
 have m1:=H1 hn h.2;have m2:=H1 hn h.1;rw[show-((A:Int)*n)= -(A:Int)*n by grind]at m2
 grind [Qs]
def Qty (D:0<u) (G:a.natAbs<=134217728) (hd:0<=b/\b<=u):(AA (a*b) u).natAbs<=134217728:=by
 refine Qc9 D ?_;have I:a*b<=134217728*b:=ap (by omega) hd.1;have L: -134217728*b<=a*b:=ap (by omega) hd.1;omega
structure SegOK (l : List Sgm) : Prop where
 seg:∀g∈l,1<=g.len/\g.len<=268435456/\bd B26 g.to
 count:l.length<=983055
theorem GoodPath.ok (h:GoodPath p):SegOK p.aF:=⟨WV h.aQ h.aF,h.count⟩
def Yep {l:List Sgm} (D:bd B26 d) (h:SegOK l) {i:Nat} (G:i<l.length):bd B26 (E8 d l i):=by
 cases i with
 |zero=>grind [Nz]
 |succ i=>rw[Wh (by omega)];exact(h.seg _ (Iw (by omega))).2.2
theorem Qs8 {l:List Sgm} (h:SegOK l):∀(k i:Nat) (v:Int),i+k=l.length->0<=v->v+k*268435456<=4000000000000000000->
  Ak TU [I v, .vC Ai (l.map At),I l.length,I i]=some (1,[I (v+AJ (l.drop i))])
 |0,i,v,L,_,_=>by simp_all [Bc,Q4v,AJ]
 |k+1,i,v,L,N,O=>by
  have D:i<l.length:=by omega
  have M:=h.count;have U:=h.seg _ (Iw D);have G:TU [I v, .vC Ai (l.map At),I l.length,I i]=some (0,[I (v+(sgA l i).len), .vC Ai (l.map At),I l.length,I (i+1:Nat)]):=by
   rw[Q4v];simp only[go_sem,aj,ag,Mf D];rw[ac,ac,Ad,Ad];rfl
  rw[Bw G,Qs8 h k (i+1) _ (by omega) (by omega) (by omega)]
  grind [sgA,NX,AJ]
def Ze1 (h:SegOK p.aF):Om (BG p)=some [I (AJ p.aF)]:=by
 have G:=Qs8 h p.aF.length 0 0 (by omega) (by omega) (by grind [h.count]);have D:YZ [I 0, .vC Ai (p.aF.map At),I p.aF.length,I 0]=some (1,[I (0+AJ (p.aF.drop 0))]):=G;rw[iy,Int.zero_add]at D;unfold Om;rw[Zw2];simp only[go_sem,aj,D]
theorem Zip {g h:Sgm} {l:List Sgm} {s:Int} (c: ¬s<g.len):By (g::h::l) s=((By (h::l) (s-g.len)).1+1,(By (h::l) (s-g.len)).2):=by simp_all [By]
theorem Qva {p:Pth} (h:SegOK p.aF):∀(k i:Nat) (s:Int),i+k=p.aF.length->1<=k->0<=s/\s<=9223372036854775807->
  Ak Uv (I s:: .vC Ai (p.aF.map At)::I p.aF.length::I i::BG p)=some (1,[I (i+(By (p.aF.drop i) s).1:Nat),I (By (p.aF.drop i) s).2])
 |k+1,i,s,N,_,O=>by
  have G:i<p.aF.length:=by omega
  have M:=h.count;have U:=h.seg _ (Iw G);have e:p.aF.drop i=sgA p.aF i::p.aF.drop (i+1):=by rw[SD G];exact NX _ _ G
  have D:Uv (I s:: .vC Ai (p.aF.map At)::I p.aF.length::I i::BG p)=if s<(sgA p.aF i).len then some (1,[I i,I s])else if k=0 then some (1,[I i,I (sgA p.aF i).len])else some (0,I (s-(sgA p.aF i).len):: .vC Ai (p.aF.map At)::I p.aF.length::I (i+1:Nat)::BG p):=by
   rw[Zfg];simp only[go_sem,aj,ag,Mf G];rw[ac,ac,Ad,Ad];by_cases c:s<(sgA p.aF i).len
   ·grind
   rw[ab c,ab c];by_cases L:k=0
   ·grind
   rw[ab,ab L,Ad];rfl
  by_cases c:s<(sgA p.aF i).len
  ·rw[ac c]at D;rw[Bc D (by simp),e];cases p.aF.drop (i+1)with
   |nil=>simp_all [By]
   |cons b l=>simp_all [By]
  rw[ab c]at D;by_cases L:k=0
  ·simp_all [Bc,By,ab]
  rw[ab L]at D;rw[Bw D,Qva h k (i+1) _ (by omega) (by omega) (by omega),e];have e2:p.aF.drop (i+1)=sgA p.aF (i+1)::p.aF.drop (i+1+1):=by rw[SD (by omega)];exact NX _ _ (by omega)
  rw[e2,Zip c,<-e2]
  grind
theorem X0 (h:SegOK p.aF) {s:Int} (hs:i64 s):FJ (BG p++[I s])=if p.aF=[]then some [I (-1),I 0]else some [I (By p.aF (max s 0)).1,I (By p.aF (max s 0)).2]:=by
 unfold i64 at hs;have hmx:=mx_max' s 0;by_cases c:p.aF=[]
 ·rw[ac c];have hend:OX (I (max s 0):: .vC Ai []::I 0::I 0::BG p)=some (2,[]):=by
   refine Bc ?_ (by simp);rw[Zfg,BX (by omega)]
  unfold FJ;generalize OX=N at*;have he:=Qsf N p.aQ.x p.aQ.y p.aQ.z (p.aF.map At) (p.aD.map Aq) s;refine de he ?_;rw[hmx,c];simp only[go_sem,fx,ff]
  grind
 ·rw[ab c];have hpos:0<p.aF.length:=by
   cases hh:p.aF with
   |nil=>grind
   |cons _ _=>simp
  have hL:=Qva h p.aF.length 0 (max s 0) (by omega) (by omega) (by omega);have hL':OX [I (max s 0), .vC Ai (p.aF.map At),I p.aF.length,I 0,I p.aQ.x,I p.aQ.y,I p.aQ.z, .vC Ai (p.aF.map At), .vC AN (p.aD.map Aq)]=some (1,[I (0+(By (p.aF.drop 0) (max s 0)).1:Nat),I (By (p.aF.drop 0) (max s 0)).2]):=hL;rw[iy,fw]at hL';unfold FJ;generalize OX=N at*;have he:=Qsf N p.aQ.x p.aQ.y p.aQ.z (p.aF.map At) (p.aD.map Aq) s;refine de he ?_;rw[hmx];simp only[go_sem,aj,hL']
 where mx_max' (a b:Int):mx a b=max a b:=by grind [mx]
def Z61 (h:GoodPath p) {s:Int} (G:Z (BG p++[I s])=if p.aF=[]then some [I (-1),I 0]else some [I (By p.aF (max s 0)).1,I (By p.aF (max s 0)).2])
  (hM:∀{a b c:Int},a.natAbs<=134217728->b.natAbs<=268435456->(0<c/\c<=268435456)->M [I a,I b,I c,I 2]=some [I (AA (a*b) c),B true]):
  Qbx M Z (BG p++[I s])=some (ptR (atP p s)):=by
 have he:=Zxz (AW:=M) (DP:=Z) p.aQ.x p.aQ.y p.aQ.z (p.aF.map At) (p.aD.map Aq) s;refine de he ?_;simp at G;unfold atP;by_cases c:p.aF=[]
 ·rw[ac c]at G;simp only[G,go_sem];rw[ac,c];rfl
 rw[ab c]at G;have D:=h.ok;obtain⟨f1,f2,f3,f4⟩:=Qe6 (l:=p.aF) (a:=p.aQ) (s:=max s 0) c (λg L=>(D.seg g L).1) (by omega);rw[f4];have L:=D.seg _ (Iw f1);have hr:=Mf f1;have a1:=D.count;generalize(By p.aF (max s 0)).1=i at*;generalize(By p.aF (max s 0)).2=d at*;have N:d.natAbs<=268435456:=by omega
 have fin:∀{a:Pt},bd B26 a->(M [I (O ((sgA p.aF i).to.x-a.x)),I d,I (sgA p.aF i).len,I 2]=some [I (AA (((sgA p.aF i).to.x-a.x)*d) (sgA p.aF i).len),B true]/\O (a.x+AA (((sgA p.aF i).to.x-a.x)*d) (sgA p.aF i).len)=a.x+AA (((sgA p.aF i).to.x-a.x)*d) (sgA p.aF i).len)/\
   (M [I (O ((sgA p.aF i).to.y-a.y)),I d,I (sgA p.aF i).len,I 2]=some [I (AA (((sgA p.aF i).to.y-a.y)*d) (sgA p.aF i).len),B true]/\O (a.y+AA (((sgA p.aF i).to.y-a.y)*d) (sgA p.aF i).len)=a.y+AA (((sgA p.aF i).to.y-a.y)*d) (sgA p.aF i).len)/\
   (M [I (O ((sgA p.aF i).to.z-a.z)),I d,I (sgA p.aF i).len,I 2]=some [I (AA (((sgA p.aF i).to.z-a.z)*d) (sgA p.aF i).len),B true]/\O (a.z+AA (((sgA p.aF i).to.z-a.z)*d) (sgA p.aF i).len)=a.z+AA (((sgA p.aF i).to.z-a.z)*d) (sgA p.aF i).len):=by
  intro a U;have key:∀u v:Int,u.natAbs<=B26->v.natAbs<=B26->M [I (O (u-v)),I d,I (sgA p.aF i).len,I 2]=some [I (AA ((u-v)*d) (sgA p.aF i).len),B true]/\O (v+AA ((u-v)*d) (sgA p.aF i).len)=v+AA ((u-v)*d) (sgA p.aF i).len:=by
   intro u v hu hv;have V:=I2 hu hv;rw[Jr V (by decide)];refine⟨hM (co V (by decide)) N (by omega),?_⟩;exact Jr (Wd hv (Qty (by omega) (co V (by decide)) ⟨f2,f3⟩)) (by decide)
  exact⟨key _ _ L.2.2.1 U.1,key _ _ L.2.2.2.1 U.2.1,key _ _ L.2.2.2.2 U.2.2⟩
 have X:(0:Int)<=(i:Int)/\(i:Int)<(p.aF.length:Int):=by omega
 simp only[G,go_sem,aj,ag,hr,ac X];rw[ab];by_cases c0:i=0
 ·subst c0;obtain⟨⟨m1,Y⟩,⟨m2,w2⟩,m3,w3⟩:=fin h.aQ;simp only[m1,m2,m3,go_sem,Y,w2,w3];rfl
 obtain⟨j,rfl⟩:∃j,i=j+1:=⟨i-1,by omega⟩;have hj:=Mf (l:=p.aF) (i:=j) (by omega);have a0:=D.seg _ (Iw (l:=p.aF) (i:=j) (by omega));obtain⟨⟨m1,Y⟩,⟨m2,w2⟩,m3,w3⟩:=fin a0.2.2;rw[ac,Wh (by omega)];have e1:O (((j+1:Nat):Int)-1)=(j:Int):=by rw[Ad];omega
 rw[e1];simp only[ag,hj,go_sem];rw[ac];simp only[m1,m2,m3,go_sem,Y,w2,w3];rfl
def Zfs {a b c:Int} (D:a.natAbs<=134217728) (hb:b.natAbs<=268435456) (G:0<c/\c<=268435456):Cy [I a,I b,I c,I 2]=some [I (AA (a*b) c),B true]:=by
 have:=d9 D hb
 grind [VR,i64]
def Zhp (h:GoodPath p) {s:Int} (D:i64 s):LO (BG p++[I s])=some (ptR (atP p s)):=
 Z61 h (X0 h.ok D) Zfs
def WL (h:GoodPath p):0<=AJ p.aF/\AJ p.aF<=263886834032640:=by
 have D:=Qi6 h.ok.seg;have G:=h.count;omega
theorem JP (a b:Int):mn a b=min a b:=by unfold mn;rw[Int.min_def];split<;>split<;>omega
theorem Np (a b:Int):mx a b=max a b:=by unfold mx;rw[Int.max_def];split<;>split<;>omega
def Lh (now a b mv:Int):Int:=if b>a then mv else if b<a then-mv else now
def DF (now a b:Pt) (mv:Int):Pt:=⟨Lh now.x a.x b.x mv,Lh now.y a.y b.y mv,Lh now.z a.z b.z mv⟩
def slk (was aT n v:Int):Int:=if was=aT then v else max v n
def Cs (x:Ax3) (was aT:Pt):Int:=slk was.z aT.z x.c.bB (slk was.y aT.y x.b.bB (slk was.x aT.x x.a.bB 0))
def pc0:Pce:=⟨0,0,0,0,⟨0,0,0⟩,⟨0,0,0⟩⟩
def Bu (l:List Pce):Pce:=l.getD (l.length-1) pc0
def Fs (t:Trk) (c:Pce):Trk:=
 if t.aE≠[]/\c.bD≠0/\(Bu t.aE).bD=c.bD/\(Bu t.aE).aT=c.aT then
  {t with aE:=t.aE.set (t.aE.length-1) {Bu t.aE with aR:=(Bu t.aE).aR+c.aR},length:=t.length+c.aR}
 else{t with aE:=t.aE++[{c with at_:=t.length}],length:=t.length+c.aR}
def Az (l:List Sgm) (i:Nat):Int:=AJ (l.take i)
def CV (x:Ax3) (mv:Int) (a b:Pt) (s aR:Int) (D:Trk×Pt):Trk×Pt:=
 (Fs (if Cs x D.2 (DF D.2 a b mv) > 0 then Fs D.1 ⟨0, Cs x D.2 (DF D.2 a b mv), s, 0, D.2, DF D.2 a b mv⟩ else D.1)
  ⟨0,aR,s,mv,DF D.2 a b mv,DF D.2 a b mv⟩,DF D.2 a b mv)
def Ix (p:Pth) (x:Ax3) (mv lo D:Int) (i:Nat) (s:Trk×Pt):Trk×Pt:=
 if max (Az p.aF i) lo<min (Az p.aF (i+1)) D then
  CV x mv (E8 p.aQ p.aF i) (sgA p.aF i).to (if mv<0 then min (Az p.aF (i+1)) D else max (Az p.aF i) lo) (min (Az p.aF (i+1)) D-max (Az p.aF i) lo) s
 else s
def Ei (n:Nat) (mv:Int) (j:Nat):Nat:=if mv<0 then n-1-j else j
def Cn (p:Pth) (x:Ax3) (mv lo D:Int) (G:Trk×Pt):Nat->Trk×Pt
 |0=>G
 |j+1=>Ix p x mv lo D (Ei p.aF.length mv j) (Cn p x mv lo D G j)
def Be (n D:Int):Int:=max 0 (min n D)
def Bg (p:Pth) (x:Ax3) (d:Pt) (from_ to:Int):Trk:=
 let n:=AJ p.aF
 let f:=Be from_ n
 let t:=Be to n
 (Cn p x (if f>t then-1 else 1) (min f t) (max f t) (⟨[],0,f,d⟩,d) p.aF.length).1
structure Ax3OK (x : Ax3) : Prop where
 a:0<=x.a.bB/\x.a.bB<=1000
 b:0<=x.b.bB/\x.b.bB<=1000
 c:0<=x.c.bB/\x.c.bB<=1000
def VA {x:Ax3} (h:Ax3OK x) (a b:Pt):0<=Cs x a b/\Cs x a b<=1000:=by
 obtain⟨D,G,I⟩:=h;unfold Cs slk
 (repeat' split)<;>omega
structure TB (t : Trk) (n m : Int) : Prop where
 count:(t.aE.length:Int)<=n
 len:0<=t.length/\t.length<=m
 each:∀c∈t.aE,0<=c.aR/\c.aR<=t.length
def Q3t {l:List Pce} (h:l≠[]):Bu l∈l:=by
 have G:0<l.length:=by cases l with
  |nil=>exact absurd rfl h
  |cons _ _=>simp
 have D:l.length-1<l.length:=by omega
 unfold Bu;rw[jx,an D,Option.getD_some];exact dl _
def Qj4 {n m:Int} (h:TB t n m) {c:Pce} {k:Int} (I:0<=c.aR/\c.aR<=k):TB (Fs t c) (n+1) (m+k):=by
 obtain⟨L,M,G⟩:=h;unfold Fs;by_cases g:t.aE≠[]/\c.bD≠0/\(Bu t.aE).bD=c.bD/\(Bu t.aE).aT=c.aT
 ·rw[ac g];refine⟨by simp;omega,by simp only;omega,?_⟩;intro q D;rcases gn D with D|rfl
  ·have:=G q D;simp only;omega
  have:=G _ (Q3t g.1);simp only;omega
 rw[ab g];refine⟨by simp;omega,by simp only;omega,?_⟩;intro q D;rcases bt.1 D with D|D
 ·have:=G q D;simp only;omega
 rw[jz]at D;subst D;simp only;omega
theorem Q8o (t:Trk) (c:Pce):(Fs t c).aQ=t.aQ/\(Fs t c).aT=t.aT:=by
 unfold Fs;split<;>exact⟨rfl,rfl⟩
theorem VO (l:List Sgm):Az l 0=0:=by unfold Az;rw[List.take_zero];rfl
theorem Pp {l:List Sgm} (h:i<l.length):Az l (i+1)=Az l i+(sgA l i).len:=by
 unfold Az;rw[gz,an h,Option.toList_some,Qdp,SD h]
theorem Zfq (l:List Sgm):Az l l.length=AJ l:=by unfold Az;rw[ke]
def WS {l:List Sgm} (h:SegOK l):∀i,i<=l.length->0<=Az l i/\Az l i<=i*268435456
 |0,_=>by rw[VO];simp
 |i+1,D=>by
  have:=WS h i (by omega);have:=h.seg _ (Iw (show i<l.length by omega));rw[Pp (by omega)];omega
def Zrj {x:Ax3} {mv lo hi:Int} {s:Trk×Pt} {n m:Int} (I:Ax3OK x) (L:SegOK p.aF) (D:i<p.aF.length) (h:TB s.1 n m):TB (Ix p x mv lo hi i s).1 (n+2) (m+268436456):=by
 have M:=L.seg _ (Iw D);have e:=Pp D;unfold Ix;by_cases c:max (Az p.aF i) lo<min (Az p.aF (i+1)) hi
 ·rw[ac c];have N:=VA I s.2 (DF s.2 (E8 p.aQ p.aF i) (sgA p.aF i).to mv);have e1:n+2=n+1+1:=by omega
  have e2:m+268436456=m+1000+268435456:=by omega
  rw[e1,e2];refine Qj4 ?_ (by simp only;omega);by_cases G:Cs x s.2 (DF s.2 (E8 p.aQ p.aF i) (sgA p.aF i).to mv)>0
  ·rw[ac G];exact Qj4 h (by simp only;omega)
  rw[ab G];exact⟨by have:=h.count;omega,by have:=h.len;omega,h.each⟩
 rw[ab c];exact⟨by have:=h.count;omega,by have:=h.len;omega,h.each⟩
def YY {n j:Nat} (mv:Int) (h:j<n):Ei n mv j<n:=by unfold Ei;split<;>omega
def ZC {p:Pth} {x:Ax3} {mv lo hi f:Int} {d:Pt} (D:Ax3OK x) (G:SegOK p.aF):∀j,j<=p.aF.length->TB (Cn p x mv lo hi (⟨[],0,f,d⟩,d) j).1 (j*2) (j*268436456)
 |0,_=>⟨by simp[Cn],by simp[Cn],by simp[Cn]⟩
 |j+1,I=>by
  have h:=Zrj (mv:=mv) (lo:=lo) (hi:=hi) D G (YY mv (show j<p.aF.length by omega)) (ZC (mv:=mv) (lo:=lo) (hi:=hi) (f:=f) (d:=d) D G j (by omega));have e1:((j+1:Nat):Int)*2=j*2+2:=by omega
  have e2:((j+1:Nat):Int)*268436456=j*268436456+268436456:=by omega
  rw[e1,e2];exact h
theorem Z99 {x:Ax3} (s:Trk×Pt):(Ix p x a u b i s).1.aQ=s.1.aQ/\(Ix p x a u b i s).1.aT=s.1.aT:=by
 unfold Ix;by_cases c:max (Az p.aF i) u<min (Az p.aF (i+1)) b
 ·rw[ac c];unfold CV;simp only[Q8o];by_cases D:Cs x s.2 (DF s.2 (E8 p.aQ p.aF i) (sgA p.aF i).to a)>0
  ·rw[ac D];simp only[Q8o];exact⟨trivial,trivial⟩
  rw[ab D];exact⟨rfl,rfl⟩
 rw[ab c];exact⟨rfl,rfl⟩
def DE (x:Ax3) (mv:Int) (Q:Int->Pt->Prop):Int->Int->Pt->List Pce->Prop
 |_,_,_,[]=>True
 |at_,s,d,c::l=>c.at_=at_/\c.s=s/\1<=c.aR/\((c.bD=mv/\c.was=c.aT/\Cs x d c.aT=0/\∀k,0<=k->k<c.aR->Q (s+mv*k) c.aT)\/(c.bD=0/\c.was=d/\c.aR=Cs x d c.aT))/\DE x mv Q (at_+c.aR) (s+c.bD*c.aR) c.aT l
def B2:Int->List Pce->Int
 |a,[]=>a
 |a,c::l=>B2 (a+c.aR) l
def Et:Int->List Pce->Int
 |s,[]=>s
 |s,c::l=>Et (s+c.bD*c.aR) l
def Gj:Pt->List Pce->Pt
 |d,[]=>d
 |_,c::l=>Gj c.aT l
theorem Vd (c:Pce):∀(a:Int) (l:List Pce),B2 a (l++[c])=B2 a l+c.aR
 |_,[]=>rfl
 |_,k::l=>Vd c _ l
theorem Vo (c:Pce):∀(s:Int) (l:List Pce),Et s (l++[c])=Et s l+c.bD*c.aR
 |_,[]=>rfl
 |_,k::l=>Vo c _ l
theorem Qdf (c:Pce):∀(d:Pt) (l:List Pce),Gj d (l++[c])=c.aT
 |_,[]=>rfl
 |_,k::l=>Qdf c _ l
theorem VV {x:Ax3} {mv:Int} {Q:Int->Pt->Prop} {c:Pce}:∀{at_ s:Int} {d:Pt} {l:List Pce},
  DE x mv Q at_ s d (l++[c])↔DE x mv Q at_ s d l/\c.at_=B2 at_ l/\c.s=Et s l/\1<=c.aR/\((c.bD=mv/\c.was=c.aT/\Cs x (Gj d l) c.aT=0/\∀k,0<=k->k<c.aR->Q (Et s l+mv*k) c.aT)\/(c.bD=0/\c.was=Gj d l/\c.aR=Cs x (Gj d l) c.aT))
 |at_,s,d,[]=>by simp[DE,B2,Et,Gj]
 |at_,s,d,k::l=>by
  simp only[da,DE,B2,Et,Gj];rw[VV]
  grind
theorem Zpq {l:List Pce} (h:l≠[]) (v:Pce):l.set (l.length-1) v=l.dropLast++[v]:=by
 have e:=List.dropLast_concat_getLast h
 grind
def Zo7 {l:List Pce} (h:l≠[]):l.dropLast++[Bu l]=l:=by
 have e:=List.dropLast_concat_getLast h;have D:0<l.length:=by
  cases l with
  |nil=>grind
  |cons _ _=>simp
 grind [Bu]
structure TC (x : Ax3) (mv : Int) (Q : Int -> Pt -> Prop) (t : Trk) (s : Int) (d : Pt) : Prop where
 ch:DE x mv Q 0 t.aQ t.aT t.aE
 len:B2 0 t.aE=t.length
 s:Et t.aQ t.aE=s
 d:Gj t.aT t.aE=d
def Qf7 {x:Ax3} {s:Int} (hm:a≠0) (h:TC x a Q t s d) {c:Pce} (hs:c.s=s) (hu:1<=c.aR)
  (D:(c.bD=a/\c.was=c.aT/\Cs x d c.aT=0/\∀k,0<=k->k<c.aR->Q (s+a*k) c.aT)\/(c.bD=0/\c.was=d/\c.aR=Cs x d c.aT)):TC x a Q (Fs t c) (s+c.bD*c.aR) c.aT:=by
 obtain⟨G,O,U,V⟩:=h;unfold Fs;by_cases g:t.aE≠[]/\c.bD≠0/\(Bu t.aE).bD=c.bD/\(Bu t.aE).aT=c.aT
 ·rw[ac g];obtain⟨g1,g2,X,g4⟩:=g;have e:=Zo7 g1;rw[Zpq g1];rw[<-e]at G O U V;rw[VV]at G;rw[Vd]at O;rw[Vo]at U;generalize t.aE.dropLast=I at*;generalize Bu t.aE=L at*;obtain⟨k0,Y,k2,k4,M⟩:=G
  replace D:=D.resolve_right λh=>g2 h.1
  replace M:=M.resolve_right λh=>g2 (X▸h.1)
  obtain⟨c1,c2,-,c3⟩:=D;obtain⟨q1,q2,q4,q3⟩:=M;refine⟨?_,?_,?_,?_⟩
  ·show DE x a Q 0 t.aQ t.aT (I++[_]);rw[VV];refine⟨k0,Y,k2,by grind, .inl ⟨q1,q2,q4,?_⟩⟩;intro k a0 N;simp only at N;by_cases a1:k<L.aR
   ·grind
   have:=c3 (k-L.aR) (by omega) (by omega)
   grind
  ·show B2 0 (I++[_])=t.length+c.aR;rw[Vd];grind
  ·show Et t.aQ (I++[_])=s+c.bD*c.aR
   grind [Vo]
  simp_all [Qdf]
 rw[ab g];refine⟨?_,?_,?_,?_⟩
 ·simp_all [VV]
 ·simp_all [Vd]
 ·simp_all [Vo]
 simp[Qdf]
def Zr7 (x:Ax3) (d:Pt):Cs x d d=0:=by grind [Cs,slk]
def Qtq {x:Ax3} {s aR:Int} {d a b:Pt} (G:u≠0) (N:∀w d,0<=Cs x w d) (h:TC x u Q t s d) (I:1<=aR) (L:∀k,0<=k->k<aR->Q (s+u*k) (DF d a b u)):
  TC x u Q (CV x u a b s aR (t,d)).1 (s+u*aR) (DF d a b u):=by
 unfold CV;generalize DF d a b u=D at*;by_cases c:Cs x d D>0
 ·rw[ac c];have M:=Qf7 G h (c:=⟨0,Cs x d D,s,0,d,D⟩) rfl (by grind) (.inr ⟨rfl,rfl,rfl⟩);simp at M;exact Qf7 G M rfl I (.inl ⟨rfl,rfl,Zr7 x D,L⟩)
 rw[ab c];exact Qf7 G h rfl I (.inl ⟨rfl,rfl,by grind,L⟩)
def KV (l:List Sgm) (mv lo D:Int) (j:Nat):Int:=if mv<0 then min (max (Az l (l.length-j)) lo) D else min (max (Az l j) lo) D
def Y0 (p:Pth) (mv:Int) (Q:Int->Pt->Prop):Prop:=∀i,i<p.aF.length->∀(d:Pt) (s:Int),Az p.aF i<=s->s<=Az p.aF (i+1)->Az p.aF i<=s+mv->s+mv<=Az p.aF (i+1)->Q s (DF d (E8 p.aQ p.aF i) (sgA p.aF i).to mv)
def Ze3 {p:Pth} {x:Ax3} {mv lo hi f:Int} {d:Pt} {Q:Int->Pt->Prop} (U:mv=1\/mv= -1) (M:Ax3OK x) (V:SegOK p.aF) (N:0<=lo/\lo<=hi/\hi<=AJ p.aF) (hf:(mv=1/\f=lo)\/(mv= -1/\f=hi)) (X:Y0 p mv Q):
  ∀j,j<=p.aF.length->TC x mv Q (Cn p x mv lo hi (⟨[],0,f,d⟩,d) j).1 (KV p.aF mv lo hi j) (Cn p x mv lo hi (⟨[],0,f,d⟩,d) j).2
 |0,_=>by
  have hs:KV p.aF mv lo hi 0=f:=by
   unfold KV;have:=Zfq p.aF;rcases hf with⟨rfl,rfl⟩|⟨rfl,rfl⟩
   ·rw[ab,VO];omega
   grind
  rw[hs];exact⟨trivial,rfl,rfl,rfl⟩
 |j+1,hj=>by
  have G:=Ze3 U M V N hf X (f:=f) (d:=d) j (by omega);have L:=YY mv (show j<p.aF.length by omega);have hg:=V.seg _ (Iw L);have O:=Pp L;have Y:=X _ L;rw[Cn];unfold Ix;have D:(mv=1/\Ei p.aF.length mv j=j)\/(mv= -1/\Ei p.aF.length mv j=p.aF.length-1-j):=by
   unfold Ei;rcases U with rfl|rfl
   ·simp
   simp
  have I:KV p.aF mv lo hi j=(if mv<0 then min (max (Az p.aF (Ei p.aF.length mv j+1)) lo) hi else min (max (Az p.aF (Ei p.aF.length mv j)) lo) hi)/\
    KV p.aF mv lo hi (j+1)=(if mv<0 then min (max (Az p.aF (Ei p.aF.length mv j)) lo) hi else min (max (Az p.aF (Ei p.aF.length mv j+1)) lo) hi):=by
   unfold KV;rcases D with⟨rfl,e⟩|⟨rfl,e⟩
   ·grind
   grind
  rw[I.1]at G;rw[I.2];generalize Ei p.aF.length mv j=i at*;generalize Cn p x mv lo hi (⟨[],0,f,d⟩,d) j=w at*;obtain⟨t,dn⟩:=w;simp only at G⊢;by_cases c:max (Az p.aF i) lo<min (Az p.aF (i+1)) hi
  ·rw[ac c];rcases D with⟨rfl,-⟩|⟨rfl,-⟩
   ·rw[ab]at G⊢;rw[ab];have e1:min (max (Az p.aF i) lo) hi=max (Az p.aF i) lo:=by omega
    rw[e1]at G;have:=Qtq (a:=E8 p.aQ p.aF i) (b:=(sgA p.aF i).to) (aR:=min (Az p.aF (i+1)) hi-max (Az p.aF i) lo) (by omega) (λw d=>(VA M w d).1) G (by omega) (λk h0 h1=>Y dn _ (by omega) (by omega) (by omega) (by omega));have e2:max (Az p.aF i) lo+1*(min (Az p.aF (i+1)) hi-max (Az p.aF i) lo)=min (max (Az p.aF (i+1)) lo) hi:=by omega
    rw[e2]at this;exact this
   rw[ac]at G⊢;rw[ac];have e1:min (max (Az p.aF (i+1)) lo) hi=min (Az p.aF (i+1)) hi:=by omega
   rw[e1]at G;have:=Qtq (a:=E8 p.aQ p.aF i) (b:=(sgA p.aF i).to) (aR:=min (Az p.aF (i+1)) hi-max (Az p.aF i) lo) (by omega) (λw d=>(VA M w d).1) G (by omega) (λk h0 h1=>Y dn _ (by omega) (by omega) (by omega) (by omega));have e2:min (Az p.aF (i+1)) hi+ -1*(min (Az p.aF (i+1)) hi-max (Az p.aF i) lo)=min (max (Az p.aF i) lo) hi:=by omega
   rw[e2]at this;exact this
  grind
def Z88 {l:List Pce} (h:l≠[]):nth [] (l.map AT) (l.length-1)=AT (Bu l):=by
 have D:0<l.length:=by cases l with
  |nil=>grind
  |cons _ _=>simp
 unfold Bu
 grind [IS]
theorem Ybq:d=q↔d.x=q.x/\d.y=q.y/\d.z=q.z:=If
def Z4v {c:Pce} {n m k:Int} (h:TB t n m) (hn:n<=10000000) (hm:m<=1000000000000000000) (hk:k<=1000000000000000000) (hc:0<=c.aR/\c.aR<=k):
  XY [.vC An (t.aE.map AT),I c.at_,I c.aR,I c.s,I c.bD,I c.was.x,I c.was.y,I c.was.z,I c.aT.x,I c.aT.y,I c.aT.z,I t.length,I t.aQ,I t.aT.x,I t.aT.y,I t.aT.z]=some (Bh (Fs t c)):=by
 obtain⟨h1,h2,X⟩:=h;have Y:O (t.length+c.aR)=t.length+c.aR:=Ad;have G:((t.aE.map AT++[[I t.length,I c.aR,I c.s,I c.bD,I c.was.x,I c.was.y,I c.was.z,I c.aT.x,I c.aT.y,I c.aT.z]]).length*80).ble 140737488355328=true:=by
  rw[Nat.ble_eq,cg,aj];simp only[gh,ff];omega
 have D:(t.aE.map AT++[[I t.length,I c.aR,I c.s,I c.bD,I c.was.x,I c.was.y,I c.was.z,I c.aT.x,I c.aT.y,I c.aT.z]]).length*80<=140737488355328:=bc G;have L:some [AC.vC An (t.aE.map AT++[[I t.length,I c.aR,I c.s,I c.bD,I c.was.x,I c.was.y,I c.was.z,I c.aT.x,I c.aT.y,I c.aT.z]]),I (t.length+c.aR),I t.aQ,I t.aT.x,I t.aT.y,I t.aT.z]=
   some (Bh {t with aE:=t.aE++[{c with at_:=t.length}],length:=t.length+c.aR}):=by
  simp only[Bh,d8,bz,fx]
 by_cases V:t.aE=[]
 ·simp_all [Fs,Zil,GE]
 have hp:0<t.aE.length:=by
  cases hh:t.aE with
  |nil=>grind
  |cons _ _=>simp
 have e1:O ((t.aE.length:Int)-1)=((t.aE.length-1:Nat):Int):=by rw[Ad];omega
 have N:(0:Int)<=((t.aE.length-1:Nat):Int)/\((t.aE.length-1:Nat):Int)<(t.aE.length:Int):=by omega
 have hl:=X _ (Q3t V);have U:O ((Bu t.aE).aR+c.aR)=(Bu t.aE).aR+c.aR:=Ad;have M:some [AC.vC An ((t.aE.map AT).set (t.aE.length-1) [I (Bu t.aE).at_,I ((Bu t.aE).aR+c.aR),I (Bu t.aE).s,I (Bu t.aE).bD,I (Bu t.aE).was.x,I (Bu t.aE).was.y,I (Bu t.aE).was.z,I (Bu t.aE).aT.x,I (Bu t.aE).aT.y,I (Bu t.aE).aT.z]),I (t.length+c.aR),I t.aQ,I t.aT.x,I t.aT.y,I t.aT.z]=
  some (Bh {t with aE:=t.aE.set (t.aE.length-1) {Bu t.aE with aR:=(Bu t.aE).aR+c.aR},length:=t.length+c.aR}):=by
  simp only[Bh,List.map_set]
 have hr:=Z88 V;have main : ∀ R, R = (if c.bD ≠ 0 then if (Bu t.aE).bD = c.bD then if (Bu t.aE).aT.x = c.aT.x /\ (Bu t.aE).aT.y = c.aT.y /\ (Bu t.aE).aT.z = c.aT.z then
   some (Bh {t with aE:=t.aE.set (t.aE.length-1) {Bu t.aE with aR:=(Bu t.aE).aR+c.aR},length:=t.length+c.aR})
   else some (Bh {t with aE:=t.aE++[{c with at_:=t.length}],length:=t.length+c.aR})else some (Bh {t with aE:=t.aE++[{c with at_:=t.length}],length:=t.length+c.aR})else some (Bh {t with aE:=t.aE++[{c with at_:=t.length}],length:=t.length+c.aR}))->R=some (Bh (Fs t c)):=by
  intro R hR;rw[hR];unfold Fs;by_cases g1:c.bD≠0
  ·by_cases g2:(Bu t.aE).bD=c.bD
   ·by_cases g3:(Bu t.aE).aT.x=c.aT.x/\(Bu t.aE).aT.y=c.aT.y/\(Bu t.aE).aT.z=c.aT.z
    ·simp_all [Ybq]
    grind
   grind
  grind
 refine main _ ?_;rw[<-L,<-M];rw[Zil,aj,e1,ag,hr];simp only[go_sem,Y,U,ac N,ac D]
 grind
def Zs0 (x:Ax3) (w d:Pt):Ub (AF x++[I w.x,I w.y,I w.z,I d.x,I d.y,I d.z])=some [I (Cs x w d)]:=by
 have he:=Zo0 x.a.step x.a.aS x.a.bF x.a.bG x.a.low x.a.aY x.a.bB x.a.aV x.a.aO (x.a.aW.map Ap) x.b.step x.b.aS x.b.bF x.b.bG x.b.low x.b.aY x.b.bB x.b.aV x.b.aO (x.b.aW.map Ap) x.c.step x.c.aS x.c.bF x.c.bG x.c.low x.c.aY x.c.bB x.c.aV x.c.aO (x.c.aW.map Ap) w.x w.y w.z d.x d.y d.z;refine de he ?_
 grind [Cs,slk,Np]
def Yfh (n a b:Pt) {mv:Int} (D:mv=1\/mv= -1):Sr [I n.x,I n.y,I n.z,I a.x,I a.y,I a.z,I b.x,I b.y,I b.z,I mv]=some (ptR (DF n a b mv)):=by
 unfold Sr;rw[Zqt]
 grind [Ad,DF,Lh]
def TI {n D:Int}:It [I n,I D]=some [I (Be n D)]:=by
 unfold It;rw[Zy6];simp only[JP,Np];rfl
def Zn5 {x:Ax3} {a b:Pt} {s aR:Int} {now:Pt} {n m k:Int} (U:Ax3OK x) (h:TB t n m) (hn:n<=9000000) (hm:m<=900000000000000000) (hk:k<=900000000000000000) (O:0<=aR/\aR<=k)
  (hT:Z [I now.x,I now.y,I now.z,I a.x,I a.y,I a.z,I b.x,I b.y,I b.z,I u]=some (ptR (DF now a b u))) (X:∀w d:Pt,M (AF x++[I w.x,I w.y,I w.z,I d.x,I d.y,I d.z])=some [I (Cs x w d)])
  (L : ∀ {t : Trk} {c : Pce} {n m k : Int}, TB t n m -> n <= 10000000 -> m <= 1000000000000000000 -> k <= 1000000000000000000 -> (0 <= c.aR /\ c.aR <= k) ->
   V [.vC An (t.aE.map AT),I c.at_,I c.aR,I c.s,I c.bD,I c.was.x,I c.was.y,I c.was.z,I c.aT.x,I c.aT.y,I c.aT.z,I t.length,I t.aQ,I t.aT.x,I t.aT.y,I t.aT.z]=some (Bh (Fs t c))):
  Qjf M Z V (.vC An (t.aE.map AT)::I a.x::I a.y::I a.z::I b.x::I b.y::I b.z::I s::I aR::I now.x::I now.y::I now.z::I u::(AF x++[I t.length,I t.aQ,I t.aT.x,I t.aT.y,I t.aT.z]))=
   some (.vC An ((CV x u a b s aR (t, now)).1.aE.map AT) :: I (CV x u a b s aR (t, now)).2.x :: I (CV x u a b s aR (t, now)).2.y :: I (CV x u a b s aR (t, now)).2.z :: I u :: (AF x ++
    [I (CV x u a b s aR (t,now)).1.length,I (CV x u a b s aR (t,now)).1.aQ,I (CV x u a b s aR (t,now)).1.aT.x,I (CV x u a b s aR (t,now)).1.aT.y,I (CV x u a b s aR (t,now)).1.aT.z])):=by
 have he:=Z77 M Z V (t.aE.map AT) a.x a.y a.z b.x b.y b.z s aR now.x now.y now.z u x.a.step x.a.aS x.a.bF x.a.bG x.a.low x.a.aY x.a.bB x.a.aV x.a.aO (x.a.aW.map Ap) x.b.step x.b.aS x.b.bF x.b.bG x.b.low x.b.aY x.b.bB x.b.aV x.b.aO (x.b.aW.map Ap) x.c.step x.c.aS x.c.bF x.c.bG x.c.low x.c.aY x.c.bB x.c.aV x.c.aO (x.c.aW.map Ap) t.length t.aQ t.aT.x t.aT.y t.aT.z;refine de he ?_;have hs:=VA U now (DF now a b u);have G:=X now (DF now a b u);simp at G⊢;unfold CV;generalize DF now a b u=D at*;simp only[hT,go_sem,G];by_cases c:Cs x now D>0
 ·have Y:=L (c:=⟨0,Cs x now D,s,0,now,D⟩) h (by omega) (by omega) (k:=1000) (by omega) (by omega);have hb:=Qj4 h (c:=⟨0,Cs x now D,s,0,now,D⟩) (by omega);have N:=L (c:=⟨0,aR,s,u,D,D⟩) hb (by omega) (by omega) (by omega) O;rw[ac c,ac c];simp only[Y,go_sem,N]
 have N:=L (c:=⟨0,aR,s,u,D,D⟩) h (by omega) (by omega) (by omega) O;rw[ab c,ab c];simp only[N,go_sem]
def Z23 {x:Ax3} {s aR:Int} {now:Pt} {n m k:Int} (D:u=1\/u= -1) (G:Ax3OK x) (h:TB t n m) (hn:n<=9000000) (L:m<=900000000000000000) (M:k<=900000000000000000) (N:0<=aR/\aR<=k):
  I9 (.vC An (t.aE.map AT)::I d.x::I d.y::I d.z::I q.x::I q.y::I q.z::I s::I aR::I now.x::I now.y::I now.z::I u::(AF x++[I t.length,I t.aQ,I t.aT.x,I t.aT.y,I t.aT.z]))=
   some (.vC An ((CV x u d q s aR (t, now)).1.aE.map AT) :: I (CV x u d q s aR (t, now)).2.x :: I (CV x u d q s aR (t, now)).2.y :: I (CV x u d q s aR (t, now)).2.z :: I u :: (AF x ++
    [I (CV x u d q s aR (t,now)).1.length,I (CV x u d q s aR (t,now)).1.aQ,I (CV x u d q s aR (t,now)).1.aT.x,I (CV x u d q s aR (t,now)).1.aT.y,I (CV x u d q s aR (t,now)).1.aT.z])):=
 Zn5 G h hn L M N (Yfh now d q D) (Zs0 x) λO U V X Y=>Z4v O U V X Y
def Gf (l:List Sgm) (j:Nat):Rw:=(List.range j).map λi=>[I (Az l i)]
theorem Qab (l:List Sgm) (j:Nat):(Gf l j).length=j:=by simp[Gf]
theorem Zu2 (l:List Sgm) (j:Nat):Gf l (j+1)=Gf l j++[[I (Az l j)]]:=by grind [Gf,List.range_succ]
def Ybz {l:List Sgm} {n i:Nat} (h:i<n):nth [] (Gf l n) i=[I (Az l i)]:=by grind [Gf,Fu]
abbrev SG (p:Pth) (x:Ax3) (lo D mv:Int) (t:Trk) (now:Pt) (at_:Int) (G:Rw) (j:Nat):List AC:=
 [.vC Aa G, .vC An (t.aE.map AT),I lo,I D,I mv,I at_, .vC Ai (p.aF.map At),I p.aF.length,I j,I p.aQ.x,I p.aQ.y,I p.aQ.z, .vC Ai (p.aF.map At), .vC AN (p.aD.map Aq),I now.x,I now.y,I now.z,I mv,I x.a.step,I x.a.aS,I x.a.bF,I x.a.bG,I x.a.low,I x.a.aY,I x.a.bB,I x.a.aV,I x.a.aO, .vC Aa (x.a.aW.map Ap),I x.b.step,I x.b.aS,I x.b.bF,I x.b.bG,I x.b.low,I x.b.aY,I x.b.bB,I x.b.aV,I x.b.aO, .vC Aa (x.b.aW.map Ap),I x.c.step,I x.c.aS,I x.c.bF,I x.c.bG,I x.c.low,I x.c.aY,I x.c.bB,I x.c.aV,I x.c.aO, .vC Aa (x.c.aW.map Ap),I t.length,I t.aQ,I t.aT.x,I t.aT.y,I t.aT.z]
def Q6a {M:Fn} {p:Pth} {x:Ax3} {lo hi mv:Int} {t:Trk} {now:Pt} (h:SegOK p.aF):∀(k j:Nat),j+k=p.aF.length->
  Ak (WN M) (SG p x lo hi mv t now (Az p.aF j) (Gf p.aF j) j)=some (1,[.vC Aa (Gf p.aF p.aF.length), .vC An (t.aE.map AT),I lo,I hi,I mv,I p.aQ.x,I p.aQ.y,I p.aQ.z, .vC Ai (p.aF.map At), .vC AN (p.aD.map Aq),I now.x,I now.y,I now.z,I mv,I x.a.step,I x.a.aS,I x.a.bF,I x.a.bG,I x.a.low,I x.a.aY,I x.a.bB,I x.a.aV,I x.a.aO, .vC Aa (x.a.aW.map Ap),I x.b.step,I x.b.aS,I x.b.bF,I x.b.bG,I x.b.low,I x.b.aY,I x.b.bB,I x.b.aV,I x.b.aO, .vC Aa (x.b.aW.map Ap),I x.c.step,I x.c.aS,I x.c.bF,I x.c.bG,I x.c.low,I x.c.aY,I x.c.bB,I x.c.aV,I x.c.aO, .vC Aa (x.c.aW.map Ap),I t.length,I t.aQ,I t.aT.x,I t.aT.y,I t.aT.z])
 |0,j,U=>by simp_all [Bc,Qzs]
 |k+1,j,U=>by
  have D:j<p.aF.length:=by omega
  have L:=h.count;have N:=WS h j (by omega);have V:=h.seg _ (Iw D);have G:WN M (SG p x lo hi mv t now (Az p.aF j) (Gf p.aF j) j)=some (0,SG p x lo hi mv t now (Az p.aF (j+1)) (Gf p.aF (j+1)) (j+1)):=by
   have hle:(Gf p.aF j++[[I (Az p.aF j)]]).length*8<=140737488355328:=by rw[cg,Qab];simp;omega
   have e1:O ((j:Int)+1)=((j+1:Nat):Int):=by rw[Ad];omega
   rw[Qzs];simp only[go_sem,aj,ag,Mf D,ac hle,e1,Zu2];rw[ac,ac,Ad,Pp D]
  rw[Bw G];exact Q6a h k (j+1) (by omega)
abbrev Q9 (p:Pth) (x:Ax3) (lo D mv:Int) (t:Trk) (now:Pt) (j:Nat):List AC:=
 [.vC Aa (Gf p.aF p.aF.length), .vC An (t.aE.map AT),I lo,I D,I mv,I p.aF.length,I j,I p.aQ.x,I p.aQ.y,I p.aQ.z, .vC Ai (p.aF.map At), .vC AN (p.aD.map Aq),I now.x,I now.y,I now.z,I mv,I x.a.step,I x.a.aS,I x.a.bF,I x.a.bG,I x.a.low,I x.a.aY,I x.a.bB,I x.a.aV,I x.a.aO, .vC Aa (x.a.aW.map Ap),I x.b.step,I x.b.aS,I x.b.bF,I x.b.bG,I x.b.low,I x.b.aY,I x.b.bB,I x.b.aV,I x.b.aO, .vC Aa (x.b.aW.map Ap),I x.c.step,I x.c.aS,I x.c.bF,I x.c.bG,I x.c.low,I x.c.aY,I x.c.bB,I x.c.aV,I x.c.aO, .vC Aa (x.c.aW.map Ap),I t.length,I t.aQ,I t.aT.x,I t.aT.y,I t.aT.z]
abbrev OD (x:Ax3) (mv:Int) (t:Trk) (now:Pt):List AC:=[.vC An (t.aE.map AT),I now.x,I now.y,I now.z,I mv,I x.a.step,I x.a.aS,I x.a.bF,I x.a.bG,I x.a.low,I x.a.aY,I x.a.bB,I x.a.aV,I x.a.aO, .vC Aa (x.a.aW.map Ap),I x.b.step,I x.b.aS,I x.b.bF,I x.b.bG,I x.b.low,I x.b.aY,I x.b.bB,I x.b.aV,I x.b.aO, .vC Aa (x.b.aW.map Ap),I x.c.step,I x.c.aS,I x.c.bF,I x.c.bG,I x.c.low,I x.c.aY,I x.c.bB,I x.c.aV,I x.c.aO, .vC Aa (x.c.aW.map Ap),I t.length,I t.aQ,I t.aT.x,I t.aT.y,I t.aT.z]
def Z5z {x:Ax3} {lo hi mv:Int} {now:Pt} {n m:Int} (hv:mv=1\/mv= -1) (hp:GoodPath p) (hx:Ax3OK x) (h:TB t n m) (hn:n<=9000000) (hm:m<=900000000000000000)
  (hj:j<p.aF.length)
  (hV:∀{a b:Pt} {s aR:Int},(0<=aR/\aR<=268435456)->M [.vC An (t.aE.map AT),I a.x,I a.y,I a.z,I b.x,I b.y,I b.z,I s,I aR,I now.x,I now.y,I now.z,I mv,I x.a.step,I x.a.aS,I x.a.bF,I x.a.bG,I x.a.low,I x.a.aY,I x.a.bB,I x.a.aV,I x.a.aO, .vC Aa (x.a.aW.map Ap),I x.b.step,I x.b.aS,I x.b.bF,I x.b.bG,I x.b.low,I x.b.aY,I x.b.bB,I x.b.aV,I x.b.aO, .vC Aa (x.b.aW.map Ap),I x.c.step,I x.c.aS,I x.c.bF,I x.c.bG,I x.c.low,I x.c.aY,I x.c.bB,I x.c.aV,I x.c.aO, .vC Aa (x.c.aW.map Ap),I t.length,I t.aQ,I t.aT.x,I t.aT.y,I t.aT.z]=some (OD x mv (CV x mv a b s aR (t,now)).1 (CV x mv a b s aR (t,now)).2)):
  Xg M N (Q9 p x lo hi mv t now j)=some (0,Q9 p x lo hi mv (Ix p x mv lo hi (Ei p.aF.length mv j) (t,now)).1 (Ix p x mv lo hi (Ei p.aF.length mv j) (t,now)).2 (j+1)):=by
 have X:=hp.ok;have a4:=X.count;have U:=YY mv hj;have G:(mv=1/\Ei p.aF.length mv j=j)\/(mv= -1/\Ei p.aF.length mv j=p.aF.length-1-j):=by
  unfold Ei;rcases hv with rfl|rfl
  ·simp
  simp
 obtain⟨i,a3⟩:∃i,Ei p.aF.length mv j=i:=⟨_,rfl⟩;rw[a3]at U G⊢;have L:i<p.aF.length:=U;have hg:=X.seg _ (Iw L);have hr:=Mf L;have hb:=Ybz (l:=p.aF) L;have a5:=WS X i (by omega);have Y:=Pp L;have a0:(0:Int)<=(i:Nat)/\(i:Int)<(p.aF.length:Int):=by omega
 have V:(j:Int)<(p.aF.length:Int):=by omega
 have e1:O ((j:Int)+1)=((j+1:Nat):Int):=by rw[Ad];omega
 have hI:O (O ((p.aF.length:Int)-1)-(j:Int))=((p.aF.length-1-j:Nat):Int):=by rw[Ad (x:=(p.aF.length:Int)-1),Ad];omega
 have hw:O (Az p.aF i+(sgA p.aF i).len)=Az p.aF (i+1):=by rw[Y,Ad]
 have a1:max (Az p.aF i) lo<min (Az p.aF (i+1)) hi->O (min (Az p.aF (i+1)) hi-max (Az p.aF i) lo)=min (Az p.aF (i+1)) hi-max (Az p.aF i) lo:=λ_=>Ad;have hd:max (Az p.aF i) lo<min (Az p.aF (i+1)) hi->0<=min (Az p.aF (i+1)) hi-max (Az p.aF i) lo/\min (Az p.aF (i+1)) hi-max (Az p.aF i) lo<=268435456:=λ_=>by omega
 have a2:i≠0->O ((i:Int)-1)=((i-1:Nat):Int)/\((0:Int)<=((i-1:Nat):Int)/\((i-1:Nat):Int)<(p.aF.length:Int))/\nth [] (p.aF.map At) (i-1)=At (sgA p.aF (i-1))/\E8 p.aQ p.aF i=(sgA p.aF (i-1)).to:=by
  intro h0;refine⟨by rw[Ad];omega,by omega,Mf (by omega),?_⟩;obtain⟨q,rfl⟩:∃q,i=q+1:=⟨i-1,by omega⟩;exact Wh (by omega)
 unfold Ix;rw[Zf5];rcases G with⟨rfl,rfl⟩|⟨rfl,ei⟩
 ·simp only[go_sem,aj,Qab,ag,hr,hb,ac a0,ac V,Np,JP,hw,e1];rw[ab];by_cases c:max (Az p.aF i) lo<min (Az p.aF (i+1)) hi
  ·rw[ab,ac c,a1 c];by_cases c0:i=0
   ·rw[ab];have D:=hV (a:=p.aQ) (b:=(sgA p.aF i).to) (s:=max (Az p.aF i) lo) (hd c);subst c0;rw[Nz];rw[ab,D];rfl
   obtain⟨k1,k2,k3,k4⟩:=a2 c0;rw[ac,k1];have D:=hV (a:=(sgA p.aF (i-1)).to) (b:=(sgA p.aF i).to) (s:=max (Az p.aF i) lo) (hd c);rw[k4];simp only[ag,k3,go_sem,ac k2];rw[ab,D];rfl
  simp_all [ab]
 rw[<-ei]at hI;simp only[go_sem,aj,Qab,hI,ag,hr,hb,ac a0,ac V,Np,JP,hw,e1];rw[ac];by_cases c:max (Az p.aF i) lo<min (Az p.aF (i+1)) hi
 ·rw[ab,ac c,a1 c];by_cases c0:i=0
  ·rw[ab];have D:=hV (a:=p.aQ) (b:=(sgA p.aF i).to) (s:=min (Az p.aF (i+1)) hi) (hd c);subst c0;rw[Nz];rw[ac,D];rfl
  obtain⟨k1,k2,k3,k4⟩:=a2 c0;rw[ac,k1];have D:=hV (a:=(sgA p.aF (i-1)).to) (b:=(sgA p.aF i).to) (s:=min (Az p.aF (i+1)) hi) (hd c);rw[k4];simp only[ag,k3,go_sem,ac k2];rw[ac,D];rfl
 simp_all [ab]
def pcA (l:List Pce) (i:Nat):Pce:=l.getD i pc0
def eI (l:List Pce) (i:Nat):Int:=(pcA l i).at_+(pcA l i).aR
def fI:List Pce->Int->Nat
 |[],_=>0
 |c::l,u=>if u<=c.at_+c.aR then 0 else fI l u+1
theorem Gw (c:Pce) (l:List Pce) (i:Nat):pcA (c::l) (i+1)=pcA l i:=by rfl
theorem IH (c:Pce) (l:List Pce):pcA (c::l) 0=c:=by rfl
theorem P0 {l:List Pce} (h:i<l.length):nth [] (l.map AT) i=AT (pcA l i):=by grind [pcA,IS]
def WG:∀{l:List Pce} {u:Int} {j:Nat},j<l.length->u<=eI l j->fI l u<=j
 |c::l,u,0,_,h=>by simp_all [eI,IH,fI]
 |c::l,u,j+1,G,h=>by
  unfold fI;by_cases D:u<=c.at_+c.aR
  ·grind
  rw[ab D];have:fI l u<=j:=WG (by grind) (by grind [eI,Gw]);omega
def Q7z:∀{l:List Pce} {u:Int},fI l u<l.length->u<=eI l (fI l u)
 |[],_,h=>by grind
 |c::l,u,h=>by
  unfold fI at h⊢;by_cases D:u<=c.at_+c.aR
  ·simp_all [eI,IH]
  rw[ab D]at h⊢;have:=Q7z (l:=l) (u:=u) (by grind)
  grind [eI,Gw]
structure TQ (t : Trk) : Prop where
 count:t.aE.length<=10000000
 len:0<=t.length/\t.length<=900000000000000
 pos:∀i,i<t.aE.length->0<=(pcA t.aE i).at_/\1<=(pcA t.aE i).aR/\eI t.aE i<=t.length
 mono:∀i j,i<=j->j<t.aE.length->eI t.aE i<=eI t.aE j
 last:t.aE≠[]->eI t.aE (t.aE.length-1)=t.length
 aQ:0<=t.aQ/\t.aQ<=263886834032640
 s:∀i,i<t.aE.length-> -900000000000000<=(pcA t.aE i).s/\(pcA t.aE i).s<=2000000000000000
 bD:∀i,i<t.aE.length->(pcA t.aE i).bD=0\/(pcA t.aE i).bD=1\/(pcA t.aE i).bD= -1
def clT (t:Trk) (u:Int):Int:=Be u t.length
def NF (h:TQ t) (u:Int):0<=clT t u/\clT t u<=t.length:=by grind [h.len,clT,Be]
def iT (t:Trk) (u:Int):Nat:=fI t.aE (clT t u)
def Io (h:TQ t) (u:Int) (D:t.aE≠[]):iT t u<t.aE.length:=by
 have G:0<t.aE.length:=by
  cases I:t.aE with
  |nil=>grind
  |cons _ _=>simp
 have:=WG (l:=t.aE) (j:=t.aE.length-1) (by omega) (by rw[h.last D];exact(NF h u).2)
 grind [iT]
def AD (t:Trk) (u:Int):Int:=if t.aE=[]then t.aQ else(pcA t.aE (iT t u)).s+(pcA t.aE (iT t u)).bD*(clT t u-(pcA t.aE (iT t u)).at_)
def HW (t:Trk) (u:Int):Prop:=t.aE≠[]/\(pcA t.aE (iT t u)).bD=0/\(pcA t.aE (iT t u)).at_<clT t u/\clT t u<eI t.aE (iT t u)
def Qar {t:Trk} (h:TQ t) {u:Int} (D:fI t.aE u<t.aE.length):∀(k lo D:Nat),D-lo<=k->lo<=fI t.aE u->fI t.aE u<=D->D<t.aE.length->
  Ak UN [I u,I lo,I D, .vC An (t.aE.map AT),I t.length,I t.aQ,I t.aT.x,I t.aT.y,I t.aT.z]=some (1,[I (fI t.aE u)])
 |k,lo,D,hk,X,Y,h3=>by
  have V:=h.count;have hl:=h.len;by_cases c:lo<D
  ·have em:O ((O ((lo:Int)+D)).tdiv 2)=(((lo+D)/2:Nat):Int):=by
    rw[Ad (x:=(lo:Int)+D),dg (by omega),Ad];omega
   have a0:lo<=(lo+D)/2/\(lo+D)/2<D:=by omega
   generalize(lo+D)/2=m at*;have G:m<t.aE.length:=by omega
   have M:=h.pos m G;have U:(0:Int)<=(m:Int)/\(m:Int)<(t.aE.length:Int):=by omega
   have hw:O ((pcA t.aE m).at_+(pcA t.aE m).aR)=eI t.aE m:=by unfold eI at M⊢;exact Ad
   have L:UN [I u,I lo,I D, .vC An (t.aE.map AT),I t.length,I t.aQ,I t.aT.x,I t.aT.y,I t.aT.z]=if u<=eI t.aE m then some (0,[I u,I lo,I m, .vC An (t.aE.map AT),I t.length,I t.aQ,I t.aT.x,I t.aT.y,I t.aT.z])else some (0,[I u,I (m+1:Nat),I D, .vC An (t.aE.map AT),I t.length,I t.aQ,I t.aT.x,I t.aT.y,I t.aT.z]):=by
    rw[Qcr,em];simp only[go_sem,aj,ag,P0 G,ac U,hw,Ad (x:=(m:Int)+1)];rw[ac];rfl
   by_cases N:u<=eI t.aE m
   ·rw[ac N]at L;rw[Bw L];cases k with
    |zero=>omega
    |succ k=>exact Qar h (by omega) k lo m (by omega) X (WG G N) G
   rw[ab N]at L;rw[Bw L];have a1:m<fI t.aE u:=by
    by_cases c3:fI t.aE u<=m
    ·exact absurd (dh (Q7z (by omega)) (h.mono _ _ c3 G)) N
    omega
   cases k with
   |zero=>omega
   |succ k=>exact Qar h (by omega) k (m+1) D (by omega) (by omega) Y h3
  refine Bc (o:=(1,_)) ?_ (by simp);rw[Qcr,BX (by omega),show fI t.aE u=D by omega]
def Qay (h:TQ t) (u:Int):KX (Bh t++[I (clT t u)])=some [I (if t.aE=[]then-1 else(iT t u:Int))]:=by
 have he:=Yd1 QJ (t.aE.map AT) t.length t.aQ t.aT.x t.aT.y t.aT.z (clT t u);refine de he ?_;rw[aj];have L:=h.count;by_cases c:t.aE=[]
 ·have D:QJ [I (clT t u),I 0,I (-1), .vC An (t.aE.map AT),I t.length,I t.aQ,I t.aT.x,I t.aT.y,I t.aT.z]=some (1,[I (-1)]):=by
   refine Bc ?_ (by simp);rw[Qcr,BX (by omega)]
  have e1:O ((t.aE.length:Int)-1)= -1:=by rw[c];rfl
  rw[ac c,e1];simp only[D,go_sem]
 have U:0<t.aE.length:=by
  cases V:t.aE with
  |nil=>grind
  |cons _ _=>simp
 have M:=Io h u c;have D:=Qar h M t.aE.length 0 (t.aE.length-1) (by omega) (by omega) (by grind [iT]) (by omega);have G:QJ [I (clT t u),I 0,I (t.aE.length-1:Nat), .vC An (t.aE.map AT),I t.length,I t.aQ,I t.aT.x,I t.aT.y,I t.aT.z]=some (1,[I (iT t u:Int)]):=D;have e1:O ((t.aE.length:Int)-1)=((t.aE.length-1:Nat):Int):=by rw[Ad];omega
 rw[ab c,e1];generalize QJ=N at*;simp only[G,go_sem]
theorem Z16 (h:TQ t) (u:Int) (D:t.aE≠[]):
  O ((pcA t.aE (iT t u)).s+O ((pcA t.aE (iT t u)).bD*O (clT t u-(pcA t.aE (iT t u)).at_)))=AD t u:=by
 have I:=Io h u D;have L:=h.pos _ I;have M:=h.s _ I;have G:=h.bD _ I;have N:=NF h u;have U:=h.len;unfold AD eI at*;rw[ab D,Ad (x:=clT t u-_)];generalize pcA t.aE (iT t u)=c at*;have hb:(-900000000000000<=c.bD*(clT t u-c.at_)/\c.bD*(clT t u-c.at_)<=900000000000000):=by
  rcases G with G|G|G<;>rw[G]<;>omega
 rw[Ad (x:=c.bD*_),Ad]
def Zpj (h:TQ t) {u:Int} (L:Z [I u,I t.length]=some [I (clT t u)]) (D:M (Bh t++[I (clT t u)])=some [I (if t.aE=[]then-1 else(iT t u:Int))]):Qhg M Z (Bh t++[I u])=some [I (AD t u)]:=by
 have he:=Z0a M Z (t.aE.map AT) t.length t.aQ t.aT.x t.aT.y t.aT.z u;refine de he ?_;simp at D;by_cases c:t.aE=[]
 ·rw[ac c]at D;simp only[L,D,go_sem];simp_all [AD]
 have N:=Io h u c;have G:(0:Int)<=(iT t u:Int)/\(iT t u:Int)<(t.aE.length:Int):=by omega
 rw[ab c]at D;simp only[L,D,go_sem,aj,ac G,ag,P0 N,Z16 h u c];rfl
def Tq (h:TQ t) (u:Int):Fw (Bh t++[I u])=some [I (AD t u)]:=Zpj h TI (Qay h u)
def Z8l (h:TQ t) {u:Int} (L:Z [I u,I t.length]=some [I (clT t u)]) (D:M (Bh t++[I (clT t u)])=some [I (if t.aE=[]then-1 else(iT t u:Int))]):Qc2 M Z (Bh t++[I u])=some [B (decide (HW t u))]:=by
 have he:=Zxy M Z (t.aE.map AT) t.length t.aQ t.aT.x t.aT.y t.aT.z u;refine de he ?_;simp at D;by_cases c:t.aE=[]
 ·rw[ac c]at D;simp only[L,D,go_sem];rw[ac,ba λg=>g.1 c]
 have N:=Io h u c;have G:=h.pos _ N;have hl:=h.len;have U:(0:Int)<=(iT t u:Int)/\(iT t u:Int)<(t.aE.length:Int):=by omega
 have V:O ((pcA t.aE (iT t u)).at_+(pcA t.aE (iT t u)).aR)=eI t.aE (iT t u):=by unfold eI at G⊢;exact Ad
 rw[ab c]at D;simp only[L,D,go_sem,ag,P0 N,V];by_cases X:(pcA t.aE (iT t u)).bD=0
 ·by_cases Y:(pcA t.aE (iT t u)).at_<clT t u
  ·rw[ac X,ac Y];by_cases c3:clT t u<eI t.aE (iT t u)
   ·grind [HW]
   grind [HW]
  simp_all [ab,ba,HW]
 simp_all [HW]
def Z2j (h:TQ t) (u:Int):U1 (Bh t++[I u])=some [B (decide (HW t u))]:=Z8l h TI (Qay h u)
end Go.Bm
