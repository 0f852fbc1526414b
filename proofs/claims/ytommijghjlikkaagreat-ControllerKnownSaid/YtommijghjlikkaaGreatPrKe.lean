/- laid together -/
import Derived.Test.YtommijghjlikkaaGreatPrCw
import Derived.Test.YtommijghjlikkaaGreatPrTc
import Derived.Test.YtommijghjlikkaaGreatMx3
import Derived.Test.YtommijghjlikkaaGreatBmTy
set_option linter.unusedVariables false
set_option linter.unusedSimpArgs false
set_option maxRecDepth 100000
open Go.IntKind (wrap)
namespace Go.Bm
theorem Ztq {MO:Fn} {c a:Pt} {d:Int} (hc:bd B24 c) (ha:bd B24 a) (hne:a≠c) (hd:0<=d/\d<=33554432)
  (hN:∀{x:Int},x.natAbs<=33554432*4->x*x<=sqD a c->MO [I x,I d,I (sqD a c),I 2]=some [I (B9 x d (sqD a c)),B true]/\(B9 x d (sqD a c)).natAbs<=268435456):
  XG MO [I c.x,I c.y,I c.z,I a.x,I a.y,I a.z,I d]=some (ptR (BY c a d)++[B true]):=by
 obtain⟨q1,q2,q3⟩:=Q9o a c;have x1:=Im ha.1 hc.1;have x2:=Im ha.2.1 hc.2.1;have x3:=Im ha.2.2 hc.2.2;obtain⟨n1,b1⟩:=hN (x:=a.x-c.x) (cd x1 (by decide)) q1;obtain⟨n2,b2⟩:=hN (x:=a.y-c.y) (cd x2 (by decide)) q2;obtain⟨n3,b3⟩:=hN (x:=a.z-c.z) (cd x3 (by decide)) q3;have h6: ¬d<0:=Int.not_lt.2 hd.1;have h7: ¬d>33554432:=Int.not_lt.2 hd.2;rw[Z46,Qzd (AZ ha (by decide)) (AZ hc (by decide)),H3 x1 (by decide),H3 x2 (by decide),H3 x3 (by decide)];simp only[go_sem,n1,n2,n3];rw[ab (λh=>hne (DZ.2 ⟨h.1,h.2.1,h.2.2.1⟩)),ab h6,ab h7];rw[H3 (SX hc.1 b1) (by decide),H3 (SX hc.2.1 b2) (by decide),H3 (SX hc.2.2 b3) (by decide)];rfl
theorem Qlp {c a:Pt} {d:Int} (hc:bd B24 c) (ha:bd B24 a) (hne:a≠c) (hd:0<=d/\d<=33554432):
  GH [I c.x,I c.y,I c.z,I a.x,I a.y,I a.z,I d]=some (ptR (BY c a d)++[B true]):=by
 have h0:sqD a c≠0:=λh=>hne (YR.1 h);have h1:=QM a c;have h2:=Pw (AZ ha (by decide)) (AZ hc (by decide)) (show 67108864<=67108864 by omega);refine Ztq hc ha hne hd fun{x} hx hq=> ?_;obtain⟨-,g2,-⟩:=T9 hx (r:=d) (by omega) (n:=sqD a c) (by omega) hq;exact⟨Qgd (cd hx (by decide)) (by omega) (by omega),g2⟩
theorem Qx4 {p c q:Pt} (hp:bd B24 p) (hc:bd B24 c) (hq:bd B24 q):GC [I p.x,I p.y,I p.z,I c.x,I c.y,I c.z,I q.x,I q.y,I q.z]=some [I (Hn p c q)]:=by
 have hb:=Z3u hp hc hq;have g1:=DH hb.1;have g2:=DH hb.2.1;have g3:=DH hb.2.2;unfold GC;unfold bd B24 at hp hc hq;have w:∀u v c:Int,u.natAbs<=16777216->v.natAbs<=16777216->c.natAbs<=16777216->wrap .i64 (wrap .i64 (u+v)-wrap .i64 (2*c))=u-c+(v-c):=by
  intro u v c h1 h2 h3;rw[Ae (x:=u+v) (by omega),Ae (x:=2*c) (by omega),Ae (by omega)];omega
 rw[Ze6,w _ _ _ hp.1 hq.1 hc.1,w _ _ _ hp.2.1 hq.2.1 hc.2.1,w _ _ _ hp.2.2 hq.2.2 hc.2.2];have e1:p.x-c.x+(q.x-c.x)=(F5 p c q).x:=rfl;have e2:p.y-c.y+(q.y-c.y)=(F5 p c q).y:=rfl;have e3:p.z-c.z+(q.z-c.z)=(F5 p c q).z:=rfl;rw[e1,e2,e3];unfold Hn Jr;generalize(F5 p c q).x*(F5 p c q).x=u at*;generalize(F5 p c q).y*(F5 p c q).y=v at*;generalize(F5 p c q).z*(F5 p c q).z=w at*;rw[Ae (x:=u) (by omega),Ae (x:=0+u) (by omega),Ae (x:=v) (by omega),Ae (x:=0+u+v) (by omega),Ae (x:=w) (by omega),Ae (by omega),Int.zero_add]
open Classical in
theorem Zbd {MB MT ML:Fn} {a c b:Pt} {tol d e bit:Int} (ha:bd B24 a) (hc:bd B24 c) (hb:bd B24 b) (hac:a≠c) (hbc:b≠c) (ht:0<=tol/\tol<=16000) (hd:0<=d/\d+e<=33554432) (he:0<e) (hbit:e.fdiv (2^min (Int.toNat 1) IntKind.i64.bits)=bit)
  (l3:0<=AE a c/\AE a c<=268435456) (l4:0<=AE c b/\AE c b<=268435456)
  (hT:∀{a:Pt} {d:Int},bd B24 a->a≠c->0<=d/\d<=33554432->MT [I c.x,I c.y,I c.z,I a.x,I a.y,I a.z,I d]=some (ptR (BY c a d)++[B true]))
  (hB:∀{p q:Pt},bd B24 p->bd B24 q->MB [I p.x,I p.y,I p.z,I c.x,I c.y,I c.z,I q.x,I q.y,I q.z]=some [I (Hn p c q)]):
  Nt MB MT ML [I tol,I (mn (AE a c) (AE c b)-2),I d,I e,I a.x,I a.y,I a.z,I c.x,I c.y,I c.z,I b.x,I b.y,I b.z]=
   some (0,[I tol,I (mn (AE a c) (AE c b)-2),I (if Hc a c b tol (d+e)then d+e else d),I bit,I a.x,I a.y,I a.z,I c.x,I c.y,I c.z,I b.x,I b.y,I b.z]):=by
 obtain⟨m1,m2⟩:=Sn (AE a c) (AE c b);have ht2:0<=16*tol*tol/\16*tol*tol<=4096000000:=by
  have:=dq (show 16*tol<=256000 by omega) ht.2 ht.1 (by omega);exact⟨Int.mul_nonneg (by omega) ht.1,by omega⟩
 rw[Qw0,hbit,Ae (x:=d+e) (by omega),DI he,Ae (x:=16*tol) (by omega),Ae (x:=16*tol*tol) (by omega)];by_cases h:d+e>mn (AE a c) (AE c b)-2
 ·rw[DI h,ab (λh3:Hc a c b tol (d+e)=>by have:=h3.1;omega)]
 ·rw[A3 h];have k1:bd B24 (BY c a (d+e)):=KH hc ha hac (by omega);have k2:bd B24 (BY c b (d+e)):=KH hc hb hbc (by rw[Tr b c];omega);have t1:=hT (d:=d+e) ha hac (by omega);have t2:=hT (d:=d+e) hb hbc (by omega);simp only[ax,az,ptR]at t1 t2;simp only[t1,t2,go_sem,hB k1 k2];by_cases h2:Hn (BY c a (d+e)) c (BY c b (d+e))<=16*tol*tol
  ·rw[aa h2,aa (show Hc a c b tol (d+e)from⟨by omega,h2⟩)]
  ·rw[ab h2,ab (λh3:Hc a c b tol (d+e)=>h2 h3.2)]
open Classical in
theorem Q70 {MB MT ML:Fn} {a c b:Pt} {tol m:Int}
  (hst : ∀ {d e bit : Int}, 0 <= d /\ d + e <= 33554432 -> 0 < e -> e.fdiv (2 ^ min (Int.toNat 1) IntKind.i64.bits) = bit -> Nt MB MT ML [I tol, I m, I d, I e, I a.x, I a.y, I a.z, I c.x, I c.y, I c.z, I b.x, I b.y, I b.z] =
   some (0,[I tol,I m,I (if Hc a c b tol (d+e)then d+e else d),I bit,I a.x,I a.y,I a.z,I c.x,I c.y,I c.z,I b.x,I b.y,I b.z])):
  ∀(k:Nat) (d:Int),0<=d/\d+((2^(k+1):Nat):Int)<=33554432->
  Am (Nt MB MT ML) [I tol,I m,I d,I ((2^k:Nat):Int),I a.x,I a.y,I a.z,I c.x,I c.y,I c.z,I b.x,I b.y,I b.z]=some (1,[I (FL (Hc a c b tol) k d)])
 |0,d,hd=>by
  simp only[Nat.zero_add,Nat.pow_one]at hd;have hend:∀d:Int,Am (Nt MB MT ML) [I tol,I m,I d,I 0,I a.x,I a.y,I a.z,I c.x,I c.y,I c.z,I b.x,I b.y,I b.z]=some (1,[I d]):=by
   intro d;refine Bf ?_ (by simp);rw[Qw0];rw[A3 (by omega)]
  have hs:=hst (d:=d) (e:=1) (by omega) (by omega) Zls;have e:((2^0:Nat):Int)=1:=rfl;rw[e,BC hs,hend];rfl
 |k+1,d,hd=>by
  have hp:0<2^(k+1):=Nat.two_pow_pos _;have e3:2^(k+1+1)=2^(k+1)+2^(k+1):=by rw[Nat.pow_succ 2 (k+1)];omega
  rw[e3]at hd;have hs:=hst (d:=d) (e:=((2^(k+1):Nat):Int)) (by omega) (by omega) (Z35 k);rw[BC hs];unfold FL;refine Q70 hst k _ ?_;split<;>omega
theorem Zrq {ML:Fn} {N:Lp} {MB MT:Fn} {a c b:Pt} {tol:Int}
  (l1:ML [I a.x,I a.y,I a.z,I c.x,I c.y,I c.z]=some [I (AE a c)]) (l2:ML [I c.x,I c.y,I c.z,I b.x,I b.y,I b.z]=some [I (AE c b)])
  (l3:0<=AE a c/\AE a c<=268435456) (l4:0<=AE c b/\AE c b<=268435456)
  (hN:a≠c->b≠c->N [I tol,I (mn (AE a c) (AE c b)-2),I 0,I 16777216,I a.x,I a.y,I a.z,I c.x,I c.y,I c.z,I b.x,I b.y,I b.z]=some (1,[I (FL (Hc a c b tol) 24 0)])):
  Qoh MB MT ML N [I a.x,I a.y,I a.z,I c.x,I c.y,I c.z,I b.x,I b.y,I b.z,I tol]=some [I (Dq a c b tol)]:=by
 rw[Zxk];have m3:0<=mn (AE a c) (AE c b)/\mn (AE a c) (AE c b)<=268435456:=by unfold mn;split<;>omega
 unfold Dq;by_cases h1:a=c
 ·rw[aa (.inl h1)];have h2:=DZ.1 h1;simp only[go_sem];rw[aa ⟨h2.1,h2.2.1,h2.2.2,trivial⟩]
 ·by_cases h2:b=c
  ·rw[aa (.inr h2)];have h3:=DZ.1 h2;simp only[go_sem];rw[ab (λh=>h1 (DZ.2 ⟨h.1,h.2.1,h.2.2.1⟩)),aa ⟨h3.1,h3.2.1,h3.2.2,trivial⟩]
  ·have hl':=hN h1 h2;simp only[go_sem,l1,l2];rw[Ae (by omega)];simp only[hl',go_sem];rw[ab (λh=>h1 (DZ.2 ⟨h.1,h.2.1,h.2.2.1⟩)),ab (λh=>h2 (DZ.2 ⟨h.1,h.2.1,h.2.2.1⟩)),ab (show¬(a=c\/b=c)from λh=>h.elim h1 h2)];by_cases h3:FL (Hc a c b tol) 24 0<16
   ·rw[aa h3,aa h3]
   ·rw[ab h3,ab h3]
theorem Zsx {a c b:Pt} {tol:Int} (ha:bd B24 a) (hc:bd B24 c) (hb:bd B24 b) (ht:0<=tol/\tol<=16000):
  Lc [I a.x,I a.y,I a.z,I c.x,I c.y,I c.z,I b.x,I b.y,I b.z,I tol]=some [I (Dq a c b tol)]:=by
 have A:=AZ ha (show B24<=67108864 by decide);have C:=AZ hc (show B24<=67108864 by decide);have D:=AZ hb (show B24<=67108864 by decide);exact Zrq (Qfy A C) (Qfy C D) (IC A C) (IC C D)
  λh1 h2=>Q70 (λhd he hbit=>Zbd ha hc hb h1 h2 ht hd he hbit (IC A C) (IC C D) (λhb hn hd=>Qlp hc hb hn hd) λhp hq=>Qx4 hp hc hq) 24 0 (by decide)
theorem Zy7 {M:Fn} {p c q:Pt} (hM:M [I p.x,I p.y,I p.z,I c.x,I c.y,I c.z,I q.x,I q.y,I q.z]=some [I (Hn p c q)]):
  ∀(k:Nat) (n:Int),KJ n->64<=n*2^k->Am (P8 M) [I n,I p.x,I p.y,I p.z,I c.x,I c.y,I c.z,I q.x,I q.y,I q.z]=some (1,[I (Lj (Hn p c q) k n)]):=by
 have hst:∀n:Int,KJ n->P8 M [I n,I p.x,I p.y,I p.z,I c.x,I c.y,I c.z,I q.x,I q.y,I q.z]=if n<64/\Hn p c q>16*n*n*n*n*4*4 then some (0,[I (n*2),I p.x,I p.y,I p.z,I c.x,I c.y,I c.z,I q.x,I q.y,I q.z])else some (1,[I n]):=by
  intro n hn;rw[Zql];simp only[go_sem,hM];have hw:wrap .i64 (wrap .i64 (wrap .i64 (wrap .i64 (wrap .i64 (wrap .i64 (16*n)*n)*n)*n)*4)*4)=16*n*n*n*n*4*4/\wrap .i64 (n*2)=n*2:=by
   rcases hn with rfl|rfl|rfl|rfl|rfl|rfl<;>decide
  rw[hw.1,hw.2];by_cases h1:n<64
  ·rw[aa h1];by_cases h2:Hn p c q>16*n*n*n*n*4*4
   ·rw[aa h2,aa ⟨h1,h2⟩]
   ·rw[ab h2,ab (λh=>h2 h.2)]
  ·rw[ab h1,ab (λh=>h1 h.1)]
 intro k;induction k with
 |zero=>
  intro n hn h64;have:n=64:=by rcases hn with rfl|rfl|rfl|rfl|rfl|rfl<;>simp at h64⊢
  subst this;refine Bf ?_ (by simp);rw[hst _ hn,ab (by omega)];rfl
 |succ k ih=>
  intro n hn h64;unfold Lj;by_cases h:n<64/\Hn p c q>16*n*n*n*n*4*4
  ·rw[aa h];have hs:=hst n hn;rw[aa h]at hs;rw[BC hs];refine ih (n*2) ?_ ?_
   ·rcases hn with rfl|rfl|rfl|rfl|rfl|rfl<;>simp[KJ]at h⊢
   ·rw[Int.pow_succ]at h64;rw[Int.mul_assoc,Int.mul_comm 2];exact h64
  ·rw[ab h];refine Bf ?_ (by simp);rw[hst _ hn,ab h]
theorem Zz5 {p c q:Pt} (hp:bd B24 p) (hc:bd B24 c) (hq:bd B24 q):KA [I p.x,I p.y,I p.z,I c.x,I c.y,I c.z,I q.x,I q.y,I q.z]=some [I (KZ p c q)]:=by
 have h1:=Zy7 (Qx4 hp hc hq) 5 2 (.inl rfl) (by decide);show Qkn _ (Am (P8 _)) _=_;generalize GC=M at*;rw[Z47];simp only[go_sem,h1];rfl
theorem Qyn {α:Type} (d x:α):∀(l:List α) (i:Nat),i<l.length->nth d (l.set i x) i=x
 |a::l,0,_=>rfl
 |a::l,i+1,h=>by simp only[List.set_cons_succ,nth];exact Qyn d x l i (by simpa using h)
theorem Zwt {n i p c q:Int} (hn:2<=n/\n<=64) (hi:0<=i/\i<=n) (hp:p.natAbs<=B24) (hc:c.natAbs<=B24) (hq:q.natAbs<=B24):
  Bz [I (wrap .i64 (wrap .i64 (wrap .i64 (wrap .i64 (n-i)*wrap .i64 (n-i))*wrap .i64 (p-c))+wrap .i64 (wrap .i64 (i*i)*wrap .i64 (q-c)))),I 1,I (wrap .i64 (n*n)),I 2]=some [I (Bo ((n-i)*(n-i)*(p-c)+i*i*(q-c)) (n*n)),B true]:=by
 have n1:0<n*n/\n*n<=4096:=⟨Int.mul_pos (by omega) (by omega),by have:=dq hn.2 hn.2 (by omega) (by omega);omega⟩;have n2:0<=(n-i)*(n-i)/\(n-i)*(n-i)<=4096:=⟨FX _,by have:=dq (show n-i<=64 by omega) (show n-i<=64 by omega) (by omega) (by omega);omega⟩;have n3:0<=i*i/\i*i<=4096:=⟨FX _,by have:=dq (show i<=64 by omega) (show i<=64 by omega) (by omega) (by omega);omega⟩;unfold B24 at*;rw[Ae (x:=n-i) (by omega),Ae (x:=(n-i)*(n-i)) (by omega),Ae (x:=p-c) (by omega),Ae (x:=i*i) (by omega),Ae (x:=q-c) (by omega),Ae (x:=n*n) (by omega)];have m1:=Ht (x:=(n-i)*(n-i)) (y:=p-c) (A:=4096) (B:=33554432) (by omega) (by omega);have m2:=Ht (x:=i*i) (y:=q-c) (A:=4096) (B:=33554432) (by omega) (by omega);generalize(n-i)*(n-i)*(p-c)=u at*;generalize i*i*(q-c)=v at*;rw[Ae (x:=u) (by omega),Ae (x:=v) (by omega),Ae (by omega)];have h:=S3 (a:=u+v) (b:=1) (c:=n*n) (by unfold i64;omega) (by unfold i64;omega) (by omega) (by rw[show(1:Int).natAbs=1 from rfl,Nat.mul_one];omega);rw[Int.mul_one]at h;exact h
theorem Q7i {MR MP MT MC:Fn} {p c q:Pt} {N:Nat} (hN:2<=N/\N<=64) (hp:bd B24 p) (hc:bd B24 c) (hq:bd B24 q)
  (hR:∀{i p c q:Int},(0<=i/\i<=N)->p.natAbs<=B24->c.natAbs<=B24->q.natAbs<=B24->MR [I (wrap .i64 (wrap .i64 (wrap .i64 (wrap .i64 ((N:Int)-i)*wrap .i64 ((N:Int)-i))*wrap .i64 (p-c))+wrap .i64 (wrap .i64 (i*i)*wrap .i64 (q-c)))),I 1,I (wrap .i64 ((N:Int)*(N:Int))),I 2]=some [I (Bo (((N:Int)-i)*((N:Int)-i)*(p-c)+i*i*(q-c)) ((N:Int)*(N:Int))),B true])
  {f:Nat->List AC} (hf:∀i:Nat,f i=ptR (NK N i p c q)):
  ∀(k i:Nat),i+k=N+1->Am (NP MR MP MT MC) [.view kPt (Et f [I 0,I 0,I 0] (N+1) i),I N,I (N+1:Nat),I i,I c.x,I c.y,I c.z,I p.x,I p.y,I p.z,I q.x,I q.y,I q.z]=
   some (1,[.view kPt ((List.range (N+1)).map f)])
 |0,i,hi=>by
  obtain rfl:i=N+1:=by omega
  refine Bf ?_ (by simp);rw[Q46,Qq9,A3 (by omega)]
 |k+1,i,hi=>by
  have b1:=Mn (n:=N) (i:=i) (A:=B24) (by omega) (by omega) hp.1 hc.1 hq.1;have b2:=Mn (n:=N) (i:=i) (A:=B24) (by omega) (by omega) hp.2.1 hc.2.1 hq.2.1;have b3:=Mn (n:=N) (i:=i) (A:=B24) (by omega) (by omega) hp.2.2 hc.2.2 hq.2.2;have r1:=hR (i:=i) (by omega) hp.1 hc.1 hq.1;have r2:=hR (i:=i) (by omega) hp.2.1 hc.2.1 hq.2.1;have r3:=hR (i:=i) (by omega) hp.2.2 hc.2.2 hq.2.2;have hs:NP MR MP MT MC [.view kPt (Et f [I 0,I 0,I 0] (N+1) i),I N,I (N+1:Nat),I i,I c.x,I c.y,I c.z,I p.x,I p.y,I p.z,I q.x,I q.y,I q.z]=
    some (0,[.view kPt (Et f [I 0,I 0,I 0] (N+1) (i+1)),I N,I (N+1:Nat),I (i+1:Nat),I c.x,I c.y,I c.z,I p.x,I p.y,I p.z,I q.x,I q.y,I q.z]):=by
   have hlen:=Qqk f [I 0,I 0,I 0] (show i<=N+1 by omega);have hset:=Q17 f [I 0,I 0,I 0] (show i<N+1 by omega);rw[hf i]at hset;generalize Et f [I 0,I 0,I 0] (N+1) i=l at*;have hself:∀x:List AC,nth [] (l.set i x) i=x:=λx=>Qyn _ _ _ _ (by omega);rw[Q46];have hin:(0:Int)<=(i:Int)/\(i:Int)<((N+1:Nat):Int):=by omega
   simp only[go_sem,r1,r2,r3,aj,hlen,aa hin,List.set_set,hself,List.length_set];rw[aa (by omega)];unfold Mz B24 at b1 b2 b3;rw[Ae (x:=c.x+_) (by omega),Ae (x:=c.y+_) (by omega),Ae (x:=c.z+_) (by omega),Ae (x:=(i:Int)+1) (by omega)];rw[<-hset];rfl
  rw[BC hs];exact Q7i hN hp hc hq hR hf k (i+1) (by omega)
theorem Zs2 {a c b:Pt} {tol:Int} (ha:bd B24 a) (hc:bd B24 c) (hb:bd B24 b) (ht:0<=tol/\tol<=16000):
  Qh [I a.x,I a.y,I a.z,I c.x,I c.y,I c.z,I b.x,I b.y,I b.z,I tol]=some [.view kPt ((F7 a c b tol).map ptR)]:=by
 show WP _ _ _ _ (Am (NP _ _ _ _)) _=_;have e1:=Zsx ha hc hb ht;have hR:= @Zwt;generalize Lc=MC at*;unfold F7;by_cases h:Dq a c b tol=0
 ·rw[aa h];rw[Q2w];simp only[go_sem,e1];rw[aa h];rfl
 ·rw[ab h];obtain⟨h1,h2,h3,h4,h5,-⟩:=XP h;obtain⟨m1,m2⟩:=Sn (AE a c) (AE c b);have h0: ¬Dq a c b tol=0:=h;generalize Dq a c b tol=d at*;have k1:bd B24 (BY c a d):=KH hc ha h1 (by omega);have k2:bd B24 (BY c b d):=KH hc hb h2 (by rw[Tr b c];omega);have t1:=Qlp hc ha h1 (d:=d) (by omega);have t2:=Qlp hc hb h2 (d:=d) (by omega);have p1:=Zz5 k1 hc k2;have p2:=(Qnp k1 hc k2).2;generalize KZ (BY c a d) c (BY c b d)=n at*;obtain⟨N,rfl⟩:∃N:Nat,n=N:=⟨n.toNat,by rcases p2 with rfl|rfl|rfl|rfl|rfl|rfl<;>rfl⟩;have hN:2<=N/\N<=64:=by unfold KJ at p2;omega
  have hl:=Q7i (MR:=Bz) (MP:=KA) (MT:=GH) (MC:=MC) hN k1 hc k2 (λhi hp hc hq=>hR (by omega) hi hp hc hq) (f:=λi=>ptR (NK N i (BY c a d) c (BY c b d))) (λ_=>rfl) (N+1) 0 (by omega);have hf0:∀f:Nat->List AC,Et f [I 0,I 0,I 0] (N+1) 0=List.replicate (N+1) [I 0,I 0,I 0]:=λf=>by unfold Et;rw[List.range_zero,dk,az,Nat.sub_zero]
  rw[hf0]at hl;generalize Bz=MR at*;generalize KA=MP at*;generalize GH=MT at*;generalize BY c a d=p at*;generalize BY c b d=q at*;rw[Q2w];simp only[ax,az,ptR]at t1 t2;have hres:(List.range (N+1)).map (fun(i:Nat)=>ptR (NK N i p c q))=((List.range ((N:Int).toNat+1)).map fun(i:Nat)=>NK N i p c q).map ptR:=by rw[List.map_map,aj];rfl
  rw[hres]at hl;generalize((List.range ((N:Int).toNat+1)).map fun(i:Nat)=>NK N i p c q).map ptR=C at*;generalize Am (NP MR MP MT MC)=L at*;have hl':L [.view kPt (List.replicate (N+1) [I 0,I 0,I 0]),I N,I (N+1:Nat),I 0,I c.x,I c.y,I c.z,I p.x,I p.y,I p.z,I q.x,I q.y,I q.z]=some (1,[.view kPt C]):=hl;have w1:wrap .i64 ((N:Int)+1)=((N+1:Nat):Int):=by rw[Ae (by omega)];rfl
  simp only[e1,t1,t2,p1,w1,af,HE,LN,LH,HK,gA,jA,wA,bA,aj,List.length_replicate,VI];rw[Bk (by simpa using h0),DI trivial,Bx (by simp;omega),hl'];rfl
end Go.Bm
namespace Go.Bm
open Classical
theorem Qm (k:Int):DL [I k]=some [B (decide (1<=k/\k<=6))]:=by
 unfold DL;rw[Zuv];by_cases h:1<=k
 ·rw[DI (show k>=1 from h)];by_cases h2:k<=6
  ·rw[an h2,an ⟨h,h2⟩]
  ·rw[ap h2,ap λh3=>h2 h3.2]
 ·rw[A3 (show¬k>=1 from h),ap λh3=>h h3.1]
theorem TR (it:Itm):EP (Af it)=some [B (decide (smI it))]:=by
 unfold EP;rw[Zzw];by_cases h:it.kind=2
 ·rw[Bx (by simp[h])];congr 2;by_cases h2:it.fr=it.to
  ·have h3:=DZ.1 h2;rw[ap (λhs:smI it=>hs.2 h2)];simp[h3.1,h3.2.1,h3.2.2]
  ·rw[an (show smI it from⟨h,h2⟩)];have h3: ¬(it.fr.x=it.to.x/\it.fr.y=it.to.y/\it.fr.z=it.to.z):=λh3=>h2 (DZ.2 h3);simp only[B,AC.bool.injEq,Bool.not_eq_true',Bool.and_true];by_cases a:it.fr.x=it.to.x<;>by_cases b:it.fr.y=it.to.y<;>by_cases c:it.fr.z=it.to.z<;>simp[a,b,c]at h3⊢
 ·rw[Bk (by simp[h]),ap (λhs:smI it=>h hs.1)]
theorem TT {it:Itm} (h1:bd 1048576 it.fr) (h2:bd 1048576 it.to):Gp (Af it)=some (ptR (Bc it)):=by
 obtain⟨a1,a2,a3⟩:=h1;obtain⟨b1,b2,b3⟩:=h2;unfold Gp;rw[Zw1,Ae (x:=it.fr.x+it.to.x) (by omega),Ae (x:=(it.fr.x+it.to.x)*8) (by omega),Ae (x:=it.fr.y+it.to.y) (by omega),Ae (x:=(it.fr.y+it.to.y)*8) (by omega),Ae (x:=it.fr.z+it.to.z) (by omega),Ae (x:=(it.fr.z+it.to.z)*8) (by omega)];rfl
theorem Z4g {p:Pt} (h:bd 100000000 p):Mq [I p.x,I p.y,I p.z]=some (ptR (Ay p)):=by
 unfold Mq;rw[Zsl];obtain⟨h1,h2,h3⟩:=h;rw[Ae (by omega),Ae (by omega),Ae (by omega)];rfl
theorem Qvg (it:Itm):Hu (Af it)=some [B (decide (syI it))]:=by
 unfold Hu;rw[Zvr];by_cases h5:it.kind=5
 ·rw[Bx (by simp[h5]),an (show syI it from .inl h5)]
 ·rw[Bk (by simp[h5])];by_cases h6:it.kind=6
  ·rw[an (show syI it from .inr h6)];simp[h6]
  ·rw[ap (show¬syI it from λh=>h.elim h5 h6)];simp[h6]
theorem Ztj {MV MM:Fn} {it:Itm} (hM:MM [I it.kind]=some [B (decide (1<=it.kind/\it.kind<=6))]) (hV:∃v,MV (Af it)=some [B v]/\(v=true↔Dz it)):
  YB MV MM (Af it)=some [I (if Bu it then 1 else 0)]:=by
 obtain⟨v,hv,hvv⟩:=hV;have hr:∀{x:Int},(Bu it->x=1)->(¬Bu it->x=0)->some [I x]=some [I (if Bu it then 1 else 0)]:=by
  intro x h1 h2;by_cases c:Bu it
  ·rw[aa c,h1 c]
  ·rw[ab c,h2 c]
 rw[Zg6];simp only[go_sem,hM,hv];unfold Bu AD at hr⊢;have one:∀{P:Prop},P->(P->(1:Int)=1)/\(¬P->(1:Int)=0):=λh=>⟨λ_=>rfl,λg=>absurd h g⟩;have zero:∀{P:Prop},¬P->(P->(0:Int)=1)/\(¬P->(0:Int)=0):=λh=>⟨λg=>absurd g h,λ_=>rfl⟩;by_cases c1:it.kind<1
 ·rw[aa c1];exact hr (λ_=>rfl) λg=>absurd (.inl c1) g
 rw[ab c1];by_cases c2:it.kind>14
 ·rw[aa c2];exact hr (λ_=>rfl) λg=>absurd (.inr (.inl c2)) g
 rw[ab c2];by_cases c3:1<=it.kind/\it.kind<=6
 ·simp only[aa c3];have hk8:it.kind≠8:=by omega
  simp only[ab hk8];by_cases c4:Dz it
  ·rw[ab (by simp[hvv.2 c4])];by_cases c5:it.blend<0
   ·rw[aa c5];exact hr (λ_=>rfl) λg=>absurd (.inr (.inr (.inl ⟨c3, .inr (.inr (.inl c5))⟩))) g
   rw[ab c5];by_cases c6:it.blend>1000
   ·rw[aa c6];exact hr (λ_=>rfl) λg=>absurd (.inr (.inr (.inl ⟨c3, .inr (.inr (.inr c6))⟩))) g
   rw[ab c6];by_cases c7:it.kind=1
   ·rw[ab (show¬it.kind≠1 by omega)];refine hr (λg=> ?_) λ_=>rfl;rcases g with g|g|⟨-,g|g|g|g⟩|g
    ·omega
    ·omega
    ·exact absurd c4 g
    ·omega
    ·omega
    ·omega
    ·omega
   ·rw[aa c7];by_cases c8:it.feed<1
    ·rw[aa c8];exact hr (λ_=>rfl) λg=>absurd (.inr (.inr (.inl ⟨c3, .inr (.inl ⟨c7, .inl c8⟩)⟩))) g
    rw[ab c8];by_cases c9:it.feed>60000000
    ·rw[aa c9];exact hr (λ_=>rfl) λg=>absurd (.inr (.inr (.inl ⟨c3, .inr (.inl ⟨c7, .inr c9⟩)⟩))) g
    rw[ab c9];refine hr (λg=> ?_) λ_=>rfl;rcases g with g|g|⟨-,g|g|g|g⟩|g
    ·omega
    ·omega
    ·exact absurd c4 g
    ·omega
    ·omega
    ·omega
    ·omega
  ·rw[aa (λh=>c4 (hvv.1 h))];exact hr (λ_=>rfl) λg=>absurd (.inr (.inr (.inl ⟨c3, .inl c4⟩))) g
 ·simp only[ab c3];by_cases c4:it.kind=8
  ·rw[aa c4];by_cases d1:it.n<3
   ·rw[aa d1];exact hr (λ_=>rfl) λg=>absurd (.inr (.inr (.inr ⟨c3,c4, .inl d1⟩))) g
   rw[ab d1];by_cases d2:it.n>5
   ·rw[aa d2];exact hr (λ_=>rfl) λg=>absurd (.inr (.inr (.inr ⟨c3,c4, .inr (.inl d2)⟩))) g
   rw[ab d2];by_cases d3:it.speed<0
   ·rw[aa d3];exact hr (λ_=>rfl) λg=>absurd (.inr (.inr (.inr ⟨c3,c4, .inr (.inr (.inl d3))⟩))) g
   rw[ab d3];by_cases d4:it.speed>30000
   ·rw[aa d4];exact hr (λ_=>rfl) λg=>absurd (.inr (.inr (.inr ⟨c3,c4, .inr (.inr (.inr d4))⟩))) g
   rw[ab d4];refine hr (λg=> ?_) λ_=>rfl;rcases g with g|g|⟨g,-⟩|⟨-,-,g⟩
   ·omega
   ·omega
   ·exact absurd g c3
   ·omega
  ·rw[ab c4];refine hr (λg=> ?_) λ_=>rfl;rcases g with g|g|⟨g,-⟩|⟨-,g,-⟩
   ·omega
   ·omega
   ·exact absurd g c3
   ·omega
theorem Zkl (it:Itm):Jh (Af it)=some [I (if Bu it then 1 else 0)]:=Ztj (Qm _) (YI it)
def Db:List Itm->Nat->Nat
 |[],k=>k
 |it::l,k=>if it.kind=10 then Db l (k+1)else k
def Di (items:List Itm) (i:Nat):Nat:=Db (items.drop (i+1)) (i+1)
theorem YC:∀(l:List Itm) (k:Nat),k<=Db l k/\Db l k<=k+l.length
 |[],k=>by simp[Db]
 |it::l,k=>by
  unfold Db;split
  ·have:=YC l (k+1);simp;omega
  ·simp
theorem Qsx:∀(l:List Itm) (k:Nat),E1 l k=if Db l k-k<l.length/\smI (l.getD (Db l k-k) it0)then(Db l k:Int)else-1
 |[],k=>by simp[E1]
 |it::l,k=>by
  have hs:=YC l (k+1);by_cases h10:it.kind=10
  ·have e1:E1 (it::l) k=E1 l (k+1):=by rw[E1,aa h10]
   have e2:Db (it::l) k=Db l (k+1):=by rw[Db,aa h10]
   rw[e1,e2,Qsx l (k+1)];have e3:Db l (k+1)-k=(Db l (k+1)-(k+1))+1:=by omega
   rw[e3,List.getD_cons_succ];by_cases c:Db l (k+1)-(k+1)<l.length
   ·have c2:Db l (k+1)-(k+1)+1<(it::l).length:=by simp;omega
    by_cases c3:smI (l.getD (Db l (k+1)-(k+1)) it0)
    ·rw[aa ⟨c,c3⟩,aa ⟨c2,c3⟩]
    ·rw[ab (λg=>c3 g.2),ab (λg=>c3 g.2)]
   ·rw[ab (λg=>c g.1),ab (λg=>c (by have:=g.1;simp at this;omega))]
  ·have e1:E1 (it::l) k=if smI it then(k:Int)else-1:=by rw[E1,ab h10]
   have e2:Db (it::l) k=k:=by rw[Db,ab h10]
   rw[e1,e2,Nat.sub_self,List.getD_cons_zero];by_cases c:smI it
   ·rw[aa c,aa ⟨by simp,c⟩]
   ·rw[ab c,ab (λg=>c g.2)]
theorem Q4s {items:List Itm} (hl:items.length<=1000000):∀(k i:Nat),i+k=items.length->
  Am Pd [.view Ah (items.map Af),I i]=some (1,[I (Db (items.drop i) i)])
 |0,i,hi=>by
  refine Bf ?_ (by simp);rw[Q76];simp only[go_sem,ag];rw[ab (by omega),List.drop_of_length_le (by omega)];rfl
 |k+1,i,hi=>by
  have hlt:i<items.length:=by omega
  have hr:=Fl hlt;rw[Qi2 hlt];have hst:Pd [.view Ah (items.map Af),I i]=if(itA items i).kind=10 then some (0,[.view Ah (items.map Af),I (i+1:Nat)])else some (1,[I i]):=by
   rw[Q76];have hin:(0:Int)<=(i:Int)/\(i:Int)<(items.length:Int):=by omega
   simp only[go_sem,ag,aj,hr,aa hin];rw[aa (by omega),Ae (by omega)];rfl
  unfold Db;by_cases h10:(itA items i).kind=10
  ·rw[aa h10]at hst⊢;rw[BC hst];exact Q4s hl k (i+1) (by omega)
  ·rw[ab h10]at hst⊢;exact Bf hst (by simp)
theorem Qhk {items:List Itm} (hl:items.length<=1000000) {i:Nat} (hi:i<items.length):Fm [.view Ah (items.map Af),I i]=some [I (Di items i)]:=by
 show Vq (Am Pd) _=_;have h:=Q4s hl (items.length-(i+1)) (i+1) (by omega);rw[Zzb,Ae (by omega),show(i:Int)+1=((i+1:Nat):Int) by omega,h];rfl
theorem Q4i {items:List Itm} {i:Nat}:Ba items i=if smI (itA items i)/\(itA items i).blend≠0/\Di items i<items.length/\smI (itA items (Di items i))then(Di items i:Int)else-1:=by
 unfold Ba;by_cases h:smI (itA items i)/\(itA items i).blend≠0
 ·rw[aa h,Qsx];have hs:=YC (items.drop (i+1)) (i+1);rw[cy]at hs;have e:(items.drop (i+1)).getD (Db (items.drop (i+1)) (i+1)-(i+1)) it0=itA items (Di items i):=by
   unfold itA;rw[List.getD_eq_getElem?_getD,List.getElem?_drop,List.getD_eq_getElem?_getD];have:i+1+(Db (items.drop (i+1)) (i+1)-(i+1))=Di items i:=by unfold Di;omega
   rw[this]
  rw[e,cy];have e2:Db (items.drop (i+1)) (i+1)=Di items i:=rfl;rw[e2]at hs⊢;by_cases c:Di items i<items.length/\smI (itA items (Di items i))
  ·rw[aa ⟨by omega,c.2⟩,aa ⟨h.1,h.2,c⟩]
  ·rw[ab (λg=>c ⟨by have:=g.1;omega,g.2⟩),ab (λg=>c g.2.2)]
 ·rw[ab h,ab (λg=>h ⟨g.1,g.2.1⟩)]
theorem Zti {MS MN:Fn} {items:List Itm} (hS:∀it,MS (Af it)=some [B (decide (smI it))]) {i:Nat} (hi:i<items.length) (hN:MN [.view Ah (items.map Af),I i]=some [I (Di items i)]):
  Qmh MS MN [.view Ah (items.map Af),I i]=some [B (decide (0<=Ba items i))]:=by
 have hr:=Fl hi;have hs:=hS (itA items i);rw[Zqv,Q4i];simp only[Af]at hs;have hin:(0:Int)<=(i:Int)/\(i:Int)<(items.length:Int):=by omega
 simp only[go_sem,ag,aj,hr,hs,hN,aa hin];by_cases h1:smI (itA items i)
 case neg=>rw[ab h1,ab (λg=>h1 g.1)];simp
 rw[aa h1];by_cases h2:(itA items i).blend=0
 ·rw[ab (by simp[h2]),ab (λg=>g.2.1 h2)];simp
 rw[aa h2];by_cases h3:Di items i<items.length
 ·have hr2:=Fl h3;have hs2:=hS (itA items (Di items i));simp only[Af]at hs2;have hin2:(0:Int)<=(Di items i:Int)/\(Di items i:Int)<(items.length:Int):=by omega
  rw[aa (by omega),aa hin2];simp only[go_sem,hr2,hs2];by_cases h4:smI (itA items (Di items i))
  ·rw[an h4,aa ⟨h1,h2,h3,h4⟩,an (by omega)]
  ·rw[ap h4,ab (λg=>h4 g.2.2.2)];simp
 ·rw[ab (by omega),ab (λg=>h3 g.2.2.1)];simp
theorem Q4g {items:List Itm} (hl:items.length<=1000000) {i:Nat} (hi:i<items.length):G2 [.view Ah (items.map Af),I i]=some [B (decide (0<=Ba items i))]:=
 Zti TR hi (Qhk hl hi)
theorem RQ {items:List Itm} {i:Nat} (h:0<=Ba items i):Ba items i=Di items i:=by
 rw[Q4i]at h⊢;split at h
 ·rename_i c;rw[aa c]
 ·omega
theorem Z4x {a c b:Pt} {tol:Int} (ha:bd B24 a) (hc:bd B24 c) (hb:bd B24 b):(F7 a c b tol).length%2=1:=by
 unfold F7;by_cases h:Dq a c b tol=0
 ·rw[aa h];rfl
 ·rw[ab h];obtain⟨h1,h2,h3,h4,h5,-⟩:=XP h;obtain⟨m1,m2⟩:=Sn (AE a c) (AE c b);generalize Dq a c b tol=d at*;have k1:bd B24 (BY c a d):=KH hc ha h1 (by omega);have k2:bd B24 (BY c b d):=KH hc hb h2 (by rw[Tr b c];omega);have k3:=(Qnp k1 hc k2).2;generalize KZ (BY c a d) c (BY c b d)=n at*;rw[ag,List.length_range];rcases k3 with rfl|rfl|rfl|rfl|rfl|rfl<;>rfl
theorem Z4k {MC MF MM:Fn} {a b:Itm} {l:List Pt} (hbl:0<=a.blend/\a.blend<=1000) (hl:1<=l.length/\l.length<=65) (hodd:l.length%2=1)
  (c1:MM (Af a)=some (ptR (Bc a))) (c2:MM (Af b)=some (ptR (Bc b))) (f1:MF [I a.to.x,I a.to.y,I a.to.z]=some (ptR (Ay a.to)))
  (hC:MC (ptR (Bc a)++ptR (Ay a.to)++ptR (Bc b)++[I (a.blend*16)])=some [.view kPt (l.map ptR)]):
  Qji MC MF MM (Af a++Af b)=some [.view kPt ((l.take (l.length/2+1)).map ptR), .view kPt ((l.drop (l.length/2)).map ptR)]:=by
 simp only[Af,ax,az]at c1 c2⊢;rw[Zuu];simp only[ptR,ax,az]at hC;simp only[go_sem,c1,c2,f1];rw[Ae (by omega)];simp only[hC,go_sem,ag];have e:wrap .i64 ((wrap .i64 ((l.length:Int)-1)).tdiv 2)=((l.length/2:Nat):Int):=by
  rw[Ae (x:=(l.length:Int)-1) (by omega),bj (by omega),Ae (by omega)];omega
 have e2:wrap .i64 (((l.length/2:Nat):Int)+1)=((l.length/2+1:Nat):Int):=by rw[Ae (by omega)];omega
 simp only[e,e2,aj];rw[aa (by omega),aa (by omega),List.map_take,List.map_drop]
theorem Zg1 {a b:Itm} (h1:drawn a) (h2:drawn b):
  Qr (Af a++Af b)=some [.view kPt (((F7 (Bc a) (Ay a.to) (Bc b) (a.blend*16)).take ((F7 (Bc a) (Ay a.to) (Bc b) (a.blend*16)).length/2+1)).map ptR), .view kPt (((F7 (Bc a) (Ay a.to) (Bc b) (a.blend*16)).drop ((F7 (Bc a) (Ay a.to) (Bc b) (a.blend*16)).length/2)).map ptR)]:=
 have k1:=Ly h1.1.2.1 h1.1.2.2.1;have k2:=FC h1.1.2.2.1;have k3:=Ly h2.1.2.1 h2.1.2.2.1
 Z4k h1.2 (Q6a k1 k2 k3).2 (Z4x k1 k2 k3) (TT h1.1.2.1 h1.1.2.2.1) (TT h2.1.2.1 h2.1.2.2.1) (Z4g (AZ h1.1.2.2.1 (by decide))) (Zs2 k1 k2 k3 (by have:=h1.2;omega))
theorem Zzd {MM MN MS MC MSm MK:Fn} {items:List Itm} {i:Nat} {frm:Int} (hi:i<items.length) (hd:drawn (itA items i)) (hf:IF items i frm) (hall:∀k<items.length,AD (itA items k)->drawn (itA items k))
  (hK:MK (Af (itA items i))=some [.view kPt ((Cd (itA items i)).map ptR),B true]) (hM:MSm (Af (itA items i))=some [B (decide (smI (itA items i)))])
  (hJ:∀{i k:Nat},i<items.length->k<items.length->drawn (itA items i)->drawn (itA items k)->MC (Af (itA items i)++Af (itA items k))=some [.view kPt (((FT items i k).take ((FT items i k).length/2+1)).map ptR), .view kPt (((FT items i k).drop ((FT items i k).length/2)).map ptR)])
  (hS:MS [.view Ah (items.map Af),I i]=some [B (decide (0<=Ba items i))]) (hN:MN [.view Ah (items.map Af),I i]=some [I (Di items i)]) (hC:MM (Af (itA items i))=some (ptR (Bc (itA items i)))):
  Qdh MM MN MS MC MSm MK [.view Ah (items.map Af),I i,I frm]=some [.view kPt ((Ca items i frm).map ptR)]:=by
 have r1:=Fl hi;obtain⟨hcl1,hcl2⟩:=Q8d (itA items i);rw[Z1i];simp only[Af,ax,az]at hK hM hC hJ;have hin:(0:Int)<=(i:Int)/\(i:Int)<(items.length:Int):=by omega
 simp only[go_sem,ag,aj,r1,hK,hM,hC,hS,hN,az,aa hin];unfold Ca;by_cases hs:smI (itA items i)
 case neg=>rw[aa (by simp[hs]),ab hs]
 rw[ab (by simp[hs]),aa hs];have hk3:(itA items i).kind≠3:=by have:=hs.1;omega
 have hcl3:(Cd (itA items i)).length=2:=by unfold Cd;rw[ab hk3];rfl
 have w1:wrap .i64 (((Cd (itA items i)).length:Int)-1)=1:=by rw[hcl3];rfl
 rw[w1,hcl3,aa (by omega),aa (by omega)];unfold Fx;rcases hf with rfl|⟨f,rfl,hf1,hf2⟩
 ·rw[ab (show¬(-1:Int)>=0 by omega)];unfold FY;rw[ab (show¬(0:Int)<= -1 by omega)];by_cases hpos:0<=Ba items i
  ·obtain⟨k,hk,hk1,hk2⟩:=Uj hall hpos;have hnx:=RQ hpos;rw[hk]at hnx;have hnk:Di items i=k:=by omega
   obtain⟨j1,j2,j3⟩:=KV (items:=items) (i:=i) (k:=k) hd hk2;have hj:=hJ hi hk1 hd hk2;have r2:=Fl hk1;have hin2:(0:Int)<=(k:Int)/\(k:Int)<(items.length:Int):=by omega
   rw[aa hpos,aa hpos,hk,hnk,aj,aa hin2];simp only[go_sem,aj,r2,hj];rw[aa (by simp[RA];omega),aa (by simp;omega),aa (by simp;omega)];simp only[RA,bt,bh,dk]
  ·rw[ab hpos,ab hpos,aa (by simp[RA];omega),aa (by simp;omega),aa (by simp;omega)];simp only[RA,Qp2,bt,bh,dk]
 ·have hjf:=hJ hf1 hi hf2 hd;obtain⟨f1,f2,f3⟩:=KV (items:=items) (i:=f) (k:=i) hf2 hd;have rf:=Fl hf1;have hinf:(0:Int)<=(f:Int)/\(f:Int)<(items.length:Int):=by omega
  rw[aa (show(f:Int)>=0 by omega),aa hinf];unfold FY;rw[aa (show(0:Int)<=(f:Int) by omega),aj];simp only[rf,go_sem,hjf,aj];by_cases hpos:0<=Ba items i
  ·obtain⟨k,hk,hk1,hk2⟩:=Uj hall hpos;have hnx:=RQ hpos;rw[hk]at hnx;have hnk:Di items i=k:=by omega
   obtain⟨j1,j2,j3⟩:=KV (items:=items) (i:=i) (k:=k) hd hk2;have hj:=hJ hi hk1 hd hk2;have r2:=Fl hk1;have hin2:(0:Int)<=(k:Int)/\(k:Int)<(items.length:Int):=by omega
   rw[aa hpos,aa hpos,hk,hnk,aj,aa hin2];simp only[go_sem,aj,r2,hj];rw[aa (by simp;omega),aa (by simp;omega),aa (by simp;omega)];simp only[bt,bh,dk]
  ·rw[ab hpos,ab hpos,aa (by simp;omega),aa (by simp;omega),aa (by simp;omega)];simp only[Qp2,bt,bh,dk]
theorem Zd5 {items:List Itm} (hl:items.length<=1000000) {i:Nat} {frm:Int} (hi:i<items.length) (hd:drawn (itA items i)) (hf:IF items i frm) (hall:∀k<items.length,AD (itA items k)->drawn (itA items k)):
  M_ [.view Ah (items.map Af),I i,I frm]=some [.view kPt ((Ca items i frm).map ptR)]:=
 Zzd hi hd hf hall (Zk9 hd.1) (TR _) (λh1 h2 h3 h4=>Zg1 h3 h4) (Q4g hl hi) (Qhk hl hi) (TT hd.1.2.1 hd.1.2.2.1)
theorem Qqd {MM MS:Fn} {l:List Itm} (hM:∀k:Int,MM [I k]=some [B (decide (1<=k/\k<=6))]) (hS:∀it,MS (Af it)=some [B (decide (syI it))]) (hl:l.length<=1000000):∀(k i:Nat),i+k=l.length->
  (Am (Me MM MS) [.view Ah (l.map Af),I l.length,I i]=some (1,[B (decide (Hy (l.drop i)=1))]))\/(Am (Me MM MS) [.view Ah (l.map Af),I l.length,I i]=some (2,[])/\Hy (l.drop i)=2)
 |0,i,hi=>by
  right;refine⟨Bf ?_ (by simp),by rw[List.drop_of_length_le (by omega)];rfl⟩;rw[Q4j];simp only[go_sem];rw[ab (by omega)]
 |k+1,i,hi=>by
  have hlt:i<l.length:=by omega
  have hr:=Fl hlt;rw[Qi2 hlt];have hs:=hS (itA l i);have hm:=hM (itA l i).kind;have hst:Me MM MS [.view Ah (l.map Af),I l.length,I i]=if AD (itA l i)then some (1,[B (decide (syI (itA l i)))])else some (0,[.view Ah (l.map Af),I l.length,I (i+1:Nat)]):=by
   rw[Q4j];simp only[Af]at hs;have hin:(0:Int)<=(i:Int)/\(i:Int)<(l.length:Int):=by omega
   simp only[go_sem,ag,aj,hr,hs,hm,aa hin];rw[aa (by omega),Ae (by omega)];by_cases h1:AD (itA l i)
   ·rw[aa (show 1<=(itA l i).kind/\(itA l i).kind<=6 from h1),aa h1]
   ·rw[ab (show¬(1<=(itA l i).kind/\(itA l i).kind<=6)from h1),ab h1];rfl
  unfold Hy;by_cases h10:AD (itA l i)
  ·rw[aa h10]at hst⊢;left;rw[Bf hst (by simp)];by_cases hsm:syI (itA l i)
   ·rw[aa hsm,an hsm];rfl
   ·rw[ab hsm,ap hsm];rfl
  ·rw[ab h10]at hst⊢;rw[BC hst];exact Qqd hM hS hl k (i+1) (by omega)
def Jw (items:List Itm) (i:Nat):Prop:=(itA items i).blend=0\/syI (itA items i)\/Hy (items.drop (i+1))=1
theorem Zzl {MM MS:Fn} {items:List Itm} (hM:∀k:Int,MM [I k]=some [B (decide (1<=k/\k<=6))]) (hS:∀it,MS (Af it)=some [B (decide (syI it))]) (hl:items.length<=1000000) {i:Nat} (hi:i<items.length):
  Qme MM MS (Am (Me MM MS)) [.view Ah (items.map Af),I i]=some [B (decide (Jw items i))]:=by
 have hr:=Fl hi;have hs:=hS (itA items i);have hL:=Qqd hM hS (l:=items.drop (i+1)) (by rw[cy];omega) (items.drop (i+1)).length 0 (by omega);rw[List.drop_zero]at hL;rw[Zxg];simp only[Af]at hs;have hw:wrap .i64 ((i:Int)+1)=((i+1:Nat):Int):=by rw[Ae (by omega)];omega
 have hin:(0:Int)<=(i:Int)/\(i:Int)<(items.length:Int):=by omega
 have hin3:(0:Int)<=((i+1:Nat):Int)/\((i+1:Nat):Int)<=(items.length:Int):=by omega
 have hdl:(List.drop (i+1) (items.map Af)).length=(items.drop (i+1)).length:=by rw[cy,cy,ag]
 generalize Am (Me MM MS)=N at*;simp only[go_sem,ag,aj,hr,hs,hw,aa hin,aa hin3,hdl];rw[<-List.map_drop];by_cases h2:(itA items i).blend=0
 ·rw[aa h2,an (show Jw items i from .inl h2)]
 ·rw[ab h2];by_cases h3:syI (itA items i)
  ·rw[aa h3,an (show Jw items i from .inr (.inl h3))]
  ·rw[ab h3];rcases hL with hL|⟨hL,hn⟩
   ·have hL':N [.view Ah ((items.drop (i+1)).map Af),I (items.drop (i+1)).length,I 0]=some (1,[B (decide (Hy (items.drop (i+1))=1))]):=hL;simp only[hL',go_sem];by_cases h4:Hy (items.drop (i+1))=1
    ·rw[an h4,an (show Jw items i from .inr (.inr h4))]
    ·rw[ap h4,ap (show¬Jw items i from λh=>h.elim h2 λh=>h.elim h3 h4)]
   ·have hL':N [.view Ah ((items.drop (i+1)).map Af),I (items.drop (i+1)).length,I 0]=some (2,[]):=hL;simp only[hL',go_sem];rw[ap (show¬Jw items i from λh=>h.elim h2 λh=>h.elim h3 λh=>by rw[hn]at h;cases h)];simp
theorem Zur {items:List Itm} (hl:items.length<=1000000) {i:Nat} (hi:i<items.length):PO [.view Ah (items.map Af),I i]=some [B (decide (Jw items i))]:=Zzl Qm Qvg hl hi
def JO (items:List Itm) (i:Nat):Int:=if AD (itA items i)then PQ items i else Qb (itA items i)
theorem Zjw {ME MM:Fn} {items:List Itm} {i:Nat} {aE:Rw} {aC:List Mrk} {st:Pt} {b:Bool} {len sp mid:Int} (hi:i<items.length) (hml:aC.length<=1000000)
  (hM:MM [I (itA items i).kind]=some [B (decide (AD (itA items i)))]) (hE:ME [.view Ah (items.map Af),I i]=some [B (decide (Jw items i))]):
  Qgp ME MM [.view Ai aE, .view AH (aC.map Au), .view Ah (items.map Af),I i,I st.x,I st.y,I st.z,B b,I len,I sp,I mid]=
   some [.view Ai aE, .view AH ((aC++[(⟨len,JO items i,i⟩:Mrk)]).map Au),I st.x,I st.y,I st.z,B b,I len,I sp,I mid]:=by
 have hr:=Fl hi;have hin:(0:Int)<=(i:Int)/\(i:Int)<(items.length:Int):=by omega
 have hb:(aC.length+1)*24<=140737488355328:=by omega
 have e:∀k:Int,aC.map Au++[[I len,I k,I i]]=(aC++[(⟨len,k,i⟩:Mrk)]).map Au:=λk=>by rw[bt];rfl
 rw[Zq8];simp only[go_sem,ag,aj,hr,aa hin,hM,hE,ao,bf,cq,aa hb];have fin:∀{k:Int},k=JO items i->some [AC.view Ai aE, .view AH (aC.map Au++[[I len,I k,I i]]),I st.x,I st.y,I st.z,B b,I len,I sp,I mid]=some [.view Ai aE, .view AH ((aC++[(⟨len,JO items i,i⟩:Mrk)]).map Au),I st.x,I st.y,I st.z,B b,I len,I sp,I mid]:=by
  intro k hk;rw[e,hk]
 unfold JO PQ Qb at fin⊢;by_cases c4:(itA items i).kind=4
 ·rw[aa c4];have hm:AD (itA items i):=⟨by omega,by omega⟩;exact fin (by rw[aa hm,aa c4])
 ·rw[ab c4];by_cases hm:AD (itA items i)
  ·rw[aa hm];by_cases hx:Jw items i
   ·rw[aa hx];refine fin ?_;rw[aa hm,ab c4];rcases hx with h|h|h
    ·rw[aa h]
    ·by_cases h2:(itA items i).blend=0
     ·rw[aa h2]
     ·rw[ab h2,aa h]
    ·by_cases h2:(itA items i).blend=0
     ·rw[aa h2]
     ·rw[ab h2];by_cases h3:syI (itA items i)
      ·rw[aa h3]
      ·rw[ab h3,h]
   ·rw[ab hx,aa hm];refine fin ?_;rw[aa hm,ab c4,ab (λh=>hx (.inl h)),ab (λh=>hx (.inr (.inl h)))];have hns:∀l:List Itm,Hy l=1\/Hy l=2:=by
     intro l;induction l with
     |nil=>right;rfl
     |cons it l ih=>
      unfold Hy;split
      ·split<;>simp
      ·exact ih
    rcases hns (items.drop (i+1))with h|h
    ·exact absurd (.inr (.inr h)) hx
    ·rw[h]
  ·rw[ab hm,ab hm];by_cases c10:(itA items i).kind=10
   ·rw[aa c10];exact fin (by rw[ab hm,aa c10])
   ·rw[ab c10];by_cases c13:(itA items i).kind=13
    ·rw[aa c13];exact fin (by rw[ab hm,ab c10,aa c13])
    ·rw[ab c13];exact fin (by rw[ab hm,ab c10,ab c13])
theorem Zjs {items:List Itm} (hl:items.length<=1000000) {i:Nat} {aE:Rw} {aC:List Mrk} {st:Pt} {b:Bool} {len sp mid:Int} (hi:i<items.length) (hml:aC.length<=1000000):
  JC [.view Ai aE, .view AH (aC.map Au), .view Ah (items.map Af),I i,I st.x,I st.y,I st.z,B b,I len,I sp,I mid]=
   some [.view Ai aE, .view AH ((aC++[(⟨len,JO items i,i⟩:Mrk)]).map Au),I st.x,I st.y,I st.z,B b,I len,I sp,I mid]:=
 Zjw hi hml (Qm _) (Zur hl hi)
theorem Z2r (a:Pt) (aE:List Sgm):aE=[]\/∃l g,aE=l++[g]/\Fv a aE=g.to/\((aE.length:Int)>0)/\nth [] (aE.map AB) (aE.length-1)=AB g:=by
 rcases List.eq_nil_or_concat aE with h|⟨l,g,h⟩
 ·exact .inl h
 ·right;rw[List.concat_eq_append]at h;refine⟨l,g,h,?_,?_,?_⟩
  ·rw[h];exact SY g a l
  ·rw[h];simp
  ·have hl:aE.length-1<aE.length:=by rw[h];simp
   rw[Je _ _ _ _ hl];congr 1;subst h;simp
theorem Zw2 {ML:Fn} {aC:Rw} {q g st:Pt} {gl item feed lead len sp mid:Int}:
  S9 ML [.view Ai [], .view AH aC,I q.x,I q.y,I q.z,I g.x,I g.y,I g.z,I gl,I item,I feed,I lead,I st.x,I st.y,I st.z,B false,I len,I sp,I mid]=
   some [.view Ai [], .view AH aC,I q.x,I q.y,I q.z,B true,I len,I sp,I mid]:=by
 rw[Qqa];simp
theorem Zeh {ML:Fn} {aE:List Sgm} {aC:Rw} {q g st at_:Pt} {gl item feed lead len sp mid:Int} (hat:Fv st aE=at_)
  (hL:ML [I at_.x,I at_.y,I at_.z,I q.x,I q.y,I q.z]=some [I (AE at_ q)]) (hl:0<=AE at_ q/\AE at_ q<=268435456) (hs:aE.length+1<=1048577) (hlen:0<=len/\len<=4000000000000000000):
  S9 ML [.view Ai (aE.map AB), .view AH aC,I q.x,I q.y,I q.z,I g.x,I g.y,I g.z,I gl,I item,I feed,I lead,I st.x,I st.y,I st.z,B true,I len,I sp,I mid]=
   some [.view Ai ((AT item feed lead (aE,len,at_) q).1.map AB), .view AH aC,I st.x,I st.y,I st.z,B true,I (AT item feed lead (aE,len,at_) q).2.1,I sp,I mid]:=by
 have hap:(aE.map AB++[[I q.x,I q.y,I q.z,I (AE at_ q),I item,I feed,I lead]])=(aE++[(⟨q,AE at_ q,item,feed,lead⟩:Sgm)]).map AB:=by rw[bt];rfl
 rw[Qqa];try dsimp only[go_sem]
 rcases Z2r st aE with h|⟨l,s,h1,h2,h3,h4⟩
 ·subst h;have hat':st=at_:=hat;subst hat';simp only[dk,cq];rw[A3 (by decide),Bool.not_true,aq];by_cases c:q=st
  ·have c4:=DZ.1 c;rw[Bx (by simp[c4.1,c4.2.1,c4.2.2]),show AT item feed lead ([],len,st) q=([],len,st)from aa c];rfl
  ·rw[Bk,hL]
   ·simp only[af,HE,HK,gA,jA,wA,bA,az,bf,cq];rw[Bx (by decide),show AT item feed lead ([],len,st) q=([⟨q,AE st q,item,feed,lead⟩],len+AE st q,q)from ab c,Ae (by omega)];rfl
   ·have c2: ¬(q.x=st.x/\q.y=st.y/\q.z=st.z):=λg=>c (DZ.2 g);simp only[Bool.and_true,Bool.and_eq_false_iff,beq_eq_false_iff_ne];omega
 ·rw[hat]at h2;have w1:wrap .i64 ((aE.length:Int)-1)=((aE.length-1:Nat):Int):=by rw[Ae (by omega)];omega
  have hin:(0:Int)<=((aE.length-1:Nat):Int)/\((aE.length-1:Nat):Int)<(aE.length:Int):=by omega
  rw[h2]at hL hap⊢;clear h1;simp only[go_sem,ag,w1,aj,h4,aa h3,aa hin,hL,ao,bf,cq];rw[ab (by simp)];by_cases c:q=s.to
  ·have c4:=DZ.1 c;rw[aa ⟨c4.1,c4.2.1,c4.2.2,trivial⟩,show AT item feed lead (aE,len,s.to) q=(aE,len,s.to)from aa c]
  ·rw[ab (λg=>c (DZ.2 ⟨g.1,g.2.1,g.2.2.1⟩)),aa (by omega),show AT item feed lead (aE,len,s.to) q=(aE++[⟨q,AE s.to q,item,feed,lead⟩],len+AE s.to q,q)from ab c,Ae (by rw[<-h2]at*;omega),hap]
noncomputable def DS (it:Itm) (item feed lead:Int) (s:(List Sgm×Int×Pt)×Int) (q:Pt):(List Sgm×Int×Pt)×Int:=
 (AT item feed lead s.1 q,if smI it/\q=Bc it then(AT item feed lead s.1 q).2.1 else s.2)
theorem Qa4 {it:Itm} {item feed lead:Int}:∀(pts:List Pt) (s:(List Sgm×Int×Pt)×Int),(pts.foldl (DS it item feed lead) s).1=pts.foldl (AT item feed lead) s.1
 |[],_=>rfl
 |q::pts,s=>by rw[List.foldl_cons,List.foldl_cons,Qa4 pts];rfl
theorem Qrb {MM MSm MA MP MG MR:Fn} {it:Itm} {pts:List Pt} {j:Nat} (hj:j<pts.length) (hpl:pts.length<=1000000) {aE segs':Rw} {aC:Rw} {g st st':Pt} {b b':Bool} {gl item feed lead len len' sp mid:Int}
  (hM:MSm (Af it)=some [B (decide (smI it))]) (hC:MM (Af it)=some (ptR (Bc it)))
  (hA:MA [.view Ai aE, .view AH aC,I pts[j].x,I pts[j].y,I pts[j].z,I g.x,I g.y,I g.z,I gl,I item,I feed,I lead,I st.x,I st.y,I st.z,B b,I len,I sp,I mid]=some [.view Ai segs', .view AH aC,I st'.x,I st'.y,I st'.z,B b',I len',I sp,I mid]):
  K6 MM MSm MA MP MG MR (.view Ai aE:: .view AH aC:: .view kPt (pts.map ptR)::I pts.length::I j::(Af it++[I g.x,I g.y,I g.z,I gl,I item,I feed,I lead,I st.x,I st.y,I st.z,B b,I len,I sp,I mid]))=
   some (0, .view Ai segs':: .view AH aC:: .view kPt (pts.map ptR)::I pts.length::I (j+1:Nat)::(Af it++[I g.x,I g.y,I g.z,I gl,I item,I feed,I lead,I st'.x,I st'.y,I st'.z,B b',I len',I sp,I (if smI it/\pts[j]=Bc it then len' else mid)])):=by
 have hr:nth [] (pts.map ptR) j=ptR pts[j]:=Je _ _ _ _ hj;have hin:(0:Int)<=(j:Int)/\(j:Int)<(pts.length:Int):=by omega
 have hw:wrap .i64 ((j:Int)+1)=((j+1:Nat):Int):=by rw[Ae (by omega)];omega
 generalize pts[j]=q at*;simp only[Af]at hM hC;simp only[Af,ax,az];rw[Qtf];simp only[go_sem,ag,aj,hr,aa hin,hA,hM,hC,hw];rw[aa (by omega)];by_cases c:smI it
 ·rw[aa c];by_cases c2:q=Bc it
  ·have c3:=DZ.1 c2;rw[aa ⟨c3.1,c3.2.1,c3.2.2,trivial⟩,aa ⟨c,c2⟩]
  ·rw[ab (λh=>c2 (DZ.2 ⟨h.1,h.2.1,h.2.2.1⟩)),ab (λh=>c2 h.2)]
 ·rw[ab c,ab (λh=>c h.1)]
theorem YF {MM MSm MA MP MG MR:Fn} {it:Itm} {pts:List Pt} (hpl:pts.length<=1000000) {aC:Rw} {g st:Pt} {gl item feed lead sp:Int} (hst:bd 67108864 st) (hpts:∀p∈pts,bd 67108864 p)
  (hM:MSm (Af it)=some [B (decide (smI it))]) (hC:MM (Af it)=some (ptR (Bc it)))
  (hA : ∀ {aE : List Sgm} {q at_ : Pt} {len mid : Int}, Fv st aE = at_ -> bd 67108864 at_ -> bd 67108864 q -> aE.length + 1 <= 1048577 -> (0 <= len /\ len <= 4000000000000000000) ->
   MA [.view Ai (aE.map AB), .view AH aC,I q.x,I q.y,I q.z,I g.x,I g.y,I g.z,I gl,I item,I feed,I lead,I st.x,I st.y,I st.z,B true,I len,I sp,I mid]=
   some [.view Ai ((AT item feed lead (aE,len,at_) q).1.map AB), .view AH aC,I st.x,I st.y,I st.z,B true,I (AT item feed lead (aE,len,at_) q).2.1,I sp,I mid]):
  ∀(k j:Nat) (s:List Sgm×Int×Pt) (mid:Int),j+k=pts.length->s.1.length+k<=1048576->0<=s.2.1->s.2.1+k*268435456<=4000000000000000000->bd 67108864 s.2.2->Fv st s.1=s.2.2->
  Am (K6 MM MSm MA MP MG MR) (.view Ai (s.1.map AB):: .view AH aC:: .view kPt (pts.map ptR)::I pts.length::I j::(Af it++[I g.x,I g.y,I g.z,I gl,I item,I feed,I lead,I st.x,I st.y,I st.z,B true,I s.2.1,I sp,I mid]))=
   some (1,[.view Ai (((pts.drop j).foldl (DS it item feed lead) (s,mid)).1.1.map AB), .view AH aC,I st.x,I st.y,I st.z,B true,I ((pts.drop j).foldl (DS it item feed lead) (s,mid)).1.2.1,I sp,I ((pts.drop j).foldl (DS it item feed lead) (s,mid)).2])
 |0,j,s,mid,hj,_,_,_,_,_=>by
  refine Bf ?_ (by simp);simp only[Af,ax,az];rw[Qtf,A3 (by omega),List.drop_of_length_le (by omega)];rfl
 |k+1,j,s,mid,hj,hs,hl0,hl1,hat,he=>by
  have hlt:j<pts.length:=by omega
  have hq:=hpts _ (bn hlt);obtain⟨aE,len,at_⟩:=s;simp only at hs hl0 hl1 hat he;have ha:=hA (q:=pts[j]) (mid:=mid) he hat hq (by omega) (by constructor<;>omega);have hstep:=Qrb (MP:=MP) (MG:=MG) (MR:=MR) hlt hpl hM hC ha;have hinv:Fv st (AT item feed lead (aE,len,at_) pts[j]).1=(AT item feed lead (aE,len,at_) pts[j]).2.2/\bd 67108864 (AT item feed lead (aE,len,at_) pts[j]).2.2/\
    (AT item feed lead (aE,len,at_) pts[j]).1.length<=aE.length+1/\0<=(AT item feed lead (aE,len,at_) pts[j]).2.1/\(AT item feed lead (aE,len,at_) pts[j]).2.1<=len+268435456:=by
   have hl:=IC hat hq;unfold AT;split
   ·exact⟨he,hat,by simp,hl0,by simp only;omega⟩
   ·refine⟨SY _ _ _,hq,by simp,?_,?_⟩<;>simp only<;>omega
  rw[BC hstep];obtain⟨i1,i2,i3,i4,i5⟩:=hinv;have:=YF (MP:=MP) (MG:=MG) (MR:=MR) hpl hst hpts hM hC hA k (j+1) (AT item feed lead (aE,len,at_) pts[j]) (if smI it/\pts[j]=Bc it then(AT item feed lead (aE,len,at_) pts[j]).2.1 else mid) (by omega) (by omega) i4 (by omega) i2 i1;rw[this,OY pts j hlt,List.foldl_cons];rfl
theorem Zhg {it:Itm} (h:Dz it):∃l,Cd it=Ay it.fr::l:=by
 unfold Cd;by_cases h3:it.kind=3
 ·rw[aa h3];unfold DO;rw[bh];refine⟨(DV it.dir 16 it.full (Em it it.fr) (Em it it.to)).map (I9 it),?_⟩;congr 1;obtain⟨hp,-,hc,-⟩:=h.2.2.2 h3;obtain⟨f1,f2,f3⟩:=Uf it.aF it.ce;unfold I9 Em;simp only[f1,f2];unfold dU dW;have e1:plU it.aF it.ce*16+(plU it.aF it.fr-plU it.aF it.ce)*16=plU it.aF it.fr*16:=by omega
  have e2:plW it.aF it.ce*16+(plW it.aF it.fr-plW it.aF it.ce)*16=plW it.aF it.fr*16:=by omega
  rw[e1,e2];unfold spP plU plW plH Ay;rcases hp with hp|hp|hp<;>rw[hp]<;>rfl
 ·rw[ab h3];exact⟨_,rfl⟩
theorem Zhy {items:List Itm} {i:Nat} (h:Dz (itA items i)):∃l,Ca items i (-1)=Ay (itA items i).fr::l:=by
 obtain⟨l,hl⟩:=Zhg h;unfold Ca;split
 ·unfold FY;rw[ab (by omega),hl];exact⟨_,rfl⟩
 ·exact⟨l,hl⟩
noncomputable def Fy (items:List Itm) (i:Nat) (s:BSt) (mid:Int):(List Sgm×Int×Pt)×Int:=
 (Ca items i s.frm).foldl (DS (itA items i) i (EC (itA items i) s.speed) (F3 (itA items i))) ((s.aE,s.len,if s.begun=true then s.at_ else Ay (itA items i).fr),mid)
theorem Q6y (items:List Itm) (i:Nat) (s:BSt) (mid:Int):(Fy items i s mid).1=E7 items i s:=by
 unfold Fy E7;rw[Qa4]
theorem Zxs {MM MSm MA MP MG MR:Fn} {items:List Itm} {i:Nat} {s:BSt} {aC:Rw} {mid:Int} (hi:i<items.length) (hlen:items.length<=15) (hv:Dz (itA items i)) (hok:BOK items i s) (hinv:BInv s)
  (hpts:(∀p∈Ca items i s.frm,bd 67108864 p)/\(Ca items i s.frm).length<=65537)
  (hfeed:syI (itA items i)->0<=(itA items i).feed/\(itA items i).feed<=60000000) (hfrm:s.begun=false->s.frm= -1)
  (hM:MSm (Af (itA items i))=some [B (decide (smI (itA items i)))]) (hC:MM (Af (itA items i))=some (ptR (Bc (itA items i))))
  (hG:MG (Af (itA items i))=some [B (decide (syI (itA items i)))]) (hR:MR (Af (itA items i)++[I s.speed])=some [I (EC (itA items i) s.speed)])
  (hP:MP [.view Ah (items.map Af),I i,I s.frm]=some [.view kPt ((Ca items i s.frm).map ptR)])
  (hA : ∀ {aE : List Sgm} {q g st at_ : Pt} {gl item feed lead len mid : Int}, Fv st aE = at_ -> bd 67108864 at_ -> bd 67108864 q -> aE.length + 1 <= 1048577 -> (0 <= len /\ len <= 4000000000000000000) ->
   MA [.view Ai (aE.map AB), .view AH aC,I q.x,I q.y,I q.z,I g.x,I g.y,I g.z,I gl,I item,I feed,I lead,I st.x,I st.y,I st.z,B true,I len,I s.speed,I mid]=
   some [.view Ai ((AT item feed lead (aE,len,at_) q).1.map AB), .view AH aC,I st.x,I st.y,I st.z,B true,I (AT item feed lead (aE,len,at_) q).2.1,I s.speed,I mid])
  (hA0 : ∀ {q g st : Pt} {gl item feed lead len mid : Int}, MA [.view Ai [], .view AH aC, I q.x, I q.y, I q.z, I g.x, I g.y, I g.z, I gl, I item, I feed, I lead, I st.x, I st.y, I st.z, B false, I len, I s.speed, I mid] =
   some [.view Ai [], .view AH aC,I q.x,I q.y,I q.z,B true,I len,I s.speed,I mid]):
  X4 MM MSm MA MP MG MR (Am (K6 MM MSm MA MP MG MR)) [.view Ai (s.aE.map AB), .view AH aC, .view Ah (items.map Af),I i,I s.frm,I s.start.x,I s.start.y,I s.start.z,B s.begun,I s.len,I s.speed,I mid]=
   some [.view Ai ((Fy items i s mid).1.1.map AB), .view AH aC,B true,I (if s.begun=true then s.start else Ay (itA items i).fr).x,I (if s.begun=true then s.start else Ay (itA items i).fr).y,I (if s.begun=true then s.start else Ay (itA items i).fr).z,B true,I (Fy items i s mid).1.2.1,I s.speed,I (Fy items i s mid).2]:=by
 have hr:=Fl hi;have hin:(0:Int)<=(i:Int)/\(i:Int)<(items.length:Int):=by omega
 have hsg:=hok.aE;have hln:=hok.len
 have hloop:∀lead feed:Int,Am (K6 MM MSm MA MP MG MR) (.view Ai (s.aE.map AB):: .view AH aC:: .view kPt ((Ca items i s.frm).map ptR)::I (Ca items i s.frm).length::I (0:Nat)::(Af (itA items i)++[I (⟨0,0,0⟩:Pt).x,I (⟨0,0,0⟩:Pt).y,I (⟨0,0,0⟩:Pt).z,I 0,I i,I feed,I lead,I s.start.x,I s.start.y,I s.start.z,B s.begun,I s.len,I s.speed,I mid]))=
   some (1, [.view Ai (((Ca items i s.frm).foldl (DS (itA items i) i feed lead) ((s.aE, s.len, if s.begun = true then s.at_ else Ay (itA items i).fr), mid)).1.1.map AB), .view AH aC, I (if s.begun = true then s.start else Ay (itA items i).fr).x, I (if s.begun = true then s.start else Ay (itA items i).fr).y, I (if s.begun = true then s.start else Ay (itA items i).fr).z, B true,
    I ((Ca items i s.frm).foldl (DS (itA items i) i feed lead) ((s.aE,s.len,if s.begun=true then s.at_ else Ay (itA items i).fr),mid)).1.2.1,I s.speed,I ((Ca items i s.frm).foldl (DS (itA items i) i feed lead) ((s.aE,s.len,if s.begun=true then s.at_ else Ay (itA items i).fr),mid)).2]):=by
  intro lead feed;by_cases hb:s.begun=true
  ·obtain⟨g1,g2⟩:=hinv.begun hb;obtain⟨g3,g4,g5⟩:=g2;rw[aa hb,aa hb,hb];have:=YF (MP:=MP) (MG:=MG) (MR:=MR) (g:=⟨0,0,0⟩) (gl:=0) (item:=i) (feed:=feed) (lead:=lead) (by omega) g1 hpts.1 hM hC (λh1 h2 h3 h4 h5=>hA h1 h2 h3 h4 h5) (Ca items i s.frm).length 0 (s.aE,s.len,s.at_) mid (by omega) (by simp only;omega) hln.1 (by simp only;omega) (hok.at_ hb) g4;rw[List.drop_zero]at this;exact this
  ·have hb2:s.begun=false:=by simpa using hb
   obtain⟨e1,e2,e3⟩:=hinv.empty hb2;obtain⟨l,hl⟩:=Zhy hv;have hfr:bd 67108864 (Ay (itA items i).fr):=AZ (FC hv.2.1) (by decide);rw[ab hb,ab hb,hb2,e1];rw[hfrm hb2,hl]at hpts⊢;have h0:0<(Ay (itA items i).fr::l).length:=by simp
   have hstep:=Qrb (MP:=MP) (MG:=MG) (MR:=MR) h0 (by omega) hM hC (hA0 (q:=Ay (itA items i).fr) (g:=⟨0,0,0⟩) (st:=s.start) (gl:=0) (item:=i) (feed:=feed) (lead:=lead) (len:=s.len) (mid:=mid));rw[dk,BC hstep];have:=YF (MP:=MP) (MG:=MG) (MR:=MR) (g:=⟨0,0,0⟩) (gl:=0) (item:=i) (feed:=feed) (lead:=lead) (by omega) hfr hpts.1 hM hC (λh1 h2 h3 h4 h5=>hA h1 h2 h3 h4 h5) l.length 1 ([],s.len,Ay (itA items i).fr) (if smI (itA items i)/\Ay (itA items i).fr=Bc (itA items i)then s.len else mid) (by simp;omega) (by simp only[cq];simp at hpts;omega) hln.1 (by simp only;simp at hpts;omega) hfr rfl;rw[List.drop_succ_cons,List.drop_zero]at this;rw[List.foldl_cons];have e4:DS (itA items i) i feed lead (([],s.len,Ay (itA items i).fr),mid) (Ay (itA items i).fr)=(([],s.len,Ay (itA items i).fr),if smI (itA items i)/\Ay (itA items i).fr=Bc (itA items i)then s.len else mid):=by
    unfold DS;rw[show AT i feed lead ([],s.len,Ay (itA items i).fr) (Ay (itA items i).fr)=([],s.len,Ay (itA items i).fr)from aa rfl]
   rw[e4];exact this
 have hcount:∀lead feed:Int,((Ca items i s.frm).foldl (DS (itA items i) i feed lead) ((s.aE,s.len,if s.begun=true then s.at_ else Ay (itA items i).fr),mid)).1.1.length<=1048576:=by
  intro lead feed;rw[Qa4];have hat:bd 67108864 (if s.begun=true then s.at_ else Ay (itA items i).fr):=by
   split
   ·rename_i hb;exact hok.at_ hb
   ·exact AZ (FC hv.2.1) (by decide)
  have:=(TY (item:=i) (feed:=feed) (lead:=lead) (Ca items i s.frm) (s.aE,s.len,if s.begun=true then s.at_ else Ay (itA items i).fr) hpts.1 hat hln.1).1;simp only at this⊢;omega
 generalize Am (K6 MM MSm MA MP MG MR)=N at*;have hlp:=λlead feed=>hloop lead feed;simp only[Af,ax,az]at hG hR hlp;rw[Zpe];simp only[go_sem,ag,aj,hr,aa hin,hG,hR,hP];have h00:((0:Nat):Int)=0:=rfl;simp only[h00]at hlp;unfold Fy F3;by_cases hs:syI (itA items i)
 ·have hf:=hfeed hs;rw[aa hs];simp only[aa hs];rw[Ae (by omega)];simp only[hlp,go_sem,ag];rw[an (show((_:Nat):Int)<=1048576 from by have:=hcount (mn ((itA items i).feed*16) 16777216) (EC (itA items i) s.speed);omega)]
 ·rw[ab hs];simp only[ab hs];simp only[hlp,go_sem,ag];rw[an (show((_:Nat):Int)<=1048576 from by have:=hcount 0 (EC (itA items i) s.speed);omega)]
theorem Qj8 {MK MV MN MS MM MC:Fn} {items:List Itm} (hM:∀k:Int,MM [I k]=some [B (decide (1<=k/\k<=6))]) (hW:∀it,MC (Af it)=some [I (if Bu it then 1 else 0)]) (hl:items.length<=1000000):
  ∀(k i:Nat) (last:Int),i+k=items.length->(last= -1\/(0<=last/\last<i))->
  (Am (Qs MK MV MN MS MM MC) [.view Ai [], .view AH [], .view Ah (items.map Af),I last, .view Ah (items.map Af),I items.length,I i,I 0,I 0,I 0,B false,I 0,I 0,I 0]=some (1,[.view Ai [], .view AH [],I (GX items k i last),I 0,I 0,I 0,B false,I 0,I 0,I 0])/\GX items k i last≠0)\/
  (Am (Qs MK MV MN MS MM MC) [.view Ai [], .view AH [], .view Ah (items.map Af),I last, .view Ah (items.map Af),I items.length,I i,I 0,I 0,I 0,B false,I 0,I 0,I 0]=some (2,[.view Ai [], .view AH [], .view Ah (items.map Af),I 0,I 0,I 0,B false,I 0,I 0,I 0])/\GX items k i last=0)
 |0,i,last,hi,_=>by
  right;refine⟨Bf ?_ (by simp),rfl⟩;rw[Qyj,A3 (by omega)]
 |k+1,i,last,hi,hla=>by
  have hlt:i<items.length:=by omega
  have hr:=Fl hlt;have hw:=hW (itA items i);have hm:=hM (itA items i).kind;have hin:(0:Int)<=(i:Int)/\(i:Int)<(items.length:Int):=by omega
  have hst:Qs MK MV MN MS MM MC [.view Ai [], .view AH [], .view Ah (items.map Af),I last, .view Ah (items.map Af),I items.length,I i,I 0,I 0,I 0,B false,I 0,I 0,I 0]=
    if Bu (itA items i)then some (1,[.view Ai [], .view AH [],I 1,I 0,I 0,I 0,B false,I 0,I 0,I 0])else if AD (itA items i)then(if 0<=last/\(itA items last.toNat).to≠(itA items i).fr then some (1,[.view Ai [], .view AH [],I 13,I 0,I 0,I 0,B false,I 0,I 0,I 0])else some (0,[.view Ai [], .view AH [], .view Ah (items.map Af),I i, .view Ah (items.map Af),I items.length,I (i+1:Nat),I 0,I 0,I 0,B false,I 0,I 0,I 0]))
    else some (0,[.view Ai [], .view AH [], .view Ah (items.map Af),I last, .view Ah (items.map Af),I items.length,I (i+1:Nat),I 0,I 0,I 0,B false,I 0,I 0,I 0]):=by
   rw[Qyj];simp only[Af]at hw;simp only[go_sem,ag,aj,hr,hw,hm,aa hin];rw[aa (by omega),Ae (by omega)];by_cases c1:Bu (itA items i)
   ·simp only[aa c1];rw[aa (by omega)]
   simp only[ab c1];rw[ab (by simp)];by_cases c2:AD (itA items i)
   ·rw[ab (λh=>h c2),aa c2];rcases hla with rfl|⟨h1,h2⟩
    ·rw[ab (show¬(-1:Int)>=0 by omega),ab (λh=>by omega)];rfl
    ·obtain⟨L,rfl⟩:=bv h1;have hL:L<items.length:=by omega
     have hin2:(0:Int)<=(L:Int)/\(L:Int)<(items.length:Int):=by omega
     have hr2:=Fl hL;simp only[aj,hr2,go_sem,aa hin2];rw[aa (by omega)];by_cases c3:(itA items L).to=(itA items i).fr
     ·have c4:=DZ.1 c3;rw[ab (λh=>h ⟨c4.1,c4.2.1,c4.2.2,trivial⟩),ab (λh=>h.2 c3)];rfl
     ·rw[aa (λh=>c3 (DZ.2 ⟨h.1,h.2.1,h.2.2.1⟩)),aa ⟨h1,c3⟩]
   ·rw[aa (show¬(1<=(itA items i).kind/\(itA items i).kind<=6)from c2),ab c2];rfl
  unfold GX;by_cases c1:Bu (itA items i)
  ·rw[aa c1]at hst⊢;exact .inl ⟨Bf hst (by simp),by simp⟩
  ·rw[ab c1]at hst⊢;by_cases c2:AD (itA items i)
   ·rw[aa c2]at hst⊢;by_cases c3:0<=last/\(itA items last.toNat).to≠(itA items i).fr
    ·rw[aa c3]at hst⊢;exact .inl ⟨Bf hst (by simp),by simp⟩
    ·rw[ab c3]at hst⊢;rw[BC hst];exact Qj8 hM hW hl k (i+1) i (by omega) (.inr (by omega))
   ·rw[ab c2]at hst⊢;rw[BC hst];exact Qj8 hM hW hl k (i+1) last (by omega) (by omega)
noncomputable def Gk (items:List Itm):Nat->Int
 |0=> -1
 |i+1=>if AD (itA items i)then i else Gk items i
theorem Qu0 (items:List Itm):∀i,Gk items i= -1\/∃L:Nat,Gk items i=L/\L<i/\AD (itA items L)/\∀j,L<j->j<i-> ¬AD (itA items j)
 |0=> .inl rfl
 |i+1=>by
  unfold Gk;by_cases c:AD (itA items i)
  ·rw[aa c];exact .inr ⟨i,rfl,by omega,c,λj h1 h2=>by omega⟩
  ·rw[ab c];rcases Qu0 items i with h|⟨L,h1,h2,h3,h4⟩
   ·exact .inl h
   ·refine .inr ⟨L,h1,by omega,h3,λj g1 g2=> ?_⟩;by_cases e:j=i
    ·rw[e];exact c
    ·exact h4 j g1 (by omega)
theorem Qrm (items:List Itm):∀i,(Ao items i).frm=if 0<=Gk items i/\0<=Ba items (Gk items i).toNat then Gk items i else-1
 |0=>by rw[Ao,Gk,ab (by omega)]
 |i+1=>by
  rw[Ao,Gk];unfold BR;by_cases c:AD (itA items i)
  ·rw[aa c,aa c];simp only[aj];by_cases c2:0<=Ba items i
   ·rw[aa c2,aa ⟨by omega,c2⟩]
   ·rw[ab c2,ab (λh=>c2 h.2)]
  ·rw[ab c,ab c];exact Qrm items i
theorem Zg4 {items:List Itm} {i L:Nat} (hL:L<i) (hi:i<items.length) (hm:AD (itA items i)) (hno:∀j,L<j->j<i-> ¬AD (itA items j)) (hs:0<=Ba items L):Di items L=i:=by
 have h1:=RQ hs;rcases T6 items L with h|⟨-,-,k,k1,k2,k3,k4,k5⟩
 ·omega
 ·have hk:Di items L=k:=by omega
  rw[hk];rcases Nat.lt_trichotomy k i with h|h|h
  ·exact absurd ⟨by have:=k4.1;omega,by have:=k4.1;omega⟩ (hno k k2 h)
  ·exact h
  ·have:=k5 i hL h;have:=hm.2;omega
noncomputable def CV (items:List Itm):Nat->Int
 |0=>0
 |i+1=>if AD (itA items i)then(Fy items i (Ao items i) (CV items i)).2 else CV items i
theorem Q87 (items:List Itm):∀i,(Ao items i).begun=false->(Ao items i).frm= -1
 |0,_=>by rw[Ao]
 |i+1,h=>by
  rw[Ao]at h⊢;unfold BR at h⊢;by_cases c:AD (itA items i)
  ·rw[aa c]at h;cases h
  ·rw[ab c]at h⊢;exact Q87 items i h
noncomputable abbrev pbR (items:List Itm) (i:Nat):List AC:=
 [.view Ai ((Ao items i).aE.map AB), .view AH ((Ao items i).aC.map Au), .view Ah (items.map Af),I (Gk items i), .view Ah (items.map Af),I items.length,I i,I (Ao items i).start.x,I (Ao items i).start.y,I (Ao items i).start.z,B (Ao items i).begun,I (Ao items i).len,I (Ao items i).speed,I (CV items i)]
theorem Zx9 {MK MV MN MS MM MC:Fn} {N6:Lp} {items:List Itm} {i:Nat} (hi:i<items.length) (hlen:items.length<=15) (hmk:(Ao items i).aC.length=i)
  (hM:∀k:Int,MM [I k]=some [B (decide (1<=k/\k<=6))]) (hS:∀L:Nat,L<items.length->MS [.view Ah (items.map Af),I L]=some [B (decide (0<=Ba items L))]) (hN:∀L:Nat,L<items.length->MN [.view Ah (items.map Af),I L]=some [I (Di items L)])
  (hV : AD (itA items i) -> MV [.view Ai ((Ao items i).aE.map AB), .view AH ((Ao items i).aC.map Au), .view Ah (items.map Af), I i, I (Ao items i).frm, I (Ao items i).start.x, I (Ao items i).start.y, I (Ao items i).start.z, B (Ao items i).begun, I (Ao items i).len, I (Ao items i).speed, I (CV items i)] =
   some [.view Ai ((Fy items i (Ao items i) (CV items i)).1.1.map AB), .view AH ((Ao items i).aC.map Au),B true,I (if(Ao items i).begun=true then(Ao items i).start else Ay (itA items i).fr).x,I (if(Ao items i).begun=true then(Ao items i).start else Ay (itA items i).fr).y,I (if(Ao items i).begun=true then(Ao items i).start else Ay (itA items i).fr).z,B true,
    I (Fy items i (Ao items i) (CV items i)).1.2.1,I (Ao items i).speed,I (Fy items i (Ao items i) (CV items i)).2])
  (hK : ∀ {aE : Rw} {st : Pt} {b : Bool} {len sp mid : Int}, MK [.view Ai aE, .view AH ((Ao items i).aC.map Au), .view Ah (items.map Af), I i, I st.x, I st.y, I st.z, B b, I len, I sp, I mid] =
   some [.view Ai aE, .view AH (((Ao items i).aC++[(⟨len,JO items i,i⟩:Mrk)]).map Au),I st.x,I st.y,I st.z,B b,I len,I sp,I mid]):
  Qo MK MV MN MS MM MC N6 (pbR items i)=some (0,pbR items (i+1)):=by
 have hr:=Fl hi;have hin:(0:Int)<=(i:Int)/\(i:Int)<(items.length:Int):=by omega
 have hw:wrap .i64 ((i:Int)+1)=((i+1:Nat):Int):=by rw[Ae (by omega)];omega
 have hf:=Qrm items i;have hls:=Qu0 items i;have hfst:=Q6y items i (Ao items i) (CV items i);have e1:Gk items (i+1)=if AD (itA items i)then(i:Int)else Gk items i:=rfl;have e2:CV items (i+1)=if AD (itA items i)then(Fy items i (Ao items i) (CV items i)).2 else CV items i:=rfl;have e3:Ao items (i+1)=BR items i (Ao items i):=rfl;unfold pbR;rw[e1,e2,e3];generalize Ao items i=s at*;generalize Gk items i=last at*;generalize hmi:CV items i=mid at*;unfold BR;rw[Q3y];by_cases hm:AD (itA items i)
 ·have h8: ¬(itA items i).kind=8:=λh=>by have:=hm.2;omega
  have hV:=hV hm;have hmk2:JO items i=PQ items i:=aa hm;rw[aa hm,aa hm,aa hm];rw[hfst]at hV;have hM2:MM [I (itA items i).kind]=some [B true]:=by rw[hM,an (show 1<=(itA items i).kind/\(itA items i).kind<=6 from hm)]
  simp only[go_sem,ag,aj,hr,aa hin,hM2];rw[aa (by omega),ab h8];have hbef:∀{x:Option (Nat×List AC)} {frm:Int},s.frm=frm->(MV [.view Ai (s.aE.map AB), .view AH (s.aC.map Au), .view Ah (items.map Af),I i,I frm,I s.start.x,I s.start.y,I s.start.z,B s.begun,I s.len,I s.speed,I mid])=
    some [.view Ai ((E7 items i s).1.map AB), .view AH (s.aC.map Au),B true,I (if s.begun=true then s.start else Ay (itA items i).fr).x,I (if s.begun=true then s.start else Ay (itA items i).fr).y,I (if s.begun=true then s.start else Ay (itA items i).fr).z,B true,I (E7 items i s).2.1,I s.speed,I (Fy items i s mid).2]:=by
   intro x frm h;rw[<-h];exact hV
  rcases hls with hls|⟨L,h1,h2,h3,h4⟩
  ·rw[hls];rw[hls,ab (by omega)]at hf;rw[ab (show¬(-1:Int)>=0 by omega)];have hv:=hbef (x:=none) hf;simp only[hv,go_sem,hK,hw,hmk2];simp
  ·rw[h1]at hf⊢;rw[aj]at hf;have hs:=hS L (by omega);have hn:=hN L (by omega);rw[aa (show(L:Int)>=0 by omega)];by_cases c:0<=Ba items L
   ·have hnx:=Zg4 h2 hi hm h4 c;rw[aa ⟨by omega,c⟩]at hf;rw[hnx]at hn;rw[an c]at hs;have hv:=hbef (x:=none) hf;simp only[hs,hn,go_sem];simp only[hv,go_sem,hK,hw,hmk2];simp
   ·rw[ab (λh=>c h.2)]at hf;rw[ap c]at hs;have hv:=hbef (x:=none) hf;simp only[hs,go_sem];simp only[hv,go_sem,hK,hw,hmk2];simp
 ·have hmk2:JO items i=Qb (itA items i):=ab hm;rw[ab hm,ab hm,ab hm];have hM2:MM [I (itA items i).kind]=some [B false]:=by rw[hM,ap (show¬(1<=(itA items i).kind/\(itA items i).kind<=6)from hm)]
  unfold Qc;simp only[go_sem,ag,aj,hr,aa hin,hM2,hK,hw,hmk2];rw[aa (by omega)];by_cases h8:(itA items i).kind=8
  ·by_cases h3:(itA items i).n=3
   ·simp[h8,h3]
   ·by_cases h4:(itA items i).n=4
    ·simp[h8,h4]
    ·simp[h8,h3,h4]
  ·simp[h8]
theorem Zs5 {it:Itm} {speed:Int} (hf:it.kind=1\/1<=it.feed/\it.feed<=60000000) (hs:0<=speed/\speed<=30000):Ki (Af it++[I speed])=some [I (EC it speed)]:=by
 by_cases h1:it.kind=1
 ·unfold Ki EC;generalize Bz=M;have h:=Qr8 (AJ:=M) it.kind it.block it.fr.x it.fr.y it.fr.z it.to.x it.to.y it.to.z it.aF it.ce.x it.ce.y it.ce.z it.dir it.full it.feed it.perRev it.side it.radius it.blend it.n it.speed it.on speed;rw[aa h1];refine Eq.trans h ?_;rw[Bx (by simp[h1])]
 ·exact Za7 (by omega) hs
theorem Zxz {aE:List Sgm} {aC:Rw} {q g st at_:Pt} {gl item feed lead len sp mid:Int} (hat:Fv st aE=at_) (h1:bd 67108864 at_) (h2:bd 67108864 q) (hs:aE.length+1<=1048577) (hlen:0<=len/\len<=4000000000000000000):
  NJ [.view Ai (aE.map AB), .view AH aC,I q.x,I q.y,I q.z,I g.x,I g.y,I g.z,I gl,I item,I feed,I lead,I st.x,I st.y,I st.z,B true,I len,I sp,I mid]=
   some [.view Ai ((AT item feed lead (aE,len,at_) q).1.map AB), .view AH aC,I st.x,I st.y,I st.z,B true,I (AT item feed lead (aE,len,at_) q).2.1,I sp,I mid]:=
 Zeh hat (Qfy h1 h2) (IC h1 h2) hs hlen
theorem Zby {items:List Itm} (hlen:items.length<=15) (hright:∀j<items.length,¬Bu (itA items j)) {i:Nat} (hi:i<items.length):
  Qo JC J_ Fm G2 DL Jh PR (pbR items i)=some (0,pbR items (i+1)):=by
 have hb:=Kq hright i (by omega);have hin:=Jj hright i (by omega);have hall:∀k<items.length,AD (itA items k)->drawn (itA items k):=λk hk hm=>(KM (hright k hk) hm).1;have hrm:=KM (hright i hi);refine Zx9 hi hlen hb.aC Qm (λL hL=>Q4g (by omega) hL) (λL hL=>Qhk (by omega) hL) (λhm=> ?_) (Zjs (by omega) hi (by have:=hb.aC;omega));have hd:=(hrm hm).1;exact Zxs hi hlen hd.1 hb hin (Qpb hd hb.frm hall) (λhs=>by have h2:=(hrm hm).2;rcases hs with h|h<;>omega) (Q87 items i) (TR _) (TT hd.1.2.1 hd.1.2.2.1) (Qvg _) (Zs5 (hrm hm).2 hb.speed)
  (Zd5 (by omega) hi hd hb.frm hall) (λh1 h2 h3 h4 h5=>Zxz h1 h2 h3 h4 h5) Zw2
theorem Qz6 {items:List Itm} (hlen:items.length<=15) (hright:∀j<items.length,¬Bu (itA items j)):∀(k i:Nat),i+k=items.length->
  Am (Qo JC J_ Fm G2 DL Jh PR) (pbR items i)=
   some (2,[.view Ai ((Az items).aE.map AB), .view AH ((Az items).aC.map Au),I (Az items).start.x,I (Az items).start.y,I (Az items).start.z,B (Ao items items.length).begun,I (Ao items items.length).len,I (Ao items items.length).speed,I (CV items items.length)])
 |0,i,hi=>by
  obtain rfl:i=items.length:=by omega
  refine Bf ?_ (by simp);unfold pbR Az;rw[Q3y,A3 (by omega)]
 |k+1,i,hi=>by
  rw[BC (Zby hlen hright (by omega))];exact Qz6 hlen hright k (i+1) (by omega)
def JF (items:List Itm) (o:List AC):Prop:=
 if CF items=0 then o=[.view Ai ((Az items).aE.map AB), .view AH ((Az items).aC.map Au),I 0,I (Az items).start.x,I (Az items).start.y,I (Az items).start.z,B (Ao items items.length).begun,I (Ao items items.length).len,I (Ao items items.length).speed,I (CV items items.length)]
 else o=[.view Ai [], .view AH [],I (CF items),I 0,I 0,I 0,B false,I 0,I 0,I 0]
theorem Zea {MK MV MN MS MM MC:Fn} {N6 N18:Lp} {items:List Itm} (hlen:items.length<=15)
  (h6 : (N6 [.view Ai [], .view AH [], .view Ah (items.map Af), I (-1), .view Ah (items.map Af), I items.length, I 0, I 0, I 0, I 0, B false, I 0, I 0, I 0] = some (1, [.view Ai [], .view AH [], I (CF items), I 0, I 0, I 0, B false, I 0, I 0, I 0]) /\ CF items ≠ 0) \/
   (N6 [.view Ai [], .view AH [], .view Ah (items.map Af),I (-1), .view Ah (items.map Af),I items.length,I 0,I 0,I 0,I 0,B false,I 0,I 0,I 0]=some (2,[.view Ai [], .view AH [], .view Ah (items.map Af),I 0,I 0,I 0,B false,I 0,I 0,I 0])/\CF items=0))
  (h18 : CF items = 0 -> N18 [.view Ai [], .view AH [], .view Ah (items.map Af), I (-1), .view Ah (items.map Af), I items.length, I 0, I 0, I 0, I 0, B false, I 0, I 0, I 0] =
   some (2,[.view Ai ((Az items).aE.map AB), .view AH ((Az items).aC.map Au),I (Az items).start.x,I (Az items).start.y,I (Az items).start.z,B (Ao items items.length).begun,I (Ao items items.length).len,I (Ao items items.length).speed,I (CV items items.length)])):
  ∃o,Xb MK MV MN MS MM MC N6 N18 [.view Ah (items.map Af)]=some o/\JF items o:=by
 rw[Zsg];have hin: ¬((items.length:Int)>20000):=by omega
 rcases h6 with⟨h,hc⟩|⟨h,hc⟩
 ·simp only[go_sem,ag,h,ab hin];exact⟨_,rfl,by unfold JF;rw[ab hc]⟩
 ·have g:=h18 hc;simp only[go_sem,ag,h,ab hin,g];rw[ab (by decide),ab (by decide)];exact⟨_,rfl,by unfold JF;rw[aa hc]⟩
theorem Q65 {items:List Itm} (hlen:items.length<=15):∃o,JA [.view Ah (items.map Af)]=some o/\JF items o:=by
 have hc:CF items=GX items items.length 0 (-1):=by unfold CF;rw[ab (by omega)]
 refine Zea hlen ?_ λhe=>Qz6 hlen (KI he).2 items.length 0 (by omega);rw[hc];exact Qj8 Qm Zkl (by omega) items.length 0 (-1) (by omega) (.inl rfl)
theorem Zug {MB:Fn} {items:List Itm} (h:∃o,MB [.view Ah (items.map Af)]=some o/\JF items o):
  Wc MB [.view Ah (items.map Af)]=if CF items=0 then some (Bn (Az items)++[I 0])else some [I 0,I 0,I 0, .view Ai [], .view AH [],I (CF items)]:=by
 obtain⟨o,h1,h2⟩:=h;rw[Zx8,h1];unfold JF at h2;by_cases c:CF items=0
 ·rw[aa c]at h2⊢;subst h2;simp only[go_sem];rw[ab (by simp)];try rfl
 ·rw[ab c]at h2⊢;subst h2;simp only[go_sem];rw[aa c]
theorem Quy {items:List Itm} (hlen:items.length<=15):Lu [.view Ah (items.map Af)]=if CF items=0 then some (Bn (Az items)++[I 0])else some [I 0,I 0,I 0, .view Ai [], .view AH [],I (CF items)]:=
 Zug (Q65 hlen)
theorem Z5l {item feed lead:Int} (l:List Pt) (q:Pt) (s:List Sgm×Int×Pt):((l++[q]).foldl (AT item feed lead) s).2.2=q:=by
 rw[List.foldl_append,List.foldl_cons,List.foldl_nil];generalize l.foldl (AT item feed lead) s=t;unfold AT;split
 ·rename_i c;exact c.symm
 ·rfl
theorem PE {item feed lead:Int}:∀(pts:List Pt) (s:List Sgm×Int×Pt),∃l,(pts.foldl (AT item feed lead) s).1=s.1++l
 |[],s=>⟨[],by simp⟩
 |q::pts,s=>by
  rw[List.foldl_cons];obtain⟨l,hl⟩:=PE (item:=item) (feed:=feed) (lead:=lead) pts (AT item feed lead s q);rw[hl];unfold AT;split
  ·exact⟨l,rfl⟩
  ·exact⟨_::l,(dh _ _ _).trans rfl⟩
theorem Zvo (items:List Itm) (i:Nat) (s:BSt):∃l,(BR items i s).aE=s.aE++l:=by
 unfold BR;split
 ·exact PE _ _
 ·exact⟨[],by simp⟩
theorem W0 (items:List Itm) (i:Nat):∀k,∃l,(Ao items (i+k)).aE=(Ao items i).aE++l
 |0=>⟨[],by simp⟩
 |k+1=>by
  obtain⟨l,hl⟩:=W0 items i k;obtain⟨m,hm⟩:=Zvo items (i+k) (Ao items (i+k));refine⟨l++m,?_⟩;show(BR items (i+k) (Ao items (i+k))).aE=_;rw[hm,hl,dh]
theorem Z5o {items:List Itm} {i:Nat} {s:BSt} (h:s.begun=true):(BR items i s).begun=true/\(BR items i s).start=s.start:=by
 unfold BR;split
 ·exact⟨rfl,by simp[h]⟩
 ·exact⟨h,rfl⟩
theorem Q5n {items:List Itm} {i:Nat} (h:(Ao items i).begun=true):∀k,(Ao items (i+k)).begun=true/\(Ao items (i+k)).start=(Ao items i).start
 |0=>⟨h,rfl⟩
 |k+1=>by
  obtain⟨h1,h2⟩:=Q5n h k;obtain⟨h3,h4⟩:=Z5o (items:=items) (i:=i+k) h1;exact⟨h3,h4.trans h2⟩
theorem Jp {l:List Sgm} (h:∀g∈l,1<=g.len):0<=Aw l:=by
 induction l with
 |nil=>simp[Aw]
 |cons k l ih=>
  have:=ih λg hg=>h g (by simp[hg]);have:=h k (by simp);simp only[Aw];omega
theorem Nz (l m:List Sgm):Aw (l++m)=Aw l+Aw m:=by
 induction l with
 |nil=>simp[Aw]
 |cons k l ih=>simp only[ax,Aw,ih];omega
def EG (items:List Itm):Nat->Option Nat
 |0=>none
 |i+1=>if(itA items i).kind=10 then EG items i else some i
noncomputable def BE (items:List Itm):Int:=
 match EG items items.length with
 |some i=>if smI (itA items i)/\(itA items i).blend≠0 then Aw (Az items).aE-AE (Bc (itA items i)) (Ay (itA items i).to)else Aw (Az items).aE
 |none=>Aw (Az items).aE
theorem To {items:List Itm} {i:Nat}:∀{n:Nat},EG items n=some i->i<n/\(itA items i).kind≠10/\∀j,i<j->j<n->(itA items j).kind=10
 |0,h=>by cases h
 |n+1,h=>by
  unfold EG at h;split at h
  ·rename_i c;obtain⟨h1,h2,h3⟩:=To h;refine⟨by omega,h2,λj g1 g2=> ?_⟩;by_cases e:j=n
   ·rw[e];exact c
   ·exact h3 j g1 (by omega)
  ·rename_i c;cases h
   exact⟨by omega,c,λj g1 g2=>by omega⟩
theorem Zvm {items:List Itm} {i:Nat} (h:(itA items i).kind=10):(Ao items (i+1)).len=(Ao items i).len/\CV items (i+1)=CV items i:=by
 have hm: ¬AD (itA items i):=λg=>by have:=g.2;omega
 constructor
 ·rw[Ao];unfold BR;rw[ab hm]
 ·rw[CV,ab hm]
theorem Q01 {items:List Itm} {i:Nat}:∀(k:Nat),(∀j,i<=j->j<i+k->(itA items j).kind=10)->(Ao items (i+k)).len=(Ao items i).len/\CV items (i+k)=CV items i
 |0,_=>⟨rfl,rfl⟩
 |k+1,h=>by
  obtain⟨h1,h2⟩:=Q01 k λj g1 g2=>h j g1 (by omega);obtain⟨h3,h4⟩:=Zvm (h (i+k) (by omega) (by omega));exact⟨h3.trans h1,h4.trans h2⟩
theorem Zcd {items:List Itm} (hright:∀j<items.length,¬Bu (itA items j)):Aw (Az items).aE=(Ao items items.length).len:=by
 have h:=Jj hright items.length (bz _);unfold Az;by_cases hb:(Ao items items.length).begun=true
 ·exact(h.begun hb).2.2.2
 ·obtain⟨g1,g2,-⟩:=h.empty (by simpa using hb);simp only[g1,g2];rfl
theorem Qz7 {it:Itm} (h:it.fr≠it.to):Ay it.to≠Bc it:=by
 intro g;unfold Ay Bc at g;injection g with g1 g2 g3;exact h (DZ.2 ⟨by omega,by omega,by omega⟩)
theorem Zxh (it:Itm) (h:smI it) (item feed lead:Int) (s:(List Sgm×Int×Pt)×Int):
  (DS it item feed lead (DS it item feed lead s (Bc it)) (Ay it.to)).2=(DS it item feed lead (DS it item feed lead s (Bc it)) (Ay it.to)).1.2.1-AE (Bc it) (Ay it.to):=by
 have hne:=Qz7 h.2;have h1:(DS it item feed lead s (Bc it)).2=(AT item feed lead s.1 (Bc it)).2.1:=aa ⟨h,rfl⟩;have h2:(AT item feed lead s.1 (Bc it)).2.2=Bc it:=by
  unfold AT;split
  ·rename_i c;exact c.symm
  ·rfl
 have h3:(DS it item feed lead s (Bc it)).1=AT item feed lead s.1 (Bc it):=rfl;generalize DS it item feed lead s (Bc it)=t at*;have h4:(DS it item feed lead t (Ay it.to)).2=t.2:=ab λg=>hne g.2;have h5:(DS it item feed lead t (Ay it.to)).1=AT item feed lead t.1 (Ay it.to):=rfl;rw[h4,h5,h1,h3];rw[<-h2]at hne⊢;rw[h2];generalize AT item feed lead s.1 (Bc it)=u at*;have h6:AT item feed lead u (Ay it.to)=(u.1++[⟨Ay it.to,AE u.2.2 (Ay it.to),item,feed,lead⟩],u.2.1+AE u.2.2 (Ay it.to),Ay it.to):=ab hne;rw[h6,h2];simp only;omega
theorem Z1j {items:List Itm} {i:Nat} (hn:EG items items.length=some i) (hs:smI (itA items i)):CV items items.length=(Ao items items.length).len-AE (Bc (itA items i)) (Ay (itA items i).to):=by
 obtain⟨h1,-,h3⟩:=To hn;obtain⟨k,hk⟩:∃k,items.length=i+1+k:=⟨items.length-(i+1),by omega⟩;have hm:AD (itA items i):=⟨by have:=hs.1;omega,by have:=hs.1;omega⟩;obtain⟨g1,g2⟩:=Q01 (items:=items) (i:=i+1) k λj e1 e2=>h3 j (by omega) (by omega);have hsoft: ¬0<=Ba items i:=by
  intro c;have hx:=RQ c;rcases T6 items i with h|⟨-,-,m,m1,m2,m3,m4,m5⟩
  ·omega
  ·have:=h3 m m2 m3;have:=m4.1;omega
 rw[hk,g1,g2];have e1:CV items (i+1)=(Fy items i (Ao items i) (CV items i)).2:=aa hm;have e2:(Ao items (i+1)).len=(Fy items i (Ao items i) (CV items i)).1.2.1:=by
  rw[Q6y,Ao];unfold BR;rw[aa hm]
 rw[e1,e2];unfold Fy;have e3:Ca items i (Ao items i).frm=FY items i (Ao items i).frm++[Bc (itA items i)]++[Ay (itA items i).to]:=by
  unfold Ca;rw[aa hs];unfold Fx;rw[ab hsoft];unfold Cd;rw[ab (by have:=hs.1;omega)];rfl
 rw[e3,List.foldl_append,List.foldl_append,List.foldl_cons,List.foldl_nil,List.foldl_cons,List.foldl_nil];exact Zxh _ hs _ _ _ _
theorem Qym {MS MB:Fn} {items:List Itm} {aE aC:Rw} {st:Pt} {b:Bool} {len sp mid:Int} (hl:items.length<=1000) (hS:∀it,MS (Af it)=some [B (decide (smI it))]):
  ∀n:Nat,n<=items.length->∃o:Nat×List AC,Am (O2 MS MB) [.view Ai aE, .view AH aC, .view Ah (items.map Af),I ((n:Int)-1),I st.x,I st.y,I st.z,B b,I len,I sp,I mid]=some o/\
   match EG items n with
   |some i=>o=(1,[I (if smI (itA items i)/\(itA items i).blend≠0 then mid else len)])
   |none=>o=(2,[.view Ai aE, .view AH aC,I st.x,I st.y,I st.z,B b,I len,I sp,I mid])
 |0,_=>by
  refine⟨_,Bf (o:=(2,_)) ?_ (by simp),rfl⟩;rw[Q25,A3 (by omega)]
 |n+1,hn=>by
  have hlt:n<items.length:=by omega
  have hr:=Fl hlt;have hs:=hS (itA items n);simp only[Af]at hs;have hin:(0:Int)<=(n:Int)/\(n:Int)<(items.length:Int):=by omega
  have e:((n+1:Nat):Int)-1=n:=by omega
  have hst:O2 MS MB [.view Ai aE, .view AH aC, .view Ah (items.map Af),I n,I st.x,I st.y,I st.z,B b,I len,I sp,I mid]=
    if(itA items n).kind=10 then some (0,[.view Ai aE, .view AH aC, .view Ah (items.map Af),I ((n:Int)-1),I st.x,I st.y,I st.z,B b,I len,I sp,I mid])
    else some (1,[I (if smI (itA items n)/\(itA items n).blend≠0 then mid else len)]):=by
   rw[Q25];simp only[go_sem,ag,aj,hr,hs,aa hin];rw[aa (by omega),Ae (by omega)];by_cases c1:(itA items n).kind=10
   ·rw[aa c1,aa c1]
   ·rw[ab c1,ab c1];by_cases c2:smI (itA items n)
    ·rw[aa c2];by_cases c3:(itA items n).blend≠0
     ·rw[aa c3,aa ⟨c2,c3⟩]
     ·rw[ab c3,ab (λg=>c3 g.2)]
    ·rw[ab c2,ab (λg=>c2 g.1)]
  rw[e];unfold EG;by_cases c1:(itA items n).kind=10
  ·rw[aa c1]at hst⊢;rw[BC hst];exact Qym hl hS n (by omega)
  ·rw[ab c1]at hst⊢;exact⟨_,Bf hst (by simp),rfl⟩
theorem Zu9 {MS MB:Fn} {items:List Itm} (hl:items.length<=15) (hS:∀it,MS (Af it)=some [B (decide (smI it))]) (h:∃o,MB [.view Ah (items.map Af)]=some o/\JF items o):
  Zk MS MB (Am (O2 MS MB)) [.view Ah (items.map Af)]=some [I (if CF items=0 then BE items else 0)]:=by
 obtain⟨o,h1,h2⟩:=h;unfold JF at h2;by_cases c:CF items=0
 ·rw[aa c]at h2⊢;have hright:=(KI c).2;have hsum:=Zcd hright;have hmid:=λi hn hs=>Z1j (items:=items) (i:=i) hn hs;have hlp:= @Qym MS MB items ((Az items).aE.map AB) ((Az items).aC.map Au) (Az items).start (Ao items items.length).begun (Ao items items.length).len (Ao items items.length).speed (CV items items.length) (by omega) hS items.length (by omega);obtain⟨r,r1,r2⟩:=hlp;rw[Q9k,h1];subst h2;have hw:wrap .i64 ((items.length:Int)-1)=(items.length:Int)-1:=Ae (by omega);unfold BE;rw[hsum];generalize Am (O2 MS MB)=N at*;simp only[go_sem,ag,hw,r1];rw[ab (by simp)];cases hn:EG items items.length with
  |none=>
   rw[hn]at r2;simp only at r2;subst r2;rfl
  |some i=>
   rw[hn]at r2;simp only at r2;subst r2;simp only[go_sem];by_cases c2:smI (itA items i)/\(itA items i).blend≠0
   ·rw[aa c2,aa c2,hmid i hn c2.1]
   ·rw[ab c2,ab c2]
 ·rw[ab c]at h2⊢;subst h2;rw[Q9k,h1];simp only[go_sem];rw[aa c]
theorem Qld {items:List Itm} (hl:items.length<=15):G6 [.view Ah (items.map Af)]=some [I (if CF items=0 then BE items else 0)]:=Zu9 hl TR (Q65 hl)
def Zmb (item:Int) (a:Pt) (g:Sgm):Prop:=bd B24 g.to/\g.to≠a/\g.len=AE a g.to/\item<=g.item/\(0<=g.feed/\g.feed<=16777216)/\(0<=g.lead/\g.lead<=16777216)
def Q9f (item:Int) (a:Pt):List Sgm->Prop
 |[]=>True
 |g::l=>Zmb item a g/\Q9f g.item g.to l
def Ztm (last n:Int) (m:Mrk):Prop:=last<=m.at_/\m.at_<=n/\(1<=m.kind/\m.kind<=6)/\0<=m.item
def Qyq (last n:Int):List Mrk->Prop
 |[]=>True
 |m::l=>Ztm last n m/\Qyq m.at_ n l
end Go.Bm
namespace Go.Bm
theorem Ziw (r k:Int):(AS r k=r/\AU r k=0)\/(AS r k=0/\AU r k=r)\/(AS r k= -r/\AU r k=0)\/(AS r k=0/\AU r k= -r):=by
 have hc:k%4=0\/k%4=1\/k%4=2\/k%4=3:=by omega
 unfold AS AU;rcases hc with h|h|h|h<;>simp[h]
theorem Q9v (r k:Int):sq2 (AS r k) (AU r k)=r*r:=by
 unfold sq2;rcases Ziw r k with⟨h1,h2⟩|⟨h1,h2⟩|⟨h1,h2⟩|⟨h1,h2⟩<;>rw[h1,h2]<;>grind
theorem Zfb {p q k t:Int} (ht:t=1\/t=2\/t=3) (hp:0<p) (hq:0<q):crs (AS p k) (AU p k) (AS q (k+t)) (AU q (k+t))≠0\/dt2 (AS p k) (AU p k) (AS q (k+t)) (AU q (k+t))<0:=by
 have hc:k%4=0\/k%4=1\/k%4=2\/k%4=3:=by omega
 have hpq:0<p*q:=Int.mul_pos hp hq;have hm: -p*q= -(p*q)/\p* -q= -(p*q)/\ -p* -q=p*q:=⟨Int.neg_mul ..,Int.mul_neg ..,Int.neg_mul_neg ..⟩;have e:∀j:Int,(k+t)%4=j->∀i:Int,k%4=i->crs (AS p k) (AU p k) (AS q (k+t)) (AU q (k+t))=(if i=0 then p else if i=2 then-p else 0)*(if j=1 then q else if j=3 then-q else 0)-(if i=1 then p else if i=3 then-p else 0)*(if j=0 then q else if j=2 then-q else 0)/\
   dt2 (AS p k) (AU p k) (AS q (k+t)) (AU q (k+t))=(if i=0 then p else if i=2 then-p else 0)*(if j=0 then q else if j=2 then-q else 0)+(if i=1 then p else if i=3 then-p else 0)*(if j=1 then q else if j=3 then-q else 0):=by
  intro j hj i hi;subst hj hi;exact⟨rfl,rfl⟩
 rcases ht with rfl|rfl|rfl<;>rcases hc with h1|h1|h1|h1
 ·obtain⟨e1,e2⟩:=e 1 (by omega) _ h1;simp at e1 e2;omega
 ·obtain⟨e1,e2⟩:=e 2 (by omega) _ h1;simp at e1 e2;omega
 ·obtain⟨e1,e2⟩:=e 3 (by omega) _ h1;simp at e1 e2;omega
 ·obtain⟨e1,e2⟩:=e 0 (by omega) _ h1;simp at e1 e2;omega
 ·obtain⟨e1,e2⟩:=e 2 (by omega) _ h1;simp at e1 e2;omega
 ·obtain⟨e1,e2⟩:=e 3 (by omega) _ h1;simp at e1 e2;omega
 ·obtain⟨e1,e2⟩:=e 0 (by omega) _ h1;simp at e1 e2;omega
 ·obtain⟨e1,e2⟩:=e 1 (by omega) _ h1;simp at e1 e2;omega
 ·obtain⟨e1,e2⟩:=e 3 (by omega) _ h1;simp at e1 e2;omega
 ·obtain⟨e1,e2⟩:=e 0 (by omega) _ h1;simp at e1 e2;omega
 ·obtain⟨e1,e2⟩:=e 1 (by omega) _ h1;simp at e1 e2;omega
 ·obtain⟨e1,e2⟩:=e 2 (by omega) _ h1;simp at e1 e2;omega
theorem Zuk {size:Int} {it:Itm} (h:ArcMade size it):U4 it:=by
 obtain⟨r,k,t,g,x,h1,h2,h3,h4,h5,h6,h7,h8,h9,h10,h11,h12,h13⟩:=h.ends;have hp:=h.aF;have a1:dU it it.fr=AS r k:=by unfold dU;rw[h12,(Mm hp).1];omega
 have a2:dW it it.fr=AU r k:=by unfold dW;rw[h12,(Mm hp).2.1];omega
 have a3:dU it it.to=AS (r+g) (k+t):=by unfold dU;rw[h12,h13,(Mm hp).1,(Mm hp).1];omega
 have a4:dW it it.to=AU (r+g) (k+t):=by unfold dW;rw[h12,h13,(Mm hp).2.1,(Mm hp).2.1];omega
 have q1:qA it=r*r:=by unfold qA;rw[a1,a2,Q9v]
 have q2:qB it=(r+g)*(r+g):=by unfold qB;rw[a3,a4,Q9v]
 have m1:64<=r*r:=by
  have:=dq h1 h1 (by omega) (by omega);omega
 have m2:64<=(r+g)*(r+g):=by
  have:=dq (show(8:Int)<=r+g by omega) (show(8:Int)<=r+g by omega) (by omega) (by omega);omega
 unfold U4;refine⟨by omega,by omega,?_,?_,?_⟩
 ·rw[q1,q2];unfold Iy;right;have hg:g*g<=16:=by
   have:=dq h8 h8 h7 (by omega);omega
  have e1:r*r+(r+g)*(r+g)-16=2*(r*(r+g))+(g*g-16):=by grind
  have hpos:0<=r*(r+g):=Int.mul_nonneg (by omega) (by omega);have hge:64<=r*(r+g):=by
   have:=dq h1 (show(8:Int)<=r+g by omega) (by omega) (by omega);omega
  have hgg:0<=g*g:=Int.mul_nonneg h7 h7;have e2:4*(r*r)*((r+g)*(r+g))=(2*(r*(r+g)))*(2*(r*(r+g))):=by grind
  rw[e1,e2];generalize 2*(r*(r+g))=m at*;exact Int.mul_self_le_mul_self (by omega) (by omega)
 ·intro hf;rw[h11]at hf;have ht:=of_decide_eq_true hf;rw[a1,a2,a3,a4,ht,h10 ht,Int.add_zero,Int.add_zero];exact⟨rfl,rfl⟩
 ·intro hf;rw[h11]at hf;have ht:=of_decide_eq_false hf;unfold cAB dAB;rw[a1,a2,a3,a4];exact Zfb (by omega) (by omega) (by omega)
theorem Zjj {it:Itm} (h:Made it) (h1:bd 1000000 it.fr) (h2:bd 1000000 it.to):Dz it:=by
 refine⟨h.kind,AZ h1 (by omega),AZ h2 (by omega),λh3=> ?_⟩;have ha:=h.arc h3;exact⟨ha.aF,ha.dir,AZ (Qeu ha (by omega) h1).2 (by omega),Zuk ha⟩
end Go.Bm
namespace Go.Bm
open Classical
structure Oth (it : Itm) : Prop where
 kind:7<=it.kind/\it.kind<=14
 spin:it.kind=8->3<=it.n/\it.n<=5/\0<=it.speed/\it.speed<=4000
 dwell:it.kind=7->0<=it.n/\it.n<=4
 out:it.kind=10->0<=it.n/\it.n<=15
def GF:Pt->List Itm->Prop
 |_,[]=>True
 |p,it::l=>if AD it then it.fr=p/\GF it.to l else GF p l
def EU:Pt->List Itm->Pt
 |p,[]=>p
 |p,it::l=>if AD it then EU it.to l else EU p l
theorem Qdy {it:Itm}:∀{l:List Itm} {p:Pt},GF p l->(AD it->it.fr=EU p l)->GF p (l++[it])
 |[],p,_,h=>by
  simp only[az,GF];split
  ·rename_i c;exact⟨h c,trivial⟩
  ·trivial
 |a::l,p,h1,h=>by
  simp only[ax,GF]at h1⊢;unfold EU at h;by_cases c:AD a
  ·rw[aa c]at h1 h⊢;exact⟨h1.1,Qdy h1.2 h⟩
  ·rw[ab c]at h1 h⊢;exact Qdy h1 h
theorem IM {it:Itm}:∀{l:List Itm} {p:Pt},EU p (l++[it])=if AD it then it.to else EU p l
 |[],p=>by simp only[az,EU]
 |a::l,p=>by
  simp only[ax,EU];by_cases c:AD a
  ·rw[aa c,aa c];exact IM
  ·rw[ab c,ab c];exact IM
structure Items (A : Nat) (p : Pt) (l : List Itm) : Prop where
 link:GF p l
 made:∀it∈l,(AD it/\Made it/\FK it/\bd A it.fr/\bd A it.to)\/Oth it
theorem Ob {A:Nat} {p:Pt} {l:List Itm} {it:Itm} (h:Items A p l) (h1:AD it->it.fr=EU p l) (h2:(AD it/\Made it/\FK it/\bd A it.fr/\bd A it.to)\/Oth it):Items A p (l++[it]):=by
 refine⟨Qdy h.link h1,λi hi=> ?_⟩;simp only[bm,dm]at hi;rcases hi with hi|rfl
 ·exact h.made i hi
 ·exact h2
theorem Nj {it:Itm} (h:Oth it): ¬AD it:=λg=>by have:=h.kind;have:=g.2;omega
theorem Z3g {MN:Fn} {l:Rw} (hN:Hj l MN) (k:Nat):
  ∃(it:Itm) (k':Nat),Qkm MN [.view Aa l,I k]=some (Af it++[.view Aa l,I k'])/\k<=k'/\Oth it/\it.kind≠14:=by
 rw[Zv8];obtain⟨v0,k0,e0,a0,b0,c0,-,-⟩:=hN k (n:=8) (by omega);obtain⟨v1,k1,e1,a1,b1,c1,-,-⟩:=hN k0 (n:=16) (by omega);obtain⟨v2,k2,e2,a2,b2,c2,-,-⟩:=hN k1 (n:=2) (by omega);obtain⟨v3,k3,e3,a3,b3,c3,-,-⟩:=hN k0 (n:=5) (by omega);obtain⟨v4,k4,e4,a4,b4,c4,-,-⟩:=hN k0 (n:=3) (by omega);obtain⟨v5,k5,e5,a5,b5,c5,-,-⟩:=hN k4 (n:=4000) (by omega);simp only[go_sem,e0,e1,e2,e3,e4,e5];rw[Ae (x:=3+v4) (by omega)];have fin:∀(kd n sp:Int) (on:Bool) (k':Nat),k<=k'->kd≠14->Oth ⟨kd,0,⟨0,0,0⟩,⟨0,0,0⟩,0,⟨0,0,0⟩,0,false,0,false,0,0,0,n,sp,on⟩->
   ∃(it:Itm) (k'':Nat),some [I kd,I 0,I 0,I 0,I 0,I 0,I 0,I 0,I 0,I 0,I 0,I 0,I 0,B false,I 0,B false,I 0,I 0,I 0,I n,I sp,B on, .view Aa l,I k']=some (Af it++[.view Aa l,I k''])/\k<=k''/\Oth it/\it.kind≠14:=by
  intro kd n sp on k' h1 h0 h2;exact⟨_,k',rfl,h1,h2,h0⟩
 by_cases c0:v0=0
 ·rw[aa c0];exact fin _ _ _ _ _ (by omega) (by omega) ⟨by simp only;omega,by simp,by simp,λ_=>by simp only;omega⟩
 rw[ab c0];by_cases c1:v0=1
 ·rw[aa c1];exact fin _ _ _ _ _ (by omega) (by omega) ⟨by simp only;omega,by simp,by simp,λ_=>by simp only;omega⟩
 rw[ab c1];by_cases c2:v0=2
 ·rw[aa c2];exact fin _ _ _ _ _ (by omega) (by omega) ⟨by simp only;omega,by simp,λ_=>by simp only;omega,by simp⟩
 rw[ab c2];by_cases c3:v0=3
 ·rw[aa c3];exact fin _ _ _ _ _ (by omega) (by omega) ⟨by simp only;omega,λ_=>by simp only;omega,by simp,by simp⟩
 rw[ab c3];by_cases c4:v0=4
 ·rw[aa c4];exact fin _ _ _ _ _ (by omega) (by omega) ⟨by simp only;omega,by simp,by simp,by simp⟩
 rw[ab c4];by_cases c5:v0=5
 ·rw[aa c5];exact fin _ _ _ _ _ (by omega) (by omega) ⟨by simp only;omega,by simp,by simp,by simp⟩
 rw[ab c5];by_cases c6:v0=6
 ·rw[aa c6];exact fin _ _ _ _ _ (by omega) (by omega) ⟨by simp only;omega,by simp,by simp,by simp⟩
 rw[ab c6];exact fin _ _ _ _ _ (by omega) (by omega) ⟨by simp only;omega,by simp,by simp,by simp⟩
theorem Zg2 {l:Rw} (hl:Src l) (k:Nat):∃(it:Itm) (k':Nat),Li [.view Aa l,I k]=some (Af it++[.view Aa l,I k'])/\k<=k'/\Oth it/\it.kind≠14:=Z3g (HV hl) k
theorem Zes {v:Int} (h:0<=v/\v<8):∃x,Ag (nth .dead (nth [] [[I 2],[I 2],[I 2],[I 3],[I 1],[I 6],[I 5],[I 4]] v.toNat) 0)=x/\1<=x/\x<=6:=by
 have hc:v=0\/v=1\/v=2\/v=3\/v=4\/v=5\/v=6\/v=7:=by omega
 rcases hc with rfl|rfl|rfl|rfl|rfl|rfl|rfl|rfl<;>exact⟨_,rfl,by decide⟩
theorem Tm {l:List Itm} {it:Itm} (h:∀x∈l,x.kind≠14) (hi:it.kind≠14):∀x∈l++[it],x.kind≠14:=λx hx=>by
 simp only[bm,dm]at hx;rcases hx with hx|rfl
 ·exact h x hx
 ·exact hi
theorem Zv1 {MM MO ML MN MF:Fn} {l:Rw} (hN:Hj l MN)
  (hM : ∀ {p : Pt}, bd 100000000 p -> ∀ {kind : Int}, (1 <= kind /\ kind <= 6) -> ∀ k : Nat,
   ∃(it:Itm) (k':Nat),MM [I p.x,I p.y,I p.z,I kind, .view Aa l,I k]=some (Af it++[.view Aa l,I k'])/\k<=k'/\it.fr=p/\it.kind=kind/\Made it/\FK it)
  (hO:∀k:Nat,∃(it:Itm) (k':Nat),MO [.view Aa l,I k]=some (Af it++[.view Aa l,I k'])/\k<=k'/\Oth it/\it.kind≠14)
  (hL:∀k:Nat,ML [.view Aa l,I k]=some [B (decide (k<l.length)), .view Aa l,I k]) {most:Int} {fin:Bool} (hm:most<=100) {p:Pt}:
  ∀s:List Itm×Nat,(Items (4+40*102) p s.1/\bd (4+40*s.1.length) (EU p s.1)/\(s.1=[]\/s.1.length<=most+1)/\∀it∈s.1,it.kind≠14)->
   ∃o,Am (Qbi MM MO ML MN MF) [.view Ah (s.1.map Af),I most,B fin,I (EU p s.1).x,I (EU p s.1).y,I (EU p s.1).z, .view Aa l,I s.2]=some o/\o.1≠0/\
    ∃items,o=(1,[.view Ah (items.map Af),B fin])/\Items (4+40*102) p items/\(items=[]\/items.length<=most+1)/\∀it∈items,it.kind≠14:=by
 refine Q2o (S:=List Itm×Nat) (λs=>[.view Ah (s.1.map Af),I most,B fin,I (EU p s.1).x,I (EU p s.1).y,I (EU p s.1).z, .view Aa l,I s.2]) _ (λs=>l.length-s.2) _ ?_;rintro⟨items,k⟩ ⟨h1,h2,h3,h0⟩;simp only at h1 h2 h3 h0;simp only;rw[Zt8];simp only[go_sem,hL,ag];by_cases c1:(items.length:Int)<most
 case neg=>
  rw[ab c1];exact .inr ⟨_,rfl,by simp,items,rfl,h1,h3,h0⟩
 rw[aa c1];by_cases c2:k<l.length
 case neg=>
  rw[ab (by simpa using c2)];exact .inr ⟨_,rfl,by simp,items,rfl,h1,h3,h0⟩
 rw[aa (by simpa using c2)];obtain⟨v,k1,e1,a1,b1,d1,d2,-⟩:=hN k (n:=12) (by omega);have d3:=d2 c2;subst d3;simp only[go_sem,e1];have hmost:items.length<100:=by omega
 by_cases c3:v<4
 ·rw[aa c3];obtain⟨it,k2,e2,g1,g2,g0⟩:=hO (k+1);have hnm:=Nj g2;simp only[go_sem,e2,Af,ax,az];rw[aa (by simp;omega)];left;refine⟨(items++[it],k2),?_,⟨Ob h1 (λh=>absurd h hnm) (.inr g2),?_, .inr ?_,Tm h0 g0⟩,?_⟩
  ·simp only[IM,ab hnm,bt,bh,dk,Af]
  ·simp only[IM,ab hnm,ao,List.length_singleton];exact AZ h2 (by omega)
  ·simp only[ao,List.length_singleton];omega
  ·simp only;omega
 ·rw[ab c3,Ae (by omega)];obtain⟨x,hx,hx1,hx2⟩:=Zes (v:=v-4) (by omega);have hpb:bd 100000000 (EU p items):=AZ h2 (by omega);obtain⟨it,k2,e2,g1,g2,g3,g4,g5⟩:=hM hpb (kind:=x) (by omega) (k+1);have hmo:AD it:=by unfold AD;omega
  have hb2:=Q4l g4 (by rw[g2];exact h2);rw[aa (by simp;omega)];simp only[go_sem,hx,e2,Af,ax,az];have hmade:(AD it/\Made it/\FK it/\bd (4+40*102) it.fr/\bd (4+40*102) it.to)\/Oth it:= .inl ⟨hmo,g4,g5,by rw[g2];exact AZ h2 (by omega),AZ hb2 (by omega)⟩;by_cases c5:it.kind=5
  ·rw[aa c5];obtain⟨v3,k3,e3,a3,b3,d3,-,-⟩:=hN k2 (n:=2) (by omega);obtain⟨v4,k4,e4,a4,b4,d4,-,-⟩:=hN k3 (n:=3000) (by omega);simp only[go_sem,e3,e4];rw[Ae (x:=3+v3) (by omega),Ae (x:=200+v4) (by omega)];rw[aa (by simp;omega),aa (by simp;omega)];have hsp:Oth ⟨8,0,⟨0,0,0⟩,⟨0,0,0⟩,0,⟨0,0,0⟩,0,false,0,false,0,0,0,3+v3,200+v4,false⟩:=⟨by simp only;omega,λ_=>by simp only;omega,by simp,by simp⟩;have hnm:=Nj hsp;have i1:=Ob h1 (λh=>absurd h hnm) (.inr hsp);left;refine⟨(items++[⟨8,0,⟨0,0,0⟩,⟨0,0,0⟩,0,⟨0,0,0⟩,0,false,0,false,0,0,0,3+v3,200+v4,false⟩]++[it],k4),?_,⟨Ob i1 (λ_=>by rw[IM,ab hnm];exact g2) hmade,?_, .inr ?_,Tm (Tm h0 (by simp only;omega)) (by omega)⟩,?_⟩
   ·simp only[IM,aa hmo,bt,bh,dk,Af]
   ·simp only[IM,aa hmo,ao,List.length_singleton];exact AZ hb2 (by omega)
   ·simp only[ao,List.length_singleton];omega
   ·simp only;omega
  ·rw[ab c5,aa (by simp;omega)];left;refine⟨(items++[it],k2),?_,⟨Ob h1 (λ_=>g2) hmade,?_, .inr ?_,Tm h0 (by omega)⟩,?_⟩
   ·simp only[IM,aa hmo,bt,bh,dk,Af]
   ·simp only[IM,aa hmo,ao,List.length_singleton];exact AZ hb2 (by omega)
   ·simp only[ao,List.length_singleton];omega
   ·simp only;omega
def Mf:Itm:=⟨14,0,⟨0,0,0⟩,⟨0,0,0⟩,0,⟨0,0,0⟩,0,false,0,false,0,0,0,0,0,false⟩
theorem Qs2:Oth Mf:=⟨by simp[Mf],by simp[Mf],by simp[Mf],by simp[Mf]⟩
theorem Zg0 {MM MO ML MN MF:Fn} {N:Lp} {l:Rw} (hN:Hj l MN) (hF:MF [.view Aa l]=some [.view Aa l,I 0]) {most:Int} {fin:Bool} (hm:most<=100)
  (hL:∀(p:Pt) (k:Nat),bd 4 p->∃items,N [.view Ah [],I most,B fin,I p.x,I p.y,I p.z, .view Aa l,I k]=some (1,[.view Ah (items.map Af),B fin])/\Items 4084 p items/\(items=[]\/items.length<=most+1)/\∀it∈items,it.kind≠14):
  ∃(p:Pt) (items:List Itm),Qbd MM MO ML MN MF N [.view Aa l,I most,B fin]=some [.view Ah ((items++if fin=true then [Mf]else []).map Af)]/\Items 4084 p items/\(items=[]\/items.length<=most+1)/\∀it∈items,it.kind≠14:=by
 obtain⟨v1,k1,e1,a1,b1,c1,-,-⟩:=hN 0 (n:=9) (by omega);obtain⟨v2,k2,e2,a2,b2,c2,-,-⟩:=hN k1 (n:=9) (by omega);obtain⟨v3,k3,e3,a3,b3,c3,-,-⟩:=hN k2 (n:=9) (by omega);obtain⟨items,h1,h2,h3,h0⟩:=hL ⟨v1-4,v2-4,v3-4⟩ k3 ⟨by simp only;omega,by simp only;omega,by simp only;omega⟩;rw[Zr2];have e1':MN [I 9, .view Aa l,I 0]=some [I v1, .view Aa l,I k1]:=e1;simp only[go_sem,hF,e1',e2,e3];rw[Ae (x:=v1-4) (by omega),Ae (x:=v2-4) (by omega),Ae (x:=v3-4) (by omega)];simp only[h1,go_sem];refine⟨_,items,?_,h2,h3,h0⟩;have hlen:items.length<=101:=by
  rcases h3 with h3|h3
  ·rw[h3];simp
  ·omega
 cases fin
 ·simp
 ·rw[aa rfl,aa (by simp;omega),aa rfl,bt];rfl
theorem Zmj {l:Rw} (hl:Src l) {most:Int} (hm:most<=100) (fin:Bool):
  ∃(p:Pt) (items:List Itm),KQ [.view Aa l,I most,B fin]=some [.view Ah (items.map Af)]/\Items 4084 p items/\(items.length:Int)<=max most (-1)+2/\(fin=true->∃l,items=l++[Mf]/\(l.length:Int)<=max most (-1)+1)/\(fin=false->(items.length:Int)<=max most (-1)+1/\∀it∈items,it.kind≠14):=by
 obtain⟨p,items,h1,h2,h3,h0⟩:=Zg0 (MM:=Lo) (MO:=Li) (ML:=Gv) (N:=WO) (fin:=fin) (HV hl) (Q2 l) hm λp k hp=>by
  obtain⟨o,h1,-,items,rfl,h3,h4,h5⟩:=Zv1 (MF:=CO) (fin:=fin) (HV hl) (λhp _ hk k=>Z43 hl hp hk k) (λk=>Zg2 hl k) (Q89 l) hm (p:=p) ([],k) ⟨⟨trivial,by simp⟩,hp, .inl rfl,by simp⟩;exact⟨items,h1,h3,h4,h5⟩
 have hle:(items.length:Int)<=max most (-1)+1:=by
  rcases h3 with h3|h3
  ·rw[h3];simp;omega
  ·omega
 refine⟨p,_,h1,?_,?_,λhf=> ?_,λhf=> ?_⟩
 ·cases fin
  ·simpa using h2
  ·simp only[if_true];exact Ob h2 (λh=>absurd h (Nj Qs2)) (.inr Qs2)
 ·cases fin
  ·simp;omega
  ·simp;omega
 ·subst hf;exact⟨items,by simp,hle⟩
 ·subst hf;exact⟨by simpa using hle,by simpa using h0⟩
theorem Qm8 {A:Nat} {items:List Itm} (hA:A<=1000000) (hm:∀it∈items,(AD it/\Made it/\FK it/\bd A it.fr/\bd A it.to)\/Oth it):∀(k i:Nat) (last:Int) (p:Pt),i+k=items.length->GF p (items.drop i)->(0<=last->(itA items last.toNat).to=p)->GX items k i last=0
 |0,_,_,_,_,_,_=>rfl
 |k+1,i,last,p,hi,h,hp=>by
  have hlt:i<items.length:=by omega
  have hit:=hm _ (X9 hlt);rw[Qi2 hlt]at h;unfold GF at h;unfold GX;have hw: ¬Bu (itA items i):=by
   rcases hit with⟨h1,h2,h3,h4,h5⟩|ho
   ·have hv:=Zjj h2 (AZ h4 hA) (AZ h5 hA);have hf:=h2.feed;have hb:=h2.blend;have hk:=h2.kind;rintro(g|g|⟨-,g|g|g|g⟩|⟨g,-⟩)
    ·omega
    ·omega
    ·exact g hv
    ·omega
    ·omega
    ·omega
    ·exact g h1
   ·have hk:=ho.kind;rintro(g|g|⟨g,-⟩|⟨-,g1,g2⟩)
    ·omega
    ·omega
    ·exact Nj ho g
    ·have:=ho.spin g1;omega
  rw[ab hw];by_cases c:AD (itA items i)
  ·rw[aa c]at h⊢;rw[ab (λg=>g.2 (by rw[hp g.1];exact h.1.symm))];exact Qm8 hA hm k (i+1) i _ (by omega) h.2 (λ_=>by rw[aj])
  ·rw[ab c]at h⊢;exact Qm8 hA hm k (i+1) last p (by omega) h hp
theorem Qqh {A:Nat} {p:Pt} {items:List Itm} (hA:A<=1000000) (h:Items A p items) (hl:items.length<=20000):CF items=0:=by
 unfold CF;rw[ab (by omega)];exact Qm8 hA h.made items.length 0 (-1) p (by omega) (by rw[List.drop_zero];exact h.link) (λh=>by omega)
structure okW (R : Nat) (s : Spk) : Prop where
 ok:okS s
 u:s.u.natAbs<=R
 w:s.w.natAbs<=R
 r:s.r<=R
def Q68:Int->List Sgm->Int
 |k,[]=>k
 |_,g::l=>Q68 g.item l
structure VInv (i : Nat) (s : BSt) : Prop where
 begun:s.begun=true->bd B24 s.start/\Q9f 0 s.start s.aE/\Q68 0 s.aE<=i
 aC:Qyq 0 s.len s.aC
theorem Qft (items:List Itm):Az items=⟨(Ao items items.length).start,(Ao items items.length).aE,(Ao items items.length).aC⟩:=rfl
noncomputable def mkA (items:List Itm) (i:Nat):Mrk:=⟨(Ao items (i+1)).len,if AD (itA items i)then PQ items i else Qb (itA items i),i⟩
theorem Ta (items:List Itm):∀n,(Ao items n).aC=(List.range n).map (mkA items)
 |0=>rfl
 |n+1=>by
  rw[List.range_succ,bt,<-Ta items n];show(BR items n (Ao items n)).aC=_;unfold mkA;show _=_++[(⟨(BR items n (Ao items n)).len,_,_⟩:Mrk)];unfold BR;by_cases c:AD (itA items n)
  ·simp only[aa c]
  ·simp only[ab c]
theorem Qjj {items:List Itm} {i:Nat} (h:BInv (Ao items i)):(Ao items i).len=Aw (Ao items i).aE:=by
 by_cases hb:(Ao items i).begun=true
 ·exact(h.begun hb).2.2.2.symm
 ·obtain⟨h1,h2,-⟩:=h.empty (by simpa using hb);rw[h1,h2];rfl
theorem Q6l {items:List Itm} (hright:∀j<items.length,¬Bu (itA items j)) {i:Nat} (hi:i<=items.length):∀g∈(Ao items i).aE,1<=g.len:=by
 have h:=Jj hright i hi;by_cases hb:(Ao items i).begun=true
 ·exact λg hg=>(T1 (h.begun hb).1 (h.begun hb).2.1 g hg).1
 ·rw[(h.empty (by simpa using hb)).1];simp
theorem Zk6 {items:List Itm} (hright:∀j<items.length,¬Bu (itA items j)) {i k:Nat} (h:i+k<=items.length):0<=(Ao items i).len/\(Ao items i).len<=(Ao items (i+k)).len:=by
 rw[Qjj (Jj hright i (by omega)),Qjj (Jj hright (i+k) h)];obtain⟨l,hl⟩:=W0 items i k;have hg:=Q6l hright h;rw[hl]at hg⊢;rw[Nz];have h1:=Jp (l:=(Ao items i).aE) λg hg'=>hg g (by simp[hg']);have h2:=Jp (l:=l) λg hg'=>hg g (by simp[hg']);omega
theorem Zq4 {items:List Itm} (hright:∀j<items.length,¬Bu (itA items j)) {i:Nat} (hi:i<items.length):
  0<=(mkA items i).at_/\(mkA items i).at_<=Aw (Az items).aE:=by
 have h:=Zk6 hright (i:=i+1) (k:=items.length-(i+1)) (by omega);rw[show i+1+(items.length-(i+1))=items.length by omega]at h;refine⟨h.1,?_⟩;have:=Qjj (Jj hright items.length (bz _));rw[Qft];simp only;rw[<-this];exact h.2
theorem IOq {I R:List Itm} {j:Nat} (h:j<I.length):itA (I++R) j=itA I j:=by
 unfold itA;simp[List.getD_eq_getElem?_getD,List.getElem?_append_left h]
theorem Quz {R:List Itm}:∀{L:List Itm} {c:Nat},(∃x∈L,x.kind≠10)->E1 (L++R) c=E1 L c
 |[],_,h=>by obtain⟨x,h,-⟩:=h;cases h
 |y::L,c,h=>by
  rw[ax];unfold E1;by_cases c1:y.kind=10
  ·rw[aa c1,aa c1];obtain⟨x,hx,hk⟩:=h;refine Quz ⟨x,?_,hk⟩;rcases ay.1 hx with rfl|hx
   ·exact absurd c1 hk
   ·exact hx
  ·rw[ab c1,ab c1]
theorem Ztd {I R:List Itm} {i:Nat} (h:i<=I.length):(I++R).drop i=I.drop i++R:=by
 rw[List.drop_append_of_le_length h]
theorem Z2p {I:List Itm} {i j:Nat} (hi:i<=j) (hj:j<I.length):itA I j∈I.drop i:=by
 rw[Lt hj,List.mem_iff_getElem];refine⟨j-i,by simp;omega,?_⟩;rw[List.getElem_drop];congr 1;omega
theorem Zhl {I R:List Itm} {i m:Nat} (hi:i<m) (hm:m<I.length) (hk:(itA I m).kind≠10):Ba (I++R) i=Ba I i:=by
 unfold Ba;rw[IOq (show i<I.length by omega),Ztd (by omega),Quz ⟨_,Z2p (i:=i+1) (by omega) hm,hk⟩]
structure SameB (s t : BSt) : Prop where
 aE:s.aE=t.aE
 len:s.len=t.len
 speed:s.speed=t.speed
 frm:s.frm=t.frm
 begun:s.begun=t.begun
 start:s.start=t.start
 at_:s.at_=t.at_
theorem Qpw {I R:List Itm} {i k:Nat} (hi:i<I.length) (hk:k<I.length):FT (I++R) i k=FT I i k:=by
 unfold FT;rw[IOq hi,IOq hk]
theorem Zzh {I:List Itm} {i:Nat} (h:0<=Ba I i):(Ba I i).toNat<I.length:=by
 rcases T6 I i with h1|⟨-,-,k,h1,-,h2,-⟩
 ·omega
 ·rw[h1];simpa using h2
theorem Qxs {I R:List Itm} {i:Nat} {frm:Int} (hi:i<I.length) (hf:IF I i frm):FY (I++R) i frm=FY I i frm:=by
 unfold FY;rcases hf with rfl|⟨f,rfl,hf,-⟩
 ·rw[ab (by omega),ab (by omega),IOq hi]
 ·rw[aa (by omega),aa (by omega),Qpw (by simpa using hf) hi]
theorem Ziu {I R:List Itm} {i:Nat} (hi:i<I.length) (hs:Ba (I++R) i=Ba I i):Fx (I++R) i=Fx I i:=by
 unfold Fx;rw[hs];by_cases c:0<=Ba I i
 ·rw[aa c,aa c,Qpw hi (Zzh c)]
 ·rw[ab c,ab c,IOq hi]
theorem Zkg {I R:List Itm} {i:Nat} {frm:Int} (hi:i<I.length) (hf:IF I i frm) (hs:Ba (I++R) i=Ba I i):Ca (I++R) i frm=Ca I i frm:=by
 unfold Ca;rw[Qxs hi hf,Ziu hi hs,IOq hi]
theorem Qy0 {I R:List Itm} {i:Nat} {s t:BSt} (hi:i<I.length) (hf:IF I i s.frm) (hs:Ba (I++R) i=Ba I i) (h:SameB t s):SameB (BR (I++R) i t) (BR I i s):=by
 obtain⟨h1,h2,h3,h4,h5,h6,h7⟩:=h;unfold BR E7;rw[IOq hi,h4,Zkg hi hf hs,hs,h1,h2,h3,h5,h6,h7];by_cases c:AD (itA I i)
 ·rw[aa c,aa c];exact⟨rfl,rfl,rfl,rfl,rfl,rfl,rfl⟩
 ·rw[ab c,ab c];exact⟨rfl,rfl,rfl,rfl,rfl,rfl,rfl⟩
theorem Qwt {I R:List Itm} {m:Nat} (hright:∀j<I.length,¬Bu (itA I j)) (hm:m<I.length) (hk:(itA I m).kind≠10):∀i,i<=m->SameB (Ao (I++R) i) (Ao I i)
 |0,_=>⟨rfl,rfl,rfl,rfl,rfl,rfl,rfl⟩
 |i+1,hi=>Qy0 (by omega) (Kq hright i (by omega)).frm (Zhl (by omega) hm hk) (Qwt hright hm hk i (by omega))
theorem Wz {I:List Itm} {i:Nat}:∀k,(∀j,i<=j->j<i+k-> ¬AD (itA I j))->(Ao I (i+k)).aE=(Ao I i).aE/\(Ao I (i+k)).len=(Ao I i).len/\(Ao I (i+k)).begun=(Ao I i).begun/\(Ao I (i+k)).start=(Ao I i).start
 |0,_=>⟨rfl,rfl,rfl,rfl⟩
 |k+1,h=>by
  obtain⟨h1,h2,h3,h4⟩:=Wz k λj a b=>h j a (by omega);have hm:=h (i+k) (by omega) (by omega);have e:Ao I (i+(k+1))=BR I (i+k) (Ao I (i+k)):=rfl;rw[e];unfold BR;rw[ab hm];exact⟨h1,h2,h3,h4⟩
noncomputable def E2 (I:List Itm) (m:Nat):List Sgm×Int×Pt:=
 (FY I m (Ao I m).frm++[Bc (itA I m)]).foldl (AT m (EC (itA I m) (Ao I m).speed) (F3 (itA I m))) ((Ao I m).aE,(Ao I m).len,if(Ao I m).begun=true then(Ao I m).at_ else Ay (itA I m).fr)
noncomputable def E9 (I:List Itm):List Sgm:=
 match EG I I.length with
 |some m=>if smI (itA I m)/\(itA I m).blend≠0 then(E2 I m).1 else(Az I).aE
 |none=>(Az I).aE
theorem Ze5 {it:Itm} (h:smI it):AD it:=⟨by have:=h.1;omega,by have:=h.1;omega⟩
theorem Vz {I:List Itm} {m:Nat} (h:smI (itA I m)):(Ao I (m+1)).aE=((Fx I m).foldl (AT m (EC (itA I m) (Ao I m).speed) (F3 (itA I m))) (E2 I m)).1/\(Ao I (m+1)).len=((Fx I m).foldl (AT m (EC (itA I m) (Ao I m).speed) (F3 (itA I m))) (E2 I m)).2.1:=by
 have e:Ao I (m+1)=BR I m (Ao I m):=rfl;rw[e];unfold BR E7 Ca E2;rw[aa (Ze5 h),aa h,List.foldl_append];exact⟨rfl,rfl⟩
theorem Su {I:List Itm} {m:Nat} (h:EG I I.length=some m):m<I.length/\(itA I m).kind≠10/\∀j,m<j->j<I.length->(itA I j).kind=10:=To h
theorem Q7t {it:Itm} (h:it.kind=10): ¬AD it:=λc=>by have:=c.2;omega
theorem after {I:List Itm} {m:Nat} (h:EG I I.length=some m):(Az I).aE=(Ao I (m+1)).aE/\(Az I).start=(Ao I (m+1)).start/\(Ao I I.length).len=(Ao I (m+1)).len/\(Ao I I.length).begun=(Ao I (m+1)).begun:=by
 obtain⟨h1,h2,h3⟩:=Su h;obtain⟨a,b,c,d⟩:=Wz (I:=I) (i:=m+1) (I.length-(m+1)) λj g1 g2=>Q7t (h3 j (by omega) (by omega));rw[show m+1+(I.length-(m+1))=I.length by omega]at a b c d;exact⟨a,d,b,c⟩
theorem TI (I:List Itm):∃l,(Az I).aE=E9 I++l:=by
 unfold E9;split
 ·rename_i m h;split
  ·rename_i c;obtain⟨l,hl⟩:=PE (item:=m) (feed:=EC (itA I m) (Ao I m).speed) (lead:=F3 (itA I m)) (Fx I m) (E2 I m);exact⟨l,by rw[(after h).1,(Vz c.1).1,hl]⟩
  ·exact⟨[],by simp⟩
 ·exact⟨[],by simp⟩
theorem Qwi {I:List Itm}:∀{n:Nat},EG I n=none->∀j<n,(itA I j).kind=10
 |0,_,j,hj=>by omega
 |n+1,h,j,hj=>by
  unfold EG at h;split at h
  ·rename_i c;by_cases e:j=n
   ·rw[e];exact c
   ·exact Qwi h j (by omega)
  ·cases h
theorem Qp0 {I:List Itm} {j:Nat}:∀{n:Nat},j<n->(itA I j).kind≠10->∃m,EG I n=some m/\j<=m
 |0,h,_=>by omega
 |n+1,h,hk=>by
  unfold EG;by_cases c:(itA I n).kind=10
  ·rw[aa c];have:j≠n:=λe=>hk (by rw[e];exact c);exact Qp0 (by omega) hk
  ·rw[ab c];exact⟨n,rfl,by omega⟩
theorem P9 {I:List Itm} (hright:∀j<I.length,¬Bu (itA I j)):∀g∈(Az I).aE,1<=g.len:=Q6l hright (bz _)
theorem Q6b {I:List Itm} (h:EG I I.length=none):(Az I).aE=[]:=by
 have:=(Wz (I:=I) (i:=0) I.length λj _ g=>Q7t (Qwi h j (by omega))).1;rw[Nat.zero_add]at this;exact this
theorem Qpm {I:List Itm} (hright:∀j<I.length,¬Bu (itA I j)):BE I=Aw (E9 I):=by
 unfold BE E9;cases h:EG I I.length with
 |none=>rfl
 |some m=>
  simp only;by_cases c:smI (itA I m)/\(itA I m).blend≠0
  ·rw[aa c,aa c];obtain⟨h1,h2,h3⟩:=Su h;have hs: ¬0<=Ba I m:=by
    unfold Ba;rw[aa c];have key:∀(l:List Itm) (k:Nat),(∀x∈l,x.kind=10)->E1 l k= -1:=by
     intro l;induction l with
     |nil=>intros;rfl
     |cons y l ih=>intro k hk;unfold E1;rw[aa (hk y (by simp))];exact ih _ λx hx=>hk x (by simp[hx])
    rw[key _ _ λx hx=> ?_]
    ·omega
    ·obtain⟨j,hj,rfl⟩:=List.mem_iff_getElem.1 hx;rw[List.getElem_drop];have:=h3 (m+1+j) (by omega) (by simp at hj;omega);rw[Lt (by simp at hj;omega)]at this;exact this
   have hcn:=Vz c.1;have htl:Fx I m=[Ay (itA I m).to]:=by
    unfold Fx Cd;rw[ab hs,ab (by have:=c.1.1;omega)];rfl
   have hat:(E2 I m).2.2=Bc (itA I m):=Z5l _ _ _;rw[htl]at hcn;have e:AT m (EC (itA I m) (Ao I m).speed) (F3 (itA I m)) (E2 I m) (Ay (itA I m).to)=((E2 I m).1++[⟨Ay (itA I m).to,AE (E2 I m).2.2 (Ay (itA I m).to),m,EC (itA I m) (Ao I m).speed,F3 (itA I m)⟩],(E2 I m).2.1+AE (E2 I m).2.2 (Ay (itA I m).to),Ay (itA I m).to):=
    ab (by rw[hat];exact Qz7 c.1.2)
   simp only[List.foldl_cons,List.foldl_nil,e]at hcn;rw[(after h).1,hcn.1,SN,hat];simp only;omega
  ·rw[ab c,ab c]
theorem RP {I R:List Itm} (h:∀j<(I++R).length,¬Bu (itA (I++R) j)):∀j<I.length,¬Bu (itA I j):=λj hj=>by
 rw[<-IOq (R:=R) hj];exact h j (by rw[ao];omega)
theorem Q19 {I:List Itm} {m:Nat} (h: ¬(smI (itA I m)/\(itA I m).blend≠0)):Ba I m= -1:=by
 unfold Ba;rw[ab h]
theorem Q3j {I R:List Itm} (hright:∀j<(I++R).length,¬Bu (itA (I++R) j)):(∃l,E9 (I++R)=E9 I++l)/\((Az I).aE≠[]->(Az (I++R)).start=(Az I).start):=by
 have hrI:=RP hright;cases h:EG I I.length with
 |none=>
  have e:E9 I=[]:=by unfold E9;rw[h];exact Q6b h
  refine⟨⟨_,by rw[e];rfl⟩,λhne=>absurd (Q6b h) hne⟩
 |some m=>
  obtain⟨h1,h2,h3⟩:=Su h;have hsm:=Qwt (R:=R) hrI h1 h2 m (bz _);have hfr:=(Kq hrI m (by omega)).frm;have hlen:(I++R).length=I.length+R.length:=ao;have hi:=IOq (R:=R) h1;have e1:Ao (I++R) (m+1)=BR (I++R) m (Ao (I++R) m):=rfl;have e2:Ao I (m+1)=BR I m (Ao I m):=rfl
  have hbeg:(Ao (I++R) (m+1)).begun=(Ao I (m+1)).begun/\(Ao (I++R) (m+1)).start=(Ao I (m+1)).start:=by
   rw[e1,e2];unfold BR;rw[hi];by_cases c:AD (itA I m)
   ·rw[aa c,aa c];refine⟨rfl,?_⟩;simp only[hsm.begun,hsm.start]
   ·rw[ab c,ab c];exact⟨hsm.begun,hsm.start⟩
  have hpre:∀{m':Nat},m+1<=m'->∃l,(Ao (I++R) m').aE=(Ao (I++R) (m+1)).aE++l:=by
   intro m' hm';obtain⟨l,hl⟩:=W0 (I++R) (m+1) (m'-(m+1));rw[show m+1+(m'-(m+1))=m' by omega]at hl;exact⟨l,hl⟩
  have hcut:smI (itA I m)->E2 (I++R) m=E2 I m:=by
   intro c;unfold E2;rw[hi,hsm.frm,hsm.speed,hsm.aE,hsm.len,hsm.begun,hsm.at_,Qxs h1 hfr]
  have hfront:∃l,(Ao (I++R) (m+1)).aE=E9 I++l:=by
   unfold E9;rw[h];simp only;by_cases c:smI (itA I m)/\(itA I m).blend≠0
   ·rw[aa c];rw[(Vz (I:=I++R) (m:=m) (by rw[hi];exact c.1)).1,hcut c.1];exact PE _ _
   ·rw[ab c];have hs:Ba (I++R) m=Ba I m:=by rw[Q19 c,Q19 (by rw[hi];exact c)]
    have:=Qy0 (R:=R) h1 hfr hs hsm;rw[(after h).1,e2,<-this.aE,<-e1];exact⟨[],by simp⟩
  refine⟨?_,λhne=> ?_⟩
  ·obtain⟨m',h',hle⟩:=Qp0 (I:=I++R) (j:=m) (n:=(I++R).length) (by omega) (by rw[hi];exact h2);have hk:=Su h';have hall:(∃l,(Az (I++R)).aE=E9 I++l):=by
    obtain⟨l,hl⟩:=hpre (m':=m'+1) (by omega);obtain⟨l2,hl2⟩:=hfront;exact⟨l2++l,by rw[(after h').1,hl,hl2,dh]⟩
   have hst:E9 (I++R)=if smI (itA (I++R) m')/\(itA (I++R) m').blend≠0 then(E2 (I++R) m').1 else(Az (I++R)).aE:=by
    conv=>lhs;unfold E9
    rw[h']
   rw[hst];by_cases c:smI (itA (I++R) m')/\(itA (I++R) m').blend≠0
   ·rw[aa c];by_cases e:m'=m
    ·subst e;rw[hcut (by rw[<-hi];exact c.1)];have:E9 I=(E2 I m').1:=by
      unfold E9;rw[h];simp only;rw[hi]at c;rw[aa c]
     exact⟨[],by rw[this];simp⟩
    ·obtain⟨l,hl⟩:=hpre (m':=m') (by omega);obtain⟨l2,hl2⟩:=hfront;obtain⟨l3,hl3⟩:=PE (item:=m') (feed:=EC (itA (I++R) m') (Ao (I++R) m').speed) (lead:=F3 (itA (I++R) m')) (FY (I++R) m' (Ao (I++R) m').frm++[Bc (itA (I++R) m')]) ((Ao (I++R) m').aE,(Ao (I++R) m').len,if(Ao (I++R) m').begun=true then(Ao (I++R) m').at_ else Ay (itA (I++R) m').fr);refine⟨l2++(l++l3),?_⟩;unfold E2;rw[hl3];simp only;rw[hl,hl2];simp only[dh]
   ·rw[ab c];exact hall
  ·
   have hb:(Ao I (m+1)).begun=true:=by
    by_cases hb:(Ao I (m+1)).begun=true
    ·exact hb
    ·have:=(Jj hrI (m+1) (by omega)).empty (by simpa using hb);rw[(after h).1]at hne;exact absurd this.1 hne
   have hb2:=hbeg.1.trans hb;obtain⟨-,g⟩:=Q5n hb2 ((I++R).length-(m+1));rw[show m+1+((I++R).length-(m+1))=(I++R).length by omega]at g;rw[(after h).2.1,<-hbeg.2,<-g];rfl
theorem Qcb {I R:List Itm} (hright:∀j<(I++R).length,¬Bu (itA (I++R) j)):0<=BE I/\BE I<=Aw (Az I).aE/\BE I<=BE (I++R):=by
 have hrI:=RP hright;obtain⟨⟨l,hl⟩,-⟩:=Q3j hright;obtain⟨l2,hl2⟩:=TI I;obtain⟨l3,hl3⟩:=TI (I++R);have g1:=P9 hrI;have g2:=P9 hright;rw[Qpm hrI,Qpm hright,hl];rw[hl2]at g1;rw[hl3,hl]at g2;rw[hl2,Nz,Nz];have n1:=Jp (l:=E9 I) λg hg=>g1 g (by simp[hg]);have n2:=Jp (l:=l2) λg hg=>g1 g (by simp[hg]);have n3:=Jp (l:=l) λg hg=>g2 g (by simp[hg]);omega
theorem Qci {R:List Itm}:∀{J:List Itm} {p:Pt},GF p (J++R)->GF p J
 |[],_,_=>trivial
 |it::J,p,h=>by
  rw[ax]at h;unfold GF at h⊢;by_cases c:AD it
  ·rw[aa c]at h⊢;exact⟨h.1,Qci h.2⟩
  ·rw[ab c]at h⊢;exact Qci h
theorem Z00 {A:Nat} {p:Pt} {J R:List Itm} (h:Items A p (J++R)):Items A p J:=
 ⟨Qci h.link,λit hi=>h.made it (List.mem_append_left _ hi)⟩
theorem Qw7 {p q:Pth} {P l m:List Sgm} (hp:p.aE=P++l) (hq:q.aE=P++m) (hs:q.start=p.start) (x:Ax3) (hi:Int) (t0:Trk×Pt):∀j,j<=P.length->Bi p x 1 0 hi t0 j=Bi q x 1 0 hi t0 j
 |0,_=>rfl
 |j+1,hj=>by
  have ih:=Qw7 hp hq hs x hi t0 j (by omega);rw[Bi,Bi,ih];have e:∀n,C5 n 1 j=j:=λn=>by unfold C5;rw[ab (by omega)]
  rw[e,e];have tk:∀i,i<=P.length->p.aE.take i=q.aE.take i:=λi hi=>by rw[hp,hq,List.take_append_of_le_length hi,List.take_append_of_le_length hi]
  have p1:Av p.aE j=Av q.aE j:=by unfold Av;rw[tk j (by omega)]
  have p2:Av p.aE (j+1)=Av q.aE (j+1):=by unfold Av;rw[tk (j+1) (by omega)]
  have v1:Ef p.start p.aE j=Ef q.start q.aE j:=by unfold Ef;rw[tk j (by omega),hs]
  have s1:sgA p.aE j=sgA q.aE j:=by
   unfold sgA;rw[hp,hq];simp[List.getD_eq_getElem?_getD,List.getElem?_append_left (show j<P.length by omega)]
  unfold Ct;rw[p1,p2,v1,s1]
theorem Qfs {p:Pth} {P l:List Sgm} (hp:p.aE=P++l) (hg:∀g∈p.aE,1<=g.len) (x:Ax3) {hi:Int} (hh:hi<=Aw P) (t0:Trk×Pt):∀k,Bi p x 1 0 hi t0 (P.length+k)=Bi p x 1 0 hi t0 P.length
 |0=>rfl
 |k+1=>by
  have ih:=Qfs hp hg x hh t0 k;show Ct p x 1 0 hi (C5 p.aE.length 1 (P.length+k)) (Bi p x 1 0 hi t0 (P.length+k))=_;rw[ih];unfold Ct C5;rw[ab (show¬(1:Int)<0 by omega)];have e:Av p.aE (P.length+k)=Aw P+Aw (l.take k):=by
   unfold Av;rw[hp,List.take_length_add_append,Nz]
  have:=Jp (l:=l.take k) λg h=>hg g (by rw[hp];exact List.mem_append_right _ (de h));rw[ab (by omega)]
theorem Zzg {p q:Pth} {P l m:List Sgm} (hp:p.aE=P++l) (hq:q.aE=P++m) (hs:q.start=p.start) (gp:∀g∈p.aE,1<=g.len) (gq:∀g∈q.aE,1<=g.len) (x:Ax3) (d:Pt) {n:Int} (h0:0<=n) (hn:n<=Aw P):
  Bb p x d 0 n=Bb q x d 0 n:=by
 have np:=Jp (l:=l) λg h=>gp g (by rw[hp];exact List.mem_append_right _ h);have nq:=Jp (l:=m) λg h=>gq g (by rw[hq];exact List.mem_append_right _ h);have sp:Aw p.aE=Aw P+Aw l:=by rw[hp,Nz]
 have sq:Aw q.aE=Aw P+Aw m:=by rw[hq,Nz]
 have c1:A5 0 (Aw p.aE)=0:=by unfold A5;omega
 have c2:A5 0 (Aw q.aE)=0:=by unfold A5;omega
 have c3:A5 n (Aw p.aE)=n:=by unfold A5;omega
 have c4:A5 n (Aw q.aE)=n:=by unfold A5;omega
 unfold Bb;simp only[c1,c2,c3,c4];rw[ab (by omega),Int.min_eq_left h0,Int.max_eq_right h0];have lp:p.aE.length=P.length+l.length:=by rw[hp,ao]
 have lq:q.aE.length=P.length+m.length:=by rw[hq,ao]
 rw[lp,lq,Qfs hp gp x hn,Qfs hq gq x hn,Qw7 hp hq hs x n _ _ (bz _)]
theorem Qso {x:Ax3} {Q:Int->Pt->Prop}:∀{a s:Int} {d:Pt} {l:List Pce} {u:Int},Dv x 1 Q a s d l->l≠[]->u<=BO a l->plL l u<=C4 s l
 |_,_,_,[],_,_,h,_=>absurd rfl h
 |a,s,d,c::l,u,h,_,hu=>by
  obtain⟨h1,h2,h3,h4,h5⟩:=h;have hm:c.move=1\/c.move=0:=by rcases h4 with h4|h4<;>simp[h4.1]
  have he:=Qmy (.inl rfl) h5;unfold plL;by_cases c0:u<=c.at_+c.units
  ·rw[aa c0];unfold C4;generalize C4 (s+c.move*c.units) l=E at*;rcases hm with hm|hm<;>rw[hm]at he⊢<;>omega
  ·rw[ab c0];have hne:l≠[]:=by
    intro e;subst e;simp only[BO]at hu;omega
   exact Qso h5 hne hu
theorem Q7 {x:Ax3} {Q:Int->Pt->Prop}:∀{a s:Int} {d:Pt} {l:List Pce},Dv x 1 Q a s d l->l≠[]->∀v w:Int,a<=v->v<=w->w<=BO a l->s<=plL l v/\plL l v<=plL l w
 |_,_,_,[],_,h,_,_,_,_,_=>absurd rfl h
 |a,s,d,c::l,h,_,v,w,h0,h1,h2=>by
  obtain⟨g1,g2,g3,g4,g5⟩:=h;have hm:c.move=1\/c.move=0:=by rcases g4 with g4|g4<;>simp[g4.1]
  have more: ¬w<=a+c.units->l≠[]:=λhw e=>by
   subst e;simp only[BO]at h2;omega
  simp only[BO]at h2;unfold plL;rw[g1,g2];by_cases cv:v<=a+c.units
  ·rw[aa cv];by_cases cw:w<=a+c.units
   ·rw[aa cw];rcases hm with hm|hm<;>rw[hm]<;>omega
   ·rw[ab cw];have ih:=Q7 g5 (more cw) w w (by omega) (cg _) h2;rcases hm with hm|hm<;>rw[hm]at ih⊢<;>omega
  ·rw[ab cv,ab (by omega)];have ih:=Q7 g5 (more (by omega)) v w (by omega) h1 h2;rcases hm with hm|hm<;>rw[hm]at ih<;>omega
structure Fw (t : Trk) (n : Int) : Prop where
 wh:∀z,0<=z->z<=n->0<=A9 t z/\A9 t z<=t.length/\AK t (A9 t z)=z/\∀v,0<=v->v<A9 t z->AK t v<z
 up:∀u v,u<=v->AK t u<=AK t v
 rg:∀u,0<=AK t u/\AK t u<=n
 zero:AK t 0=0
 len:0<=t.length/\t.length<=900000000000000
theorem Fw.le {t:Trk} {n:Int} (h:Fw t n) {z u:Int} (h0:0<=z) (h1:z<=n) (hu:u<=A9 t z):AK t u<=z:=by
 have h2:=h.wh z h0 h1;have:=h.up u _ hu;omega
theorem Fw.ge {t:Trk} {n:Int} (h:Fw t n) {z u:Int} (h0:0<=z) (h1:z<=n) (hp:0<=u) (hu:z<=AK t u):A9 t z<=u:=by
 apply Decidable.byContradiction;intro c;have:=(h.wh z h0 h1).2.2.2 u hp (by omega);omega
theorem Fw.wmono {t:Trk} {n:Int} (h:Fw t n) {y z:Int} (h0:0<=y) (h1:y<=z) (h2:z<=n):A9 t y<=A9 t z:=by
 have hz:=h.wh z (by omega) h2;refine h.ge h0 (by omega) hz.1 ?_;rw[hz.2.2.1];exact h1
theorem Rd {p:Pth} {x:Ax3} {d:Pt} {m:Int} (hx:Ax3OK x) (hp:GoodPath p) (hm:0<=m/\m<=Aw p.aE):Fw (Bb p x d 0 m) m:=by
 have hn:=O7 hp;obtain⟨d',h1,h2,-⟩:=NI (d:=d) (a:=0) (b:=m) (Q:=λ_ _=>True) hx hp (λ_ _ _ _ _ _ _ _=>trivial);have ht:=RT d 0 m hx hp;have c1:A5 0 (Aw p.aE)=0:=by unfold A5;omega
 have c2:A5 m (Aw p.aE)=m:=by unfold A5;omega
 have hmv:mvP p 0 m=1:=by unfold mvP;rw[c1,c2,ab (by omega)]
 rw[hmv,c2]at h1;rw[c1]at h2;generalize Bb p x d 0 m=t at*;obtain⟨ch,hl,hs,-⟩:=h1;rw[h2]at ch hs;by_cases hne:t.aD=[]
 ·have hn0:m=0:=by rw[hne]at hs;exact hs.symm
  have hl0:t.length=0:=by rw[hne]at hl;exact hl.symm
  have pl:∀u,AK t u=0:=λu=>by unfold AK;rw[aa hne,h2]
  refine⟨λz z0 z1=> ?_,λu v _=>by rw[pl,pl];omega,λu=>by rw[pl];omega,pl 0,ht.len⟩;have hw:A9 t z=0:=by unfold A9;rw[aa (by rw[h2];omega)]
  rw[hw];exact⟨by omega,by omega,by rw[pl];omega,λv h0 h1=>by omega⟩
 ·have cl:∀u,0<=clT t u/\clT t u<=t.length:=OE ht;have cid:∀u,0<=u->u<=t.length->clT t u=u:=λu h0 h1=>by unfold clT A5;omega
  have cmono:∀u v,u<=v->clT t u<=clT t v:=λu v h=>by unfold clT A5;omega
  have up:∀u v,u<=v->AK t u<=AK t v:=λu v h=>by
   rw[I6 ht u hne,I6 ht v hne];exact(Q7 ch hne _ _ (cl u).1 (cmono u v h) (by rw[hl];exact(cl v).2)).2
  have lo:∀u,0<=AK t u:=λu=>by
   rw[I6 ht u hne];exact(Q7 ch hne _ _ (cl u).1 (cg _) (by rw[hl];exact(cl u).2)).1
  have hi:∀u,AK t u<=m:=λu=>by
   rw[I6 ht u hne];have:=Qso ch hne (u:=clT t u) (by rw[hl];exact(cl u).2);rw[hs]at this;exact this
  have zero:AK t 0=0:=by
   rw[I6 ht 0 hne,cid 0 (by omega) ht.len.1];obtain⟨c,l,e⟩:=List.exists_cons_of_ne_nil hne;rw[e]at ch⊢;obtain⟨g1,g2,g3,-⟩:=ch;unfold plL;rw[aa (by omega),g1,g2];simp
  refine⟨λz z0 z1=> ?_,up,λu=>⟨lo u,hi u⟩,zero,ht.len⟩;by_cases hz:z=0
  ·have hw:A9 t z=0:=by unfold A9;rw[aa (by rw[h2];exact hz)]
   rw[hw];exact⟨by omega,ht.len.1,by rw[zero,hz],λv h0 h1=>by omega⟩
  ·have hw:A9 t z=wF z t.aD:=by unfold A9;rw[ab (by rw[h2];exact hz)]
   obtain⟨a1,a2,a3,a4⟩:=(Qp7 (.inl rfl) z ch).2.2 (by omega) (by rw[hs];omega);rw[hl]at a2;rw[hw];refine⟨by omega,a2,?_,λv h0 h1=> ?_⟩
   ·rw[I6 ht _ hne,cid _ (by omega) a2,a3]
   ·rw[I6 ht _ hne,cid v h0 (by omega)];have:=a4 v h0 h1;omega
theorem Qol {p:Pth} {x:Ax3} {d:Pt} (hx:Ax3OK x) (hp:GoodPath p):Fw (Bb p x d 0 (Aw p.aE)) (Aw p.aE):=
 Rd hx hp ⟨(O7 hp).1,cg _⟩
end Go.Bm
namespace Go.Bm
theorem eB {α β:Type} {a:Option α} {f:α->Option β} {x:α} {r:Option β} (h:a=some x) (g:f x=r):a.bind f=r:=by rw[h];exact g
theorem eT {α:Type} {c:Bool} {a b r:α} (h:c=true) (g:a=r):cond c a b=r:=by rw[h];exact g
theorem eF {α:Type} {c:Bool} {a b r:α} (h:c=false) (g:b=r):cond c a b=r:=by rw[h];exact g
theorem eC {α:Type} {c:Bool} {a b r:α} (h:c=true->a=r) (g:c=false->b=r):cond c a b=r:=by cases c;exact g rfl;exact h rfl
theorem beF {a b:Int} (h:a≠b):(a==b)=false:=by simpa using h
theorem beT {a b:Int} (h:a=b):(a==b)=true:=by simpa using h
theorem bnF {a b:Int} (h:a=b):(a !=b)=false:=by simpa using h
theorem bnT {a b:Int} (h:a≠b):(a !=b)=true:=by simpa using h
theorem FD {α β:Type} {a:Option α} {f:α->Option β} (h:a.isSome=true) (g:∀o,a=some o->(f o).isSome=true):(a.bind f).isSome=true:=by
 cases a with
 |none=>simp at h
 |some o=>exact g o rfl
theorem B5 {α:Type} {c:Bool} {a b:Option α} (h:c=true->a.isSome=true) (g:c=false->b.isSome=true):(cond c a b).isSome=true:=by
 cases c
 ·exact g rfl
 ·exact h rfl
def Out {α:Type} (p:α->Prop) (a:Option α):Prop:=∃o,a=some o/\p o
theorem Out.is {α:Type} {p:α->Prop} {a:Option α} (h:Out p a):a.isSome=true:=by obtain⟨o,h,_⟩:=h;rw[h];rfl
theorem Out.of {α:Type} {a:Option α} (h:a.isSome=true):Out (λ_=>True) a:=by
 cases a with
 |none=>simp at h
 |some o=>exact⟨o,rfl,trivial⟩
theorem Out.bind {α β:Type} {p:α->Prop} {q:β->Prop} {a:Option α} {f:α->Option β} (h:Out p a) (g:∀o,p o->Out q (f o)):Out q (a.bind f):=by
 obtain⟨o,rfl,h⟩:=h;exact g o h
theorem Out.ibind {α β:Type} {q:β->Prop} {a:Option α} {f:α->Option β} (h:a.isSome=true) (g:∀o,a=some o->Out q (f o)):Out q (a.bind f):=by
 cases a with
 |none=>simp at h
 |some o=>exact g o rfl
theorem Out.cond {α:Type} {p:α->Prop} {c:Bool} {a b:Option α} (h:c=true->Out p a) (g:c=false->Out p b):Out p (cond c a b):=by
 cases c
 ·exact g rfl
 ·exact h rfl
theorem Out.some {α:Type} {p:α->Prop} {o:α} (h:p o):Out p (some o):=⟨o,rfl,h⟩
theorem Out.mono {α:Type} {p q:α->Prop} {a:Option α} (h:Out p a) (g:∀o,p o->q o):Out q a:=by obtain⟨o,h,h2⟩:=h;exact⟨o,h,g o h2⟩
theorem CX {S:Type} {step:Lp} (enc:S->List AC) (Inv:S->Prop) (m:S->Nat) (Q:Nat×List AC->Prop)
  (h:∀s,Inv s->Out (λo=>(o.1=0/\∃s',o.2=enc s'/\Inv s'/\m s'<m s)\/(o.1≠0/\Q o)) (step (enc s))) (s:S) (hs:Inv s):Out Q (Am step (enc s)):=by
 obtain ⟨o, h1, _, h2⟩ := Q2o (step := step) enc Inv m Q (λs hs => by
  obtain⟨o,h1,h2⟩:=h s hs;rcases h2 with⟨h2,s',h3,h4,h5⟩|⟨h2,h3⟩
  ·refine .inl ⟨s',?_,h4,h5⟩;rw[h1,<-h3,<-h2]
  ·exact .inr ⟨o,h1,h2,h3⟩) s hs
 exact⟨o,h1,h2⟩
theorem Bt {p:Prop} [Decidable p] (h:decide p=true):p:=of_decide_eq_true h
theorem Bq {p:Prop} [Decidable p] (h:decide p=false): ¬p:=of_decide_eq_false h
theorem inB {i:Int} {n:Nat} (h0:0<=i) (h1:i<(n:Int)):(decide (0<=i)&&decide (i<(n:Int)))=false->False:=by
 intro h;rcases Bool.and_eq_false_iff.1 h with c|c
 ·exact Bq c h0
 ·exact Bq c h1
theorem B_ {a b:Nat} (h:a<=b):Nat.ble a b=true:=Nat.ble_eq_true_of_le h
theorem Q29 (a b c d:Int):(Hl [I a,I b,I c,I d]).isSome=true:=by
 unfold Hl;rw[Zn]
 repeat' first|exact rfl|refine B5 (λ_=> ?_) (λ_=> ?_)
 rename_i h1 h2;simp at h1 h2;omega
theorem Q3 (a b c:Int):Fe [I a,I b,I c]=some [B (decide (1<=a/\a<=65536/\2<=b/\b<=65536/\1<=c/\c<=16777216))]:=by
 unfold Fe;rw[Zre];by_cases h1:1<=a<;>by_cases h2:a<=65536<;>by_cases h3:2<=b<;>by_cases h4:b<=65536<;>by_cases h5:1<=c<;>by_cases h6:c<=16777216<;>simp[h1,h2,h3,h4,h5,h6]
theorem Zs3 {M:Fn} (h:∀a b c d,(M [I a,I b,I c,I d]).isSome=true) (a b c v x:Int):(Py M [I a,I b,I c,I v,I x]).isSome=true:=by
 rw[Qjn]
 repeat' first|exact rfl|exact h _ _ _ _|refine B5 (λ_=> ?_) (λ_=> ?_)|refine FD ?_ λ_ _=> ?_
theorem Qay (a b c v x:Int):(He [I a,I b,I c,I v,I x]).isSome=true:=Zs3 Q29 a b c v x
theorem Zit (x:Int): -9223372036854775808<=wrap .i64 x/\wrap .i64 x<=9223372036854775807:=by
 simp[IntKind.wrap,IntKind.signed,IntKind.bits];omega
theorem Zt7 {ML MV:Fn} (hL:∀a b c d,(ML [I a,I b,I c,I d]).isSome=true) {v a b c low high:Int} (h1: -9000000000000<=low/\low<=9000000000000) (h2: -9000000000000<=high/\high<=9000000000000):
  Out (λo=>o.1=1) (Am (Lb ML MV) [I v,I low,I high,I a,I b,I c]):=by
 refine CX (λs:Int×Int=>[I v,I s.1,I s.2,I a,I b,I c]) (λs=>(-9000000000000<=s.1/\s.1<=9000000000000)/\(-9000000000000<=s.2/\s.2<=9000000000000)) (λs=>(s.2-s.1).toNat) _ ?_ (low,high) ⟨h1,h2⟩;rintro⟨l,h⟩ ⟨q1,q2⟩;dsimp only at*;rw[Qkc];refine .cond (λc=> ?_) (λc=> ?_)
 ·have c:=Bt c;have e:wrap .i64 (h-wrap .i64 ((wrap .i64 (h-l)).tdiv 2))=h-(h-l)/2:=by
   rw[Ae (x:=h-l) (by omega),bj (by omega),Ae (x:=(h-l)/2) (by omega),Ae (by omega)]
  rw[e];refine .ibind (hL _ _ _ _) λo _=> ?_;refine .cond (λ_=> ?_) (λ_=> ?_)
  ·exact .some (.inl ⟨rfl,(h-(h-l)/2,h),rfl,by dsimp only;omega,by dsimp only;omega⟩)
  ·refine .some (.inl ⟨rfl,(l,h-(h-l)/2-1),?_,by dsimp only;omega,by dsimp only;omega⟩);rw[Ae (x:=h-(h-l)/2-1) (by omega)]
 ·exact .some (.inr ⟨by simp,rfl⟩)
theorem Zqn {ML MV:Fn} (hL:∀a b c d,(ML [I a,I b,I c,I d]).isSome=true) (hV:∀a b c,MV [I a,I b,I c]=some [B (decide (1<=a/\a<=65536/\2<=b/\b<=65536/\1<=c/\c<=16777216))]) (a b c v x:Int):
  (Tq ML MV (Am (Lb ML MV)) [I a,I b,I c,I v,I x]).isSome=true:=by
 rw[Qya,hV];simp only[af];refine B5 (λ_=>rfl) λh1=>B5 (λ_=>rfl) λh2=>B5 (λ_=>rfl) λh3=> ?_;simp only[go_sem,Bool.not_eq_false',co]at h1;have h2:=Bq h2;have h3:=Bq h3;have hx: -1099511627776<=x/\x<=1099511627776:=by
  unfold mx at h2;unfold mn at h3;split at h2<;>split at h3<;>omega
 obtain⟨o,h4,h5⟩:=Zt7 (MV:=MV) hL (v:=v) (a:=a) (b:=b) (c:=c) (low:=wrap .i64 (wrap .i64 (0-x)-b)) (high:=mn (wrap .i64 (b-x)) a)
  (by rw[Ae (x:=0-x) (by omega),Ae (by omega)];omega) (by rw[Ae (x:=b-x) (by omega)];unfold mn;split<;>omega)
 rw[h4];simp only[af,h5];rfl
theorem Zil (a b c v x:Int):(Fq [I a,I b,I c,I v,I x]).isSome=true:=Zqn Q29 Q3 a b c v x
theorem Zns {MB MR MV:Fn} (hB:∀a b c v x,(MB [I a,I b,I c,I v,I x]).isSome=true) {a b c v x:Int}:
  Out (λo=>o.1=1\/o.1=2/\(wA o.2 0).length<=4096) (Am (It MB MR MV) [.view Aa [],I v,I x,I a,I b,I c]):=by
 refine CX (λs:Rw×Int×Int=>[.view Aa s.1,I s.2.1,I s.2.2,I a,I b,I c]) (λs=>s.1.length<=4096) (λs=>4096-s.1.length) _ ?_ ([],v,x) (by simp);rintro⟨l,v,x⟩ h;dsimp only at*;rw[PU];refine .cond (λ_=> ?_) (λ_=> ?_)
 ·refine .cond (λ_=> ?_) (λh2=> ?_)
  ·exact .some (.inr ⟨by simp, .inl rfl⟩)
  ·have h2: ¬((l.length:Int)=4096):=by simpa using h2
   refine .ibind (hB _ _ _ _ _) λo _=> ?_;refine .cond (λ_=> ?_) (λh3=> ?_)
   ·exact .some (.inl ⟨rfl,(_,_,_),rfl,by simp;omega,by simp;omega⟩)
   ·rw[B_ (by simp;omega)]at h3;cases h3
 ·exact .some (.inr ⟨by simp, .inr ⟨rfl,h⟩⟩)
theorem Zk7 {MB MR MV:Fn} (hB:∀a b c v x,(MB [I a,I b,I c,I v,I x]).isSome=true) (hR:∀a b c v x,(MR [I a,I b,I c,I v,I x]).isSome=true) (hV:∀a b c,MV [I a,I b,I c]=some [B (decide (1<=a/\a<=65536/\2<=b/\b<=65536/\1<=c/\c<=16777216))]) (a b c v x:Int):
  Out (λo=>(wA o 0).length<=4096) (Q1 MB MR MV (Am (It MB MR MV)) [I a,I b,I c,I v,I x]):=by
 rw[YL,hV];simp only[af];refine .cond (λ_=> .some (by simp[gA,wA,bA,jA,nth,BV])) λ_=> .ibind (hR _ _ _ _ _) λo _=> .cond (λ_=> .some (by simp[gA,wA,bA,jA,nth,BV])) λ_=> ?_;refine .bind (Zns hB) λo h=> ?_;rcases h with h|⟨h,h2⟩
 ·rw[h];exact .some (by simp[gA,wA,bA,jA,nth,BV])
 ·rw[h];exact .some h2
theorem Zez (a b c v x:Int):Out (λo=>(wA o 0).length<=4096) (J6 [I a,I b,I c,I v,I x]):=Zk7 Zil Qay Q3 a b c v x
theorem Q2d {M:Fn} {u:Int} {sp out:Rw} (h0:out.length=sp.length) (h1:sp.length<=4096):
  Out (λo=>o.1=1/\(wA o.2 0).length=sp.length) (Am (Hp M) [.view Aa out,I u, .view Aa sp,I (sp.length:Int),I 0]):=by
 refine CX (λs:Rw×Int×Nat=>[.view Aa s.1,I s.2.1, .view Aa sp,I (sp.length:Int),I (s.2.2:Int)]) (λs=>s.1.length=sp.length/\s.2.2<=sp.length) (λs=>sp.length-s.2.2) _ ?_ (out,u,0) ⟨h0,by simp⟩;rintro⟨l,u,i⟩ ⟨g1,g2⟩;dsimp only at*;rw[Qn7];refine .cond (λc=> ?_) (λ_=> ?_)
 ·have c:=Bt c;refine .cond (λ_=> ?_) (λh=> ?_)
  ·refine .cond (λ_=> ?_) (λh=> ?_)
   ·have e:=Ae (x:=(i:Int)+1) (by omega);rw[e];generalize wrap .i64 (u+gA (nth [] sp (i:Int).toNat) 0)=z;exact .some (.inl ⟨rfl,(l.set (i:Int).toNat [I z],z,i+1),rfl,by simp;omega,by simp;omega⟩)
   ·simp at h;omega
  ·simp at h;omega
 ·exact .some (.inr ⟨by simp,rfl,g1⟩)
theorem Zjc {M:Fn} (hS:∀a b c v x,Out (λo=>(wA o 0).length<=4096) (M [I a,I b,I c,I v,I x])) (a b c x3 x4 x5 x6 x7 x8:Int):
  Out (λo=>(wA o 0).length<=4096) (MY M (Am (Hp M)) [I a,I b,I c,I x3,I x4,I x5,I x6,I x7,I x8]):=by
 rw[SG];refine .bind (hS _ _ _ _ _) λo h=> ?_;generalize wA o 0=sp at*;refine .cond (λ_=> .some (by simp[gA,wA,bA,jA,nth,BV])) λ_=> ?_;refine .cond (λ_=> ?_) λc=>by simp at c
 refine .cond (λ_=> ?_) λc=>by simp at c;omega
 refine .bind (Q2d (by simp) h) λo g=> ?_;rw[g.1];exact .some (by show(wA o.2 0).length<=4096;omega)
theorem Qiu (a b c x3 x4 x5 x6 x7 x8:Int):Out (λo=>(wA o 0).length<=4096) (EW [I a,I b,I c,I x3,I x4,I x5,I x6,I x7,I x8]):=Zjc Zez a b c x3 x4 x5 x6 x7 x8
theorem Zxy {M:Fn} (hF:∀a b c x3 x4 x5 x6 x7 x8,Out (λo=>(wA o 0).length<=4096) (M [I a,I b,I c,I x3,I x4,I x5,I x6,I x7,I x8])) (a b c x3 x4 x5 x6 x7 x8:Int):
  (Lw M [I a,I b,I c,I x3,I x4,I x5,I x6,I x7,I x8]).isSome=true:=by
 rw[TO];obtain⟨o,h1,h2⟩:=hF a b c x3 x4 x5 x6 x7 x8;rw[h1];simp only[af];generalize wA o 0=sp at*;refine B5 (λ_=>rfl) λ_=>B5 (λ_=>rfl) λc=>B5 (λ_=>rfl) λd=> ?_;have c: ¬((sp.length:Int)=0):=by simpa using c
 rw[Ae (by omega)]at d;simp at d;omega
theorem Qsf (a b c x3 x4 x5 x6 x7 x8:Int):(DY [I a,I b,I c,I x3,I x4,I x5,I x6,I x7,I x8]).isSome=true:=Zxy Qiu a b c x3 x4 x5 x6 x7 x8
theorem Zef (l:Rw) (h:l.length<=100000):Out (λo=>(wA o 0).length<=l.length) (Qd [.view Aa l]):=by
 show Out _ (Wu (Am Qc7) [.view Aa l]);rw[Zvx];refine .bind (p:=λo=>o.1=1/\(wA o.2 0).length<=l.length) ?_ λo g=>by rw[g.1];exact .some g.2
 refine CX (λs:Rw×Nat=>[.view Aa s.1, .view Aa l,I (s.2:Int)]) (λs=>1<=s.2/\s.2<=l.length+1/\s.1.length+1<=s.2) (λs=>l.length+1-s.2) _ ?_ ([],1) (by simp);rintro⟨v,i⟩ ⟨g1,g2,g3⟩;dsimp only at*;rw[Zt0];rw[Ae (x:=(i:Int)-1) (by omega),Ae (x:=(i:Int)+1) (by omega)];refine .cond (λc=> ?_) (λc=> ?_)
 ·have c:=Bt c;refine .cond (λ_=> ?_) λc=>by simp at c;omega
  refine .cond (λ_=> ?_) λc=>by simp at c;omega
  refine .cond (λ_=> ?_) λc=>by rw[B_ (by simp;omega)]at c;cases c
  exact .some (.inl ⟨rfl,(_,i+1),rfl,by simp;omega,by simp;omega⟩)
 ·have c:=Bq c;exact .some (.inr ⟨by simp,rfl,by show v.length<=l.length;omega⟩)
theorem Z2l (l:Rw) (n:Int) (h:l.length<=100000):(PB [.view Aa l,I n]).isSome=true:=by
 show(Z6 (Am Qgh) [.view Aa l,I n]).isSome=true;rw[Zw5];refine Out.is (p:=λ_=>True) ?_;refine .bind (p:=λo=>o.1=1\/o.1=2) ?_ λo g=>by rcases g with g|g<;>rw[g]<;>exact .some trivial
 refine CX (λs:Nat=>[I n, .view Aa l,I (l.length:Int),I (s:Int)]) (λs=>s<=l.length) (λs=>l.length-s) _ ?_ 0 (by simp);intro i g;rw[Zxi];rw[Ae (x:=(i:Int)+1) (by omega)];refine .cond (λc=> ?_) (λc=> ?_)
 ·have c:=Bt c;refine .cond (λ_=> ?_) λc=>by simp at c;omega
  refine .cond (λ_=> .some (.inr ⟨by simp, .inl rfl⟩)) λ_=> .cond (λ_=> .some (.inr ⟨by simp, .inl rfl⟩)) λ_=> ?_;exact .some (.inl ⟨rfl,i+1,rfl,by omega,by omega⟩)
 ·exact .some (.inr ⟨by simp, .inr rfl⟩)
theorem Zco {MB MD:Fn} (hD:∀l:Rw,l.length<=100000->Out (λo=>(wA o 0).length<=l.length) (MD [.view Aa l])) (hB:∀(l:Rw) n,l.length<=100000->(MB [.view Aa l,I n]).isSome=true)
  (x0 x1 x2 x3 x4 x5 x6 x7 x8:Int) (x9 l:Rw) (h:l.length<=100000):(Qlc MB MD [I x0,I x1,I x2,I x3,I x4,I x5,I x6,I x7,I x8, .view Aa x9, .view Aa l]).isSome=true:=by
 rw[Z34];obtain⟨a,ha,ga⟩:=hD l h;rw[ha];simp only[af];generalize wA a 0=la at*;obtain⟨b,hb,gb⟩:=hD la (by omega);rw[hb];simp only[af];generalize wA b 0=lb at*;obtain⟨c,hc,gc⟩:=hD lb (by omega);rw[hc];simp only[af];generalize wA c 0=lc at*;refine FD (hB _ _ (by omega)) λ_ _=>B5 (λ_=>rfl) λ_=>FD (hB _ _ (by omega)) λ_ _=>B5 (λ_=>rfl) λ_=>FD (hB _ _ (by omega)) λ_ _=>B5 (λ_=>rfl) λ_=>rfl
theorem Z2d (x0 x1 x2 x3 x4 x5 x6 x7 x8:Int) (x9 l:Rw) (h:l.length<=100000):(KS [I x0,I x1,I x2,I x3,I x4,I x5,I x6,I x7,I x8, .view Aa x9, .view Aa l]).isSome=true:=Zco Zef Z2l x0 x1 x2 x3 x4 x5 x6 x7 x8 x9 l h
theorem Z5a {M:Fn} {x:Ax3} {k:Int} (hk:0<=k/\k<=2) {l out:Rw} (h0:out.length=l.length) (h1:l.length<=100000):
  Out (λo=>o.1=1/\∃v:Rw,o.2= .view Aa v:: .view kPt l::I k::I k::AI x/\v.length=l.length) (Am (Lg M) (.view Aa out:: .view kPt l::I k::I k::I (l.length:Int)::I 0::AI x)):=by
 refine CX (λs:Rw×Nat=> .view Aa s.1:: .view kPt l::I k::I k::I (l.length:Int)::I (s.2:Int)::AI x) (λs=>s.1.length=l.length/\s.2<=l.length) (λs=>l.length-s.2) _ ?_ (out,0) ⟨h0,by simp⟩;rintro⟨v,i⟩ ⟨g1,g2⟩;dsimp only at*;rw[Z1g];rw[Ae (x:=(i:Int)+1) (by omega)];refine .cond (λc=> ?_) (λc=> ?_)
 ·have c:=Bt c;refine .cond (λ_=> ?_) λc=>by simp at c;omega
  refine .cond (λ_=> ?_) λc0=> .cond (λ_=> ?_) λc1=> .cond (λ_=> ?_) λc2=> ?_
  ·refine .cond (λ_=> ?_) λc=>by simp at c;omega
   exact .some (.inl ⟨rfl,(_,i+1),rfl,by simp;omega,by simp;omega⟩)
  ·refine .cond (λ_=> ?_) λc=>by simp at c;omega
   exact .some (.inl ⟨rfl,(_,i+1),rfl,by simp;omega,by simp;omega⟩)
  ·refine .cond (λ_=> ?_) λc=>by simp at c;omega
   exact .some (.inl ⟨rfl,(_,i+1),rfl,by simp;omega,by simp;omega⟩)
  ·have c0:=Bq c0;have c1:=Bq c1;have c2:=Bq c2
   simp at c0 c1 c2;omega
 ·exact .some (.inr ⟨by simp,rfl,v,rfl,g1⟩)
theorem Zai {M:Fn} (hM:∀(x0 x1 x2 x3 x4 x5 x6 x7 x8:Int) (x9 l:Rw),l.length<=100000->(M [I x0,I x1,I x2,I x3,I x4,I x5,I x6,I x7,I x8, .view Aa x9, .view Aa l]).isSome=true) (x:Ax3) {l:Rw} (h1:l.length<=100000):
  (RZ M (Am (Lg M)) (Am (TL M (Am (Lg M)))) (AI x++[.view kPt l])).isSome=true:=by
 show(RZ M (Am (Lg M)) (Am (TL M (Am (Lg M)))) [I x.a.step,I x.a.speed,I x.a.accel,I x.a.jerk,I x.a.low,I x.a.high,I x.a.back,I x.a.origin,I x.a.spacing, .view Aa (x.a.pitch.map Aq),I x.b.step,I x.b.speed,I x.b.accel,I x.b.jerk,I x.b.low,I x.b.high,I x.b.back,I x.b.origin,I x.b.spacing, .view Aa (x.b.pitch.map Aq),I x.c.step,I x.c.speed,I x.c.accel,I x.c.jerk,I x.c.low,I x.c.high,I x.c.back,I x.c.origin,I x.c.spacing, .view Aa (x.c.pitch.map Aq), .view kPt l]).isSome=true;rw[Z1n];refine Out.is (p:=λ_=>True) ?_;refine .bind (p:=λo=>o.1=1\/o.1=2) ?_ λo g=>by rcases g with g|g<;>rw[g]<;>exact .some trivial
 refine CX (λs:Nat=> .view kPt l::I (s:Int)::AI x) (λs=>s<=3) (λs=>3-s) _ ?_ 0 (by omega);intro k hk;rw[Zqj];refine .cond (λc=> ?_) (λc=> ?_)
 ·have c:=Bt c;refine .cond (λ_=> ?_) λc=>by simp at c
  refine .cond (λ_=> ?_) λc=>by simp at c;omega
  refine .bind (Z5a (M:=M) (x:=x) (k:=(k:Int)) (by omega) (by simp) h1) λo g=> ?_;obtain⟨g1,v,g2,g3⟩:=g;obtain⟨o1,o2⟩:=o;subst g1;subst g2;refine .cond (λ_=> ?_) λc=>by simp at c
  have e:wrap .i64 ((k:Int)+1)=((k+1:Nat):Int):=by rw[Ae (by omega)];rfl
  have hw:∀(x0 x1 x2 x3 x4 x5 x6 x7 x8:Int) (x9:Rw),(M [I x0,I x1,I x2,I x3,I x4,I x5,I x6,I x7,I x8, .view Aa x9, .view Aa v]).isSome=true:=λx0 x1 x2 x3 x4 x5 x6 x7 x8 x9=>hM x0 x1 x2 x3 x4 x5 x6 x7 x8 x9 v (by omega);refine .cond (λ_=> ?_) λc0=> .cond (λ_=> ?_) λc1=> .cond (λ_=> ?_) λc2=> ?_
  ·refine .ibind (hw _ _ _ _ _ _ _ _ _ _) λ_ _=> .cond (λ_=> .some (.inr ⟨by simp, .inl rfl⟩)) λ_=> .some (.inl ⟨rfl,k+1,?_,by omega,by omega⟩);simp only[gA,wA,bA,jA,nth,Ag,BV,e]
  ·refine .ibind (hw _ _ _ _ _ _ _ _ _ _) λ_ _=> .cond (λ_=> .some (.inr ⟨by simp, .inl rfl⟩)) λ_=> .some (.inl ⟨rfl,k+1,?_,by omega,by omega⟩);simp only[gA,wA,bA,jA,nth,Ag,BV,e]
  ·refine .ibind (hw _ _ _ _ _ _ _ _ _ _) λ_ _=> .cond (λ_=> .some (.inr ⟨by simp, .inl rfl⟩)) λ_=> .some (.inl ⟨rfl,k+1,?_,by omega,by omega⟩);simp only[gA,wA,bA,jA,nth,Ag,BV,e]
  ·have c0:=Bq c0;have c1:=Bq c1;have c2:=Bq c2
   simp[gA,wA,bA,jA,nth,Ag]at c0 c1 c2;omega
 ·exact .some (.inr ⟨by simp, .inr rfl⟩)
theorem Ziq (x:Ax3) {l:Rw} (h1:l.length<=100000):(OD (AI x++[.view kPt l])).isSome=true:=Zai Z2d x h1
theorem Qsj (u:Int):(IL [I u]).isSome=true:=by
 show(Qey [I u]).isSome=true;rw[Zc9];exact B5 (λ_=>rfl) λ_=>rfl
structure Fix (p : Pth) (x : Ax3) (t : Trk) : Prop where
 p:GoodPath p
 x:Ax3M x
 t:TH t
theorem W3 {p:Pth} {x:Ax3} {t:Trk} (h:Fix p x t) (u:Int):FG (pxt p x t [I u])=some (ptR (JE p x t u)):=Zr4 h.p h.x h.t u
theorem Z44 {MA MM MU:Fn} {p:Pth} {x:Ax3} {t:Trk} (hA:∀{l:Rw},l.length<=100000->(MA (AI x++[.view kPt l])).isSome=true) (hM:∀u,(MM (pxt p x t [I u])).isSome=true) (hU:∀u,(MU [I u]).isSome=true) {way:Rw} (hw:way.length<=100000):
  (Xu MA MM MU (Am (UH MA MM MU)) (pxt p x t [.view Aa way])).isSome=true:=by
 rw[Zla];refine Out.is (p:=λ_=>True) ?_;refine .bind (p:=λo=>o.1=1\/o.1=2) ?_ λo g=>by rcases g with g|g<;>rw[g]<;>exact .some trivial
 refine CX (λs:Rw×Nat=> .view kPt s.1:: .view Aa way::I (way.length:Int)::I (s.2:Int)::pxt p x t []) (λs=>s.1.length<=4/\s.2<=way.length) (λs=>way.length-s.2) _ ?_ ([],0) (by simp);rintro⟨v,i⟩ ⟨g1,g2⟩;dsimp only at g1 g2;rw[Zbn];try dsimp only[g_s_planner_smooth_3_1]
 rw[Ae (x:=(i:Int)+1) (by omega)];refine .cond (λc=> ?_) (λc=> ?_)
 ·have c:=Bt c;refine .cond (λ_=> ?_) λc=>by simp at c;omega
  refine .ibind (hU _) λa _=> .ibind (hM _) λb _=> ?_;refine .cond (λ_=> ?_) λc=>by rw[B_ (by simp;omega)]at c;cases c
  generalize [jA b 0,jA b 1,jA b 2]=q;refine .cond (λ_=> ?_) λc4=> ?_
  ·refine .cond (λ_=> ?_) λc=>by simp at c;omega
   refine .cond (λ_=> ?_) λc=>by rw[B_ (by simp)]at c;cases c
   refine .ibind (hA (l:=List.drop (Int.toNat 1) (v++[q])) (by simp;omega)) λ_ _=> .cond (λ_=> .some (.inr ⟨by simp, .inl rfl⟩)) λ_=> ?_;exact .some (.inl ⟨rfl,(_,i+1),rfl,by simp;omega,by simp;omega⟩)
  ·have c4:=Bq c4;simp at c4;refine .ibind (hA (l:=v++[q]) (by simp;omega)) λ_ _=> .cond (λ_=> .some (.inr ⟨by simp, .inl rfl⟩)) λ_=> ?_;exact .some (.inl ⟨rfl,(_,i+1),rfl,by simp;omega,by simp;omega⟩)
 ·exact .some (.inr ⟨by simp, .inr rfl⟩)
theorem Qqu {p:Pth} {x:Ax3} {t:Trk} (h:Fix p x t) {way:Rw} (hw:way.length<=100000):(NV (pxt p x t [.view Aa way])).isSome=true:=
 Z44 (Ziq x) (λu=>by rw[W3 h u];rfl) Qsj hw
theorem Zcc (x0 x1:Int) (b0 b1 b2:Bool) (x5 x6 x7 x8 x9 x10 x11 x12 x13 x14:Int):(PZ [I x0,I x1,B b0,B b1,B b2,I x5,I x6,I x7,I x8,I x9,I x10,I x11,I x12,I x13,I x14]).isSome=true:=by
 show(Qia [I x0,I x1,B b0,B b1,B b2,I x5,I x6,I x7,I x8,I x9,I x10,I x11,I x12,I x13,I x14]).isSome=true;rw[Zcp]
 repeat' first|exact rfl|refine B5 (λ_=> ?_) (λ_=> ?_)
theorem Vy {p:Pth} {x:Ax3} {t:Trk} (h:Fix p x t) (u:Int):i64 (AK t u):=by
 have:=Q3g h.t.q u;unfold i64;omega
theorem UX:∀(l:List Sgm) (s:Int),l≠[]->(Bl l s).1<l.length
 |[],_,h=>absurd rfl h
 |[g],s,_=>by unfold Bl;split<;>simp
 |g::h::l,s,_=>by
  by_cases c:s<g.len
  ·rw[Bl,aa c];simp
  ·rw[Qvb c];have:=UX (h::l) (s-g.len) (by simp);simp at this⊢;omega
theorem Zar {p:Pth} {x:Ax3} {t:Trk} (h:Fix p x t) {s:Int} (hs:i64 s):∃i v:Int,EV (Bn p++[I s])=some [I i,I v]/\(i= -1\/0<=i/\i<p.aE.length)/\(p.aE≠[]->0<=i):=by
 rw[Qcj (h.p.ok) hs];by_cases c:p.aE=[]
 ·rw[aa c];exact⟨-1,0,rfl, .inl rfl,λh=>absurd c h⟩
 ·rw[ab c];have:=UX p.aE (max s 0) c;exact⟨_,_,rfl, .inr ⟨by omega,by omega⟩,λ_=>by omega⟩
theorem Zbz {MO MF MP MU:Fn} {p:Pth} {t:Trk} (hO:∀(x0 x1:Int) (b0 b1 b2:Bool) (x5 x6 x7 x8 x9 x10 x11 x12 x13 x14:Int),(MO [I x0,I x1,B b0,B b1,B b2,I x5,I x6,I x7,I x8,I x9,I x10,I x11,I x12,I x13,I x14]).isSome=true)
  (hF:∀s,i64 s->∃i v:Int,MF (Bn p++[I s])=some [I i,I v]/\(i= -1\/0<=i/\i<p.aE.length)/\(p.aE≠[]->0<=i)) (hP:∀u,∃s,MP (A_ t++[I u])=some [I s]/\i64 s) (hU:∀u,(MU [I u]).isSome=true) (hne:p.aE≠[])
  (a b c o0 o1:Int) (b0 b1 b2:Bool) (u:Int):
  (Qb2 MO MF MP MU (Fg p t [I a,I b,I c,I o0,I o1,B b0,B b1,B b2,I u])).isSome=true:=by
 rw[Z4n];refine FD (hU _) λq _=> ?_;obtain⟨s,h1,h2⟩:=hP (gA q 0);rw[h1];simp only[af];obtain⟨i,v,g1,g2,g3⟩:=hF s h2;simp only[gA,wA,bA,jA,nth,Ag];rw[g1];simp only[af,gA,wA,bA,jA,nth,Ag];have g3:=g3 hne;refine B5 (λ_=>FD (hO _ _ _ _ _ _ _ _ _ _ _ _ _ _ _) λ_ _=>rfl) λc=> ?_;simp at c;have:=c (an g3);omega
theorem Zb7 {p:Pth} {x:Ax3} {t:Trk} (h:Fix p x t) (hne:p.aE≠[]) (a b c o0 o1:Int) (b0 b1 b2:Bool) (u:Int):
  (Ni (Fg p t [I a,I b,I c,I o0,I o1,B b0,B b1,B b2,I u])).isSome=true:=
 Zbz Zcc (λ_ hs=>Zar h hs) (λu=>⟨_,OH h.t.q u,Vy h u⟩) Qsj hne a b c o0 o1 b0 b1 b2 u
theorem Zdv {MT MF:Fn} {p:Pth} {t:Trk} {a b c o0 o1:Int} {b0 b1 b2:Bool} (hT:p.aE≠[]->∀u,(MT (Fg p t [I a,I b,I c,I o0,I o1,B b0,B b1,B b2,I u])).isSome=true)
  (hF:∀a b c x3 x4 x5 x6 x7 x8,Out (λo=>(wA o 0).length<=4096) (MF [I a,I b,I c,I x3,I x4,I x5,I x6,I x7,I x8])) (m0 m1 m2 m3 m4 m5:Int):
  (Qi0 MT MF (Am (Qf8 MT MF)) (Fg p t [I a,I b,I c,I o0,I o1,B b0,B b1,B b2,I m0,I m1,I m2,I m3,I m4,I m5])).isSome=true:=by
 rw[Z16];obtain⟨o,h1,h2⟩:=hF a b c m0 m1 m2 m3 m4 m5;rw[h1];simp only[af];generalize wA o 0=sp at*;refine B5 (λ_=>rfl) λ_=>B5 (λ_=>rfl) λc0=> ?_;have hne:p.aE≠[]:=by
  intro e;rw[e]at c0;simp at c0
 have hT:=hT hne;refine FD (hT _) λ_ _=>B5 (λ_=>rfl) λ_=> ?_;refine Out.is (p:=λ_=>True) ?_;refine .bind (p:=λo=>o.1=1\/o.1=2) ?_ λo g=>by rcases g with g|g<;>rw[g]<;>exact .some trivial
 refine CX (λs:Int×Nat=>I s.1:: .view Aa sp::I (sp.length:Int)::I (s.2:Int)::Fg p t [I a,I b,I c,I o0,I o1,B b0,B b1,B b2]) (λs=>s.2<=sp.length) (λs=>sp.length-s.2) _ ?_ (m0,0) (by simp);rintro⟨v,i⟩ g;dsimp only at g;rw[Zr0];rw[Ae (x:=(i:Int)+1) (by omega)];refine .cond (λc=> ?_) (λc=> ?_)
 ·have c:=Bt c;refine .cond (λ_=> ?_) λc=>by simp at c;omega
  refine .ibind (hT _) λ_ _=> .cond (λ_=> .some (.inr ⟨by simp, .inl rfl⟩)) λ_=> ?_;exact .some (.inl ⟨rfl,(_,i+1),rfl,by dsimp only;omega,by dsimp only;omega⟩)
 ·exact .some (.inr ⟨by simp, .inr rfl⟩)
theorem Z1f {p:Pth} {x:Ax3} {t:Trk} (h:Fix p x t) (a b c o0 o1:Int) (b0 b1 b2:Bool) (m0 m1 m2 m3 m4 m5:Int):
  (LV (Fg p t [I a,I b,I c,I o0,I o1,B b0,B b1,B b2,I m0,I m1,I m2,I m3,I m4,I m5])).isSome=true:=
 Zdv (λhne u=>Zb7 h hne a b c o0 o1 b0 b1 b2 u) Qiu m0 m1 m2 m3 m4 m5
end Go.Bm
