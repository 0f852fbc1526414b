/- laid together -/
import Derived.Test.YtommijghjlikkaaGreatPrCw
import Derived.Test.YtommijghjlikkaaGreatPrAtF
import Derived.Test.YtommijghjlikkaaGreatMx2
set_option linter.unusedVariables false
set_option linter.unusedSimpArgs false
/- the program's corners are the reference's -/
set_option maxRecDepth 100000
namespace Go.Bm

theorem Zc2 {MO:Fn} {c a:Pt} {d:Int} (hc:bd B24 c) (ha:bd B24 a) (hne:a≠c) (hd:0<=d/\d<=33554432)
  (hN:∀{x:Int},x.natAbs<=33554432*4->x*x<=sqD a c->MO [I x,I d,I (sqD a c),I 2]=some [I (BN x d (sqD a c)),B true]/\(BN x d (sqD a c)).natAbs<=268435456):
  Qiy MO [I c.x,I c.y,I c.z,I a.x,I a.y,I a.z,I d]=some (ptR (BC c a d)++[B true]):=by
 obtain⟨q1,q2,q3⟩:=Qza a c
 have x1:=HW ha.1 hc.1
 have x2:=HW ha.2.1 hc.2.1
 have x3:=HW ha.2.2 hc.2.2
 obtain⟨n1,b1⟩:=hN (x:=a.x-c.x) (Nat.le_trans x1 (by decide)) q1
 obtain⟨n2,b2⟩:=hN (x:=a.y-c.y) (Nat.le_trans x2 (by decide)) q2
 obtain⟨n3,b3⟩:=hN (x:=a.z-c.z) (Nat.le_trans x3 (by decide)) q3
 have h6: ¬d<0:=Int.not_lt.2 hd.1
 have h7: ¬d>33554432:=Int.not_lt.2 hd.2
 rw[Zr4,Qx5 (AU ha (by decide)) (AU hc (by decide)),Hw x1 (by decide),Hw x2 (by decide),Hw x3 (by decide)]
 simp only[go_sem,n1,n2,n3]
 rw[if_neg (fun h=>hne (Dz.2 ⟨h.1,h.2.1,h.2.2.1⟩)),if_neg h6,if_neg h7]
 rw[Hw (RC hc.1 b1) (by decide),Hw (RC hc.2.1 b2) (by decide),Hw (RC hc.2.2 b3) (by decide)]
 rfl
theorem Qj8 {c a:Pt} {d:Int} (hc:bd B24 c) (ha:bd B24 a) (hne:a≠c) (hd:0<=d/\d<=33554432):
  Gj [I c.x,I c.y,I c.z,I a.x,I a.y,I a.z,I d]=some (ptR (BC c a d)++[B true]):=by
 have h0:sqD a c≠0:=fun h=>hne (Qay.1 h)
 have h1:=PK a c
 have h2:=Ok (AU ha (by decide)) (AU hc (by decide)) (show 67108864<=67108864 by omega)
 refine Zc2 hc ha hne hd fun{x} hx hq=> ?_
 obtain⟨-,g2,-⟩:=QU hx (r:=d) (by omega) (n:=sqD a c) (by omega) hq
 exact⟨Y4 (Nat.le_trans hx (by decide)) (by omega) (by omega),g2⟩
theorem Qqn {p c q:Pt} (hp:bd B24 p) (hc:bd B24 c) (hq:bd B24 q):F3 [I p.x,I p.y,I p.z,I c.x,I c.y,I c.z,I q.x,I q.y,I q.z]=some [I (Hf p c q)]:=by
 have hb:=Zvz hp hc hq
 have g1:=Dk hb.1
 have g2:=Dk hb.2.1
 have g3:=Dk hb.2.2
 unfold F3
 unfold bd B24 at hp hc hq
 have w:∀u v c:Int,u.natAbs<=16777216->v.natAbs<=16777216->c.natAbs<=16777216->IntKind.i64.wrap (IntKind.i64.wrap (u+v)-IntKind.i64.wrap (2*c))=u-c+(v-c):=by
  intro u v c h1 h2 h3
  rw[Ae (x:=u+v) (by omega),Ae (x:=2*c) (by omega),Ae (by omega)]
  omega
 rw[Zas,w _ _ _ hp.1 hq.1 hc.1,w _ _ _ hp.2.1 hq.2.1 hc.2.1,w _ _ _ hp.2.2 hq.2.2 hc.2.2]
 have e1:p.x-c.x+(q.x-c.x)=(FN p c q).x:=rfl
 have e2:p.y-c.y+(q.y-c.y)=(FN p c q).y:=rfl
 have e3:p.z-c.z+(q.z-c.z)=(FN p c q).z:=rfl
 rw[e1,e2,e3]
 unfold Hf Iw
 generalize(FN p c q).x*(FN p c q).x=u at*
 generalize(FN p c q).y*(FN p c q).y=v at*
 generalize(FN p c q).z*(FN p c q).z=w at*
 rw[Ae (x:=u) (by omega),Ae (x:=0+u) (by omega),Ae (x:=v) (by omega),Ae (x:=0+u+v) (by omega),Ae (x:=w) (by omega),Ae (by omega),Int.zero_add]

open Classical in
theorem Ztv {MB MT ML:Fn} {a c b:Pt} {tol d e bit:Int} (ha:bd B24 a) (hc:bd B24 c) (hb:bd B24 b) (hac:a≠c) (hbc:b≠c) (ht:0<=tol/\tol<=16000) (hd:0<=d/\d+e<=33554432) (he:0<e) (hbit:e.fdiv (2^min (Int.toNat 1) IntKind.i64.bits)=bit)
  (l3:0<=AA a c/\AA a c<=268435456) (l4:0<=AA c b/\AA c b<=268435456)
  (hT:∀{a:Pt} {d:Int},bd B24 a->a≠c->0<=d/\d<=33554432->MT [I c.x,I c.y,I c.z,I a.x,I a.y,I a.z,I d]=some (ptR (BC c a d)++[B true]))
  (hB:∀{p q:Pt},bd B24 p->bd B24 q->MB [I p.x,I p.y,I p.z,I c.x,I c.y,I c.z,I q.x,I q.y,I q.z]=some [I (Hf p c q)]):
  LQ MB MT ML [I tol,I (mn (AA a c) (AA c b)-2),I d,I e,I a.x,I a.y,I a.z,I c.x,I c.y,I c.z,I b.x,I b.y,I b.z]=
   some (0,[I tol,I (mn (AA a c) (AA c b)-2),I (if Gp a c b tol (d+e)then d+e else d),I bit,I a.x,I a.y,I a.z,I c.x,I c.y,I c.z,I b.x,I b.y,I b.z]):=by
 obtain⟨m1,m2⟩:=S6 (AA a c) (AA c b)
 have ht2:0<=16*tol*tol/\16*tol*tol<=4096000000:=by
  have:=Int.mul_le_mul (show 16*tol<=256000 by omega) ht.2 ht.1 (by omega)
  exact⟨Int.mul_nonneg (by omega) ht.1,by omega⟩
 rw[Q0y,hbit,Ae (x:=d+e) (by omega),Du he,Ae (x:=16*tol) (by omega),Ae (x:=16*tol*tol) (by omega)]
 by_cases h:d+e>mn (AA a c) (AA c b)-2
 ·rw[Du h,if_neg (fun h3:Gp a c b tol (d+e)=>by have:=h3.1;omega)]
 ·rw[AW h]
  have k1:bd B24 (BC c a (d+e)):=Jc hc ha hac (by omega)
  have k2:bd B24 (BC c b (d+e)):=Jc hc hb hbc (by rw[S0 b c];omega)
  have t1:=hT (d:=d+e) ha hac (by omega)
  have t2:=hT (d:=d+e) hb hbc (by omega)
  simp only[List.cons_append,List.nil_append,ptR]at t1 t2
  simp only[t1,t2,go_sem,hB k1 k2]
  by_cases h2:Hf (BC c a (d+e)) c (BC c b (d+e))<=16*tol*tol
  ·rw[if_pos h2,if_pos (show Gp a c b tol (d+e)from⟨by omega,h2⟩)]
  ·rw[if_neg h2,if_neg (fun h3:Gp a c b tol (d+e)=>h2 h3.2)]
open Classical in
theorem Qwr {MB MT ML:Fn} {a c b:Pt} {tol m:Int}
  (hst : ∀ {d e bit : Int}, 0 <= d /\ d + e <= 33554432 -> 0 < e -> e.fdiv (2 ^ min (Int.toNat 1) IntKind.i64.bits) = bit -> LQ MB MT ML [I tol, I m, I d, I e, I a.x, I a.y, I a.z, I c.x, I c.y, I c.z, I b.x, I b.y, I b.z] =
   some (0,[I tol,I m,I (if Gp a c b tol (d+e)then d+e else d),I bit,I a.x,I a.y,I a.z,I c.x,I c.y,I c.z,I b.x,I b.y,I b.z])):
  ∀(k:Nat) (d:Int),0<=d/\d+((2^(k+1):Nat):Int)<=33554432->
  An (LQ MB MT ML) [I tol,I m,I d,I ((2^k:Nat):Int),I a.x,I a.y,I a.z,I c.x,I c.y,I c.z,I b.x,I b.y,I b.z]=some (1,[I (Fu (Gp a c b tol) k d)])
 |0,d,hd=>by
  simp only[Nat.zero_add,Nat.pow_one]at hd
  have hend:∀d:Int,An (LQ MB MT ML) [I tol,I m,I d,I 0,I a.x,I a.y,I a.z,I c.x,I c.y,I c.z,I b.x,I b.y,I b.z]=some (1,[I d]):=by
   intro d
   refine A7 ?_ (by simp)
   rw[Q0y]
   rw[AW (by omega)]
  have hs:=hst (d:=d) (e:=1) (by omega) (by omega) Zbp
  have e:((2^0:Nat):Int)=1:=rfl
  rw[e,Bt hs,hend]
  rfl
 |k+1,d,hd=>by
  have hp:0<2^(k+1):=Nat.two_pow_pos _
  have e3:2^(k+1+1)=2^(k+1)+2^(k+1):=by rw[Nat.pow_succ 2 (k+1)];omega
  rw[e3]at hd
  have hs:=hst (d:=d) (e:=((2^(k+1):Nat):Int)) (by omega) (by omega) (Zd0 k)
  rw[Bt hs]
  unfold Fu
  refine Qwr hst k _ ?_
  split<;>omega
theorem Zof {ML:Fn} {N:Lp} {MB MT:Fn} {a c b:Pt} {tol:Int}
  (l1:ML [I a.x,I a.y,I a.z,I c.x,I c.y,I c.z]=some [I (AA a c)]) (l2:ML [I c.x,I c.y,I c.z,I b.x,I b.y,I b.z]=some [I (AA c b)])
  (l3:0<=AA a c/\AA a c<=268435456) (l4:0<=AA c b/\AA c b<=268435456)
  (hN:a≠c->b≠c->N [I tol,I (mn (AA a c) (AA c b)-2),I 0,I 16777216,I a.x,I a.y,I a.z,I c.x,I c.y,I c.z,I b.x,I b.y,I b.z]=some (1,[I (Fu (Gp a c b tol) 24 0)])):
  Th MB MT ML N [I a.x,I a.y,I a.z,I c.x,I c.y,I c.z,I b.x,I b.y,I b.z,I tol]=some [I (C2 a c b tol)]:=by
 rw[Zak]
 have m3:0<=mn (AA a c) (AA c b)/\mn (AA a c) (AA c b)<=268435456:=by unfold mn;split<;>omega
 unfold C2
 by_cases h1:a=c
 ·rw[if_pos (.inl h1)]
  have h2:=Dz.1 h1
  simp only[go_sem]
  rw[if_pos ⟨h2.1,h2.2.1,h2.2.2,trivial⟩]
 ·by_cases h2:b=c
  ·rw[if_pos (.inr h2)]
   have h3:=Dz.1 h2
   simp only[go_sem]
   rw[if_neg (fun h=>h1 (Dz.2 ⟨h.1,h.2.1,h.2.2.1⟩)),if_pos ⟨h3.1,h3.2.1,h3.2.2,trivial⟩]
  ·have hl':=hN h1 h2
   simp only[go_sem,l1,l2]
   rw[Ae (by omega)]
   simp only[hl',go_sem]
   rw[if_neg (fun h=>h1 (Dz.2 ⟨h.1,h.2.1,h.2.2.1⟩)),if_neg (fun h=>h2 (Dz.2 ⟨h.1,h.2.1,h.2.2.1⟩)),if_neg (show¬(a=c\/b=c)from fun h=>h.elim h1 h2)]
   by_cases h3:Fu (Gp a c b tol) 24 0<16
   ·rw[if_pos h3,if_pos h3]
   ·rw[if_neg h3,if_neg h3]
theorem Zud {a c b:Pt} {tol:Int} (ha:bd B24 a) (hc:bd B24 c) (hb:bd B24 b) (ht:0<=tol/\tol<=16000):
  Kt [I a.x,I a.y,I a.z,I c.x,I c.y,I c.z,I b.x,I b.y,I b.z,I tol]=some [I (C2 a c b tol)]:=by
 have A:=AU ha (show B24<=67108864 by decide)
 have C:=AU hc (show B24<=67108864 by decide)
 have D:=AU hb (show B24<=67108864 by decide)
 exact Zof (Qmj A C) (Qmj C D) (HA A C) (HA C D)
  fun h1 h2=>Qwr (fun hd he hbit=>Ztv ha hc hb h1 h2 ht hd he hbit (HA A C) (HA C D) (fun hb hn hd=>Qj8 hc hb hn hd) fun hp hq=>Qqn hp hc hq) 24 0 (by decide)

theorem Zjw {M:Fn} {p c q:Pt} (hM:M [I p.x,I p.y,I p.z,I c.x,I c.y,I c.z,I q.x,I q.y,I q.z]=some [I (Hf p c q)]):
  ∀(k:Nat) (n:Int),Jw n->64<=n*2^k->An (OM M) [I n,I p.x,I p.y,I p.z,I c.x,I c.y,I c.z,I q.x,I q.y,I q.z]=some (1,[I (KH (Hf p c q) k n)]):=by
 have hst:∀n:Int,Jw n->OM M [I n,I p.x,I p.y,I p.z,I c.x,I c.y,I c.z,I q.x,I q.y,I q.z]=if n<64/\Hf p c q>16*n*n*n*n*4*4 then some (0,[I (n*2),I p.x,I p.y,I p.z,I c.x,I c.y,I c.z,I q.x,I q.y,I q.z])else some (1,[I n]):=by
  intro n hn
  rw[Zuu]
  simp only[go_sem,hM]
  have hw:IntKind.i64.wrap (IntKind.i64.wrap (IntKind.i64.wrap (IntKind.i64.wrap (IntKind.i64.wrap (IntKind.i64.wrap (16*n)*n)*n)*n)*4)*4)=16*n*n*n*n*4*4/\IntKind.i64.wrap (n*2)=n*2:=by
   rcases hn with rfl|rfl|rfl|rfl|rfl|rfl<;>decide
  rw[hw.1,hw.2]
  by_cases h1:n<64
  ·rw[if_pos h1]
   by_cases h2:Hf p c q>16*n*n*n*n*4*4
   ·rw[if_pos h2,if_pos ⟨h1,h2⟩]
   ·rw[if_neg h2,if_neg (fun h=>h2 h.2)]
  ·rw[if_neg h1,if_neg (fun h=>h1 h.1)]
 intro k
 induction k with
 |zero=>
  intro n hn h64
  have:n=64:=by rcases hn with rfl|rfl|rfl|rfl|rfl|rfl<;>simp at h64⊢
  subst this
  refine A7 ?_ (by simp)
  rw[hst _ hn,if_neg (by omega)];rfl
 |succ k ih=>
  intro n hn h64
  unfold KH
  by_cases h:n<64/\Hf p c q>16*n*n*n*n*4*4
  ·rw[if_pos h]
   have hs:=hst n hn
   rw[if_pos h]at hs
   rw[Bt hs]
   refine ih (n*2) ?_ ?_
   ·rcases hn with rfl|rfl|rfl|rfl|rfl|rfl<;>simp[Jw]at h⊢
   ·rw[Int.pow_succ]at h64
    rw[Int.mul_assoc,Int.mul_comm 2];exact h64
  ·rw[if_neg h]
   refine A7 ?_ (by simp)
   rw[hst _ hn,if_neg h]
theorem Zlw {p c q:Pt} (hp:bd B24 p) (hc:bd B24 c) (hq:bd B24 q):JI [I p.x,I p.y,I p.z,I c.x,I c.y,I c.z,I q.x,I q.y,I q.z]=some [I (Ks p c q)]:=by
 have h1:=Zjw (Qqn hp hc hq) 5 2 (.inl rfl) (by decide)
 show Qdv _ (An (OM _)) _=_
 generalize F3=M at*
 rw[Zdv]
 simp only[go_sem,h1]
 rfl

theorem Qqv {α:Type} (d x:α):∀(l:List α) (i:Nat),i<l.length->nth d (l.set i x) i=x
 |a::l,0,_=>rfl
 |a::l,i+1,h=>by simp only[List.set_cons_succ,nth];exact Qqv d x l i (by simpa using h)
theorem Q9q {n i p c q:Int} (hn:2<=n/\n<=64) (hi:0<=i/\i<=n) (hp:p.natAbs<=B24) (hc:c.natAbs<=B24) (hq:q.natAbs<=B24):
  Be [I (IntKind.i64.wrap (IntKind.i64.wrap (IntKind.i64.wrap (IntKind.i64.wrap (n-i)*IntKind.i64.wrap (n-i))*IntKind.i64.wrap (p-c))+IntKind.i64.wrap (IntKind.i64.wrap (i*i)*IntKind.i64.wrap (q-c)))),I 1,I (IntKind.i64.wrap (n*n)),I 2]=some [I (Bb ((n-i)*(n-i)*(p-c)+i*i*(q-c)) (n*n)),B true]:=by
 have n1:0<n*n/\n*n<=4096:=⟨Int.mul_pos (by omega) (by omega),by have:=Int.mul_le_mul hn.2 hn.2 (by omega) (by omega);omega⟩
 have n2:0<=(n-i)*(n-i)/\(n-i)*(n-i)<=4096:=⟨Fk _,by have:=Int.mul_le_mul (show n-i<=64 by omega) (show n-i<=64 by omega) (by omega) (by omega);omega⟩
 have n3:0<=i*i/\i*i<=4096:=⟨Fk _,by have:=Int.mul_le_mul (show i<=64 by omega) (show i<=64 by omega) (by omega) (by omega);omega⟩
 unfold B24 at*
 rw[Ae (x:=n-i) (by omega),Ae (x:=(n-i)*(n-i)) (by omega),Ae (x:=p-c) (by omega),Ae (x:=i*i) (by omega),Ae (x:=q-c) (by omega),Ae (x:=n*n) (by omega)]
 have m1:=GV (x:=(n-i)*(n-i)) (y:=p-c) (A:=4096) (B:=33554432) (by omega) (by omega)
 have m2:=GV (x:=i*i) (y:=q-c) (A:=4096) (B:=33554432) (by omega) (by omega)
 generalize(n-i)*(n-i)*(p-c)=u at*
 generalize i*i*(q-c)=v at*
 rw[Ae (x:=u) (by omega),Ae (x:=v) (by omega),Ae (by omega)]
 have h:=Q2 (a:=u+v) (b:=1) (c:=n*n) (by unfold i64;omega) (by unfold i64;omega) (by omega) (by rw[show(1:Int).natAbs=1 from rfl,Nat.mul_one];omega)
 rw[Int.mul_one]at h
 exact h
theorem Qu5 {MR MP MT MC:Fn} {p c q:Pt} {N:Nat} (hN:2<=N/\N<=64) (hp:bd B24 p) (hc:bd B24 c) (hq:bd B24 q)
  (hR:∀{i p c q:Int},(0<=i/\i<=N)->p.natAbs<=B24->c.natAbs<=B24->q.natAbs<=B24->MR [I (IntKind.i64.wrap (IntKind.i64.wrap (IntKind.i64.wrap (IntKind.i64.wrap ((N:Int)-i)*IntKind.i64.wrap ((N:Int)-i))*IntKind.i64.wrap (p-c))+IntKind.i64.wrap (IntKind.i64.wrap (i*i)*IntKind.i64.wrap (q-c)))),I 1,I (IntKind.i64.wrap ((N:Int)*(N:Int))),I 2]=some [I (Bb (((N:Int)-i)*((N:Int)-i)*(p-c)+i*i*(q-c)) ((N:Int)*(N:Int))),B true])
  {f:Nat->List AC} (hf:∀i:Nat,f i=ptR (L_ N i p c q)):
  ∀(k i:Nat),i+k=N+1->An (L3 MR MP MT MC) [.view kPt (DN f [I 0,I 0,I 0] (N+1) i),I N,I (N+1:Nat),I i,I c.x,I c.y,I c.z,I p.x,I p.y,I p.z,I q.x,I q.y,I q.z]=
   some (1,[.view kPt ((List.range (N+1)).map f)])
 |0,i,hi=>by
  obtain rfl:i=N+1:=by omega
  refine A7 ?_ (by simp)
  rw[Qrt,Qt9,AW (by omega)]
 |k+1,i,hi=>by
  have b1:=LP (n:=N) (i:=i) (A:=B24) (by omega) (by omega) hp.1 hc.1 hq.1
  have b2:=LP (n:=N) (i:=i) (A:=B24) (by omega) (by omega) hp.2.1 hc.2.1 hq.2.1
  have b3:=LP (n:=N) (i:=i) (A:=B24) (by omega) (by omega) hp.2.2 hc.2.2 hq.2.2
  have r1:=hR (i:=i) (by omega) hp.1 hc.1 hq.1
  have r2:=hR (i:=i) (by omega) hp.2.1 hc.2.1 hq.2.1
  have r3:=hR (i:=i) (by omega) hp.2.2 hc.2.2 hq.2.2
  have hs:L3 MR MP MT MC [.view kPt (DN f [I 0,I 0,I 0] (N+1) i),I N,I (N+1:Nat),I i,I c.x,I c.y,I c.z,I p.x,I p.y,I p.z,I q.x,I q.y,I q.z]=
    some (0,[.view kPt (DN f [I 0,I 0,I 0] (N+1) (i+1)),I N,I (N+1:Nat),I (i+1:Nat),I c.x,I c.y,I c.z,I p.x,I p.y,I p.z,I q.x,I q.y,I q.z]):=by
   have hlen:=Quo f [I 0,I 0,I 0] (show i<=N+1 by omega)
   have hset:=Qv8 f [I 0,I 0,I 0] (show i<N+1 by omega)
   rw[hf i]at hset
   generalize DN f [I 0,I 0,I 0] (N+1) i=l at*
   have hself:∀x:List AC,nth [] (l.set i x) i=x:=fun x=>Qqv _ _ _ _ (by omega)
   rw[Qrt]
   have hin:(0:Int)<=(i:Int)/\(i:Int)<((N+1:Nat):Int):=by omega
   simp only[go_sem,r1,r2,r3,Int.toNat_natCast,hlen,if_pos hin,List.set_set,hself,List.length_set]
   rw[if_pos (by omega)]
   unfold Na B24 at b1 b2 b3
   rw[Ae (x:=c.x+_) (by omega),Ae (x:=c.y+_) (by omega),Ae (x:=c.z+_) (by omega),Ae (x:=(i:Int)+1) (by omega)]
   rw[<-hset]
   rfl
  rw[Bt hs]
  exact Qu5 hN hp hc hq hR hf k (i+1) (by omega)
theorem Zlv {a c b:Pt} {tol:Int} (ha:bd B24 a) (hc:bd B24 c) (hb:bd B24 b) (ht:0<=tol/\tol<=16000):
  PL [I a.x,I a.y,I a.z,I c.x,I c.y,I c.z,I b.x,I b.y,I b.z,I tol]=some [.view kPt ((FH a c b tol).map ptR)]:=by
 show WN _ _ _ _ (An (L3 _ _ _ _)) _=_
 have e1:=Zud ha hc hb ht
 have hR:= @Q9q
 generalize Kt=MC at*
 unfold FH
 by_cases h:C2 a c b tol=0
 ·rw[if_pos h]
  rw[Q18]
  simp only[go_sem,e1]
  rw[if_pos h]
  rfl
 ·rw[if_neg h]
  obtain⟨h1,h2,h3,h4,h5,-⟩:=Qal h
  obtain⟨m1,m2⟩:=S6 (AA a c) (AA c b)
  have h0: ¬C2 a c b tol=0:=h
  generalize C2 a c b tol=d at*
  have k1:bd B24 (BC c a d):=Jc hc ha h1 (by omega)
  have k2:bd B24 (BC c b d):=Jc hc hb h2 (by rw[S0 b c];omega)
  have t1:=Qj8 hc ha h1 (d:=d) (by omega)
  have t2:=Qj8 hc hb h2 (d:=d) (by omega)
  have p1:=Zlw k1 hc k2
  have p2:=(Qhg k1 hc k2).2
  generalize Ks (BC c a d) c (BC c b d)=n at*
  obtain⟨N,rfl⟩:∃N:Nat,n=N:=⟨n.toNat,by rcases p2 with rfl|rfl|rfl|rfl|rfl|rfl<;>rfl⟩
  have hN:2<=N/\N<=64:=by unfold Jw at p2;omega
  have hl:=Qu5 (MR:=Be) (MP:=JI) (MT:=Gj) (MC:=MC) hN k1 hc k2 (fun hi hp hc hq=>hR (by omega) hi hp hc hq) (f:=fun i=>ptR (L_ N i (BC c a d) c (BC c b d))) (fun _=>rfl) (N+1) 0 (by omega)
  have hf0:∀f:Nat->List AC,DN f [I 0,I 0,I 0] (N+1) 0=List.replicate (N+1) [I 0,I 0,I 0]:=fun f=>by unfold DN;rw[List.range_zero,List.map_nil,List.nil_append,Nat.sub_zero]
  rw[hf0]at hl
  generalize Be=MR at*
  generalize JI=MP at*
  generalize Gj=MT at*
  generalize BC c a d=p at*
  generalize BC c b d=q at*
  rw[Q18]
  simp only[List.cons_append,List.nil_append,ptR]at t1 t2
  have hres:(List.range (N+1)).map (fun(i:Nat)=>ptR (L_ N i p c q))=((List.range ((N:Int).toNat+1)).map fun(i:Nat)=>L_ N i p c q).map ptR:=by rw[List.map_map,Int.toNat_natCast];rfl
  rw[hres]at hl
  generalize((List.range ((N:Int).toNat+1)).map fun(i:Nat)=>L_ N i p c q).map ptR=C at*
  generalize An (L3 MR MP MT MC)=L at*
  have hl':L [.view kPt (List.replicate (N+1) [I 0,I 0,I 0]),I N,I (N+1:Nat),I 0,I c.x,I c.y,I c.z,I p.x,I p.y,I p.z,I q.x,I q.y,I q.z]=some (1,[.view kPt C]):=hl
  have w1:IntKind.i64.wrap ((N:Int)+1)=((N+1:Nat):Int):=by rw[Ae (by omega)];rfl
  simp only[e1,t1,t2,p1,w1,Option.bind_some,G8,Ke,Kn,He,gA,jA,wA,bA,Int.toNat_natCast,List.length_replicate,Qfw]
  rw[Bl (by simpa using h0),Du trivial,Bz (by simp;omega),hl']
  rfl
end Go.Bm
/- the program's points of a motion are the reference's; which items it refuses -/
set_option maxRecDepth 100000
namespace Go.Bm
open Classical

theorem OF (k:Int):Di [I k]=some [B (decide (1<=k/\k<=6))]:=by
 unfold Di
 rw[Zii]
 by_cases h:1<=k
 ·rw[Du (show k>=1 from h)]
  by_cases h2:k<=6
  ·rw[decide_eq_true h2,decide_eq_true ⟨h,h2⟩]
  ·rw[decide_eq_false h2,decide_eq_false fun h3=>h2 h3.2]
 ·rw[AW (show¬k>=1 from h),decide_eq_false fun h3=>h h3.1]
theorem Rm (it:Itm):Ej (Ag it)=some [B (decide (smI it))]:=by
 unfold Ej
 rw[Zrt]
 by_cases h:it.kind=2
 ·rw[Bz (by simp[h])]
  congr 2
  by_cases h2:it.fr=it.to
  ·have h3:=Dz.1 h2
   rw[decide_eq_false (fun hs:smI it=>hs.2 h2)]
   simp[h3.1,h3.2.1,h3.2.2]
  ·rw[decide_eq_true (show smI it from⟨h,h2⟩)]
   have h3: ¬(it.fr.x=it.to.x/\it.fr.y=it.to.y/\it.fr.z=it.to.z):=fun h3=>h2 (Dz.2 h3)
   simp only[B,AC.bool.injEq,Bool.not_eq_true',Bool.and_true]
   by_cases a:it.fr.x=it.to.x<;>by_cases b:it.fr.y=it.to.y<;>by_cases c:it.fr.z=it.to.z<;>simp[a,b,c]at h3⊢
 ·rw[Bl (by simp[h]),decide_eq_false (fun hs:smI it=>h hs.1)]
theorem Sp {it:Itm} (h1:bd 1048576 it.fr) (h2:bd 1048576 it.to):FG (Ag it)=some (ptR (A5 it)):=by
 obtain⟨a1,a2,a3⟩:=h1
 obtain⟨b1,b2,b3⟩:=h2
 unfold FG
 rw[Zai,Ae (x:=it.fr.x+it.to.x) (by omega),Ae (x:=(it.fr.x+it.to.x)*8) (by omega),Ae (x:=it.fr.y+it.to.y) (by omega),Ae (x:=(it.fr.y+it.to.y)*8) (by omega),Ae (x:=it.fr.z+it.to.z) (by omega),Ae (x:=(it.fr.z+it.to.z)*8) (by omega)]
 rfl
theorem Zvs {p:Pt} (h:bd 100000000 p):L7 [I p.x,I p.y,I p.z]=some (ptR (Ax p)):=by
 unfold L7
 rw[Ztk]
 obtain⟨h1,h2,h3⟩:=h
 rw[Ae (by omega),Ae (by omega),Ae (by omega)]
 rfl
theorem Q4b (it:Itm):Hg (Ag it)=some [B (decide (syI it))]:=by
 unfold Hg
 rw[Zst]
 by_cases h5:it.kind=5
 ·rw[Bz (by simp[h5]),decide_eq_true (show syI it from .inl h5)]
 ·rw[Bl (by simp[h5])]
  by_cases h6:it.kind=6
  ·rw[decide_eq_true (show syI it from .inr h6)];simp[h6]
  ·rw[decide_eq_false (show¬syI it from fun h=>h.elim h5 h6)];simp[h6]

theorem Zoe {MV MM:Fn} {it:Itm} (hM:MM [I it.kind]=some [B (decide (1<=it.kind/\it.kind<=6))]) (hV:∃v,MV (Ag it)=some [B v]/\(v=true↔C_ it)):
  Ql3 MV MM (Ag it)=some [I (if B1 it then 1 else 0)]:=by
 obtain⟨v,hv,hvv⟩:=hV
 have hr:∀{x:Int},(B1 it->x=1)->(¬B1 it->x=0)->some [I x]=some [I (if B1 it then 1 else 0)]:=by
  intro x h1 h2
  by_cases c:B1 it
  ·rw[if_pos c,h1 c]
  ·rw[if_neg c,h2 c]
 rw[Zxi]
 simp only[go_sem,hM,hv]
 unfold B1 AD at hr⊢
 have one:∀{P:Prop},P->(P->(1:Int)=1)/\(¬P->(1:Int)=0):=fun h=>⟨fun _=>rfl,fun g=>absurd h g⟩
 have zero:∀{P:Prop},¬P->(P->(0:Int)=1)/\(¬P->(0:Int)=0):=fun h=>⟨fun g=>absurd g h,fun _=>rfl⟩
 by_cases c1:it.kind<1
 ·rw[if_pos c1];exact hr (fun _=>rfl) fun g=>absurd (.inl c1) g
 rw[if_neg c1]
 by_cases c2:it.kind>14
 ·rw[if_pos c2];exact hr (fun _=>rfl) fun g=>absurd (.inr (.inl c2)) g
 rw[if_neg c2]
 by_cases c3:1<=it.kind/\it.kind<=6
 ·simp only[if_pos c3]
  have hk8:it.kind≠8:=by omega
  simp only[if_neg hk8]
  by_cases c4:C_ it
  ·rw[if_neg (by simp[hvv.2 c4])]
   by_cases c5:it.blend<0
   ·rw[if_pos c5];exact hr (fun _=>rfl) fun g=>absurd (.inr (.inr (.inl ⟨c3, .inr (.inr (.inl c5))⟩))) g
   rw[if_neg c5]
   by_cases c6:it.blend>1000
   ·rw[if_pos c6];exact hr (fun _=>rfl) fun g=>absurd (.inr (.inr (.inl ⟨c3, .inr (.inr (.inr c6))⟩))) g
   rw[if_neg c6]
   by_cases c7:it.kind=1
   ·rw[if_neg (show¬it.kind≠1 by omega)]
    refine hr (fun g=> ?_) fun _=>rfl
    rcases g with g|g|⟨-,g|g|g|g⟩|g
    ·omega
    ·omega
    ·exact absurd c4 g
    ·omega
    ·omega
    ·omega
    ·omega
   ·rw[if_pos c7]
    by_cases c8:it.feed<1
    ·rw[if_pos c8];exact hr (fun _=>rfl) fun g=>absurd (.inr (.inr (.inl ⟨c3, .inr (.inl ⟨c7, .inl c8⟩)⟩))) g
    rw[if_neg c8]
    by_cases c9:it.feed>60000000
    ·rw[if_pos c9];exact hr (fun _=>rfl) fun g=>absurd (.inr (.inr (.inl ⟨c3, .inr (.inl ⟨c7, .inr c9⟩)⟩))) g
    rw[if_neg c9]
    refine hr (fun g=> ?_) fun _=>rfl
    rcases g with g|g|⟨-,g|g|g|g⟩|g
    ·omega
    ·omega
    ·exact absurd c4 g
    ·omega
    ·omega
    ·omega
    ·omega
  ·rw[if_pos (fun h=>c4 (hvv.1 h))]
   exact hr (fun _=>rfl) fun g=>absurd (.inr (.inr (.inl ⟨c3, .inl c4⟩))) g
 ·simp only[if_neg c3]
  by_cases c4:it.kind=8
  ·rw[if_pos c4]
   by_cases d1:it.n<3
   ·rw[if_pos d1];exact hr (fun _=>rfl) fun g=>absurd (.inr (.inr (.inr ⟨c3,c4, .inl d1⟩))) g
   rw[if_neg d1]
   by_cases d2:it.n>5
   ·rw[if_pos d2];exact hr (fun _=>rfl) fun g=>absurd (.inr (.inr (.inr ⟨c3,c4, .inr (.inl d2)⟩))) g
   rw[if_neg d2]
   by_cases d3:it.speed<0
   ·rw[if_pos d3];exact hr (fun _=>rfl) fun g=>absurd (.inr (.inr (.inr ⟨c3,c4, .inr (.inr (.inl d3))⟩))) g
   rw[if_neg d3]
   by_cases d4:it.speed>30000
   ·rw[if_pos d4];exact hr (fun _=>rfl) fun g=>absurd (.inr (.inr (.inr ⟨c3,c4, .inr (.inr (.inr d4))⟩))) g
   rw[if_neg d4]
   refine hr (fun g=> ?_) fun _=>rfl
   rcases g with g|g|⟨g,-⟩|⟨-,-,g⟩
   ·omega
   ·omega
   ·exact absurd g c3
   ·omega
  ·rw[if_neg c4]
   refine hr (fun g=> ?_) fun _=>rfl
   rcases g with g|g|⟨g,-⟩|⟨-,g,-⟩
   ·omega
   ·omega
   ·exact absurd g c3
   ·omega
theorem Z0x (it:Itm):I2 (Ag it)=some [I (if B1 it then 1 else 0)]:=Zoe (OF _) (Qly it)

def CH:List Itm->Nat->Nat
 |[],k=>k
 |it::l,k=>if it.kind=10 then CH l (k+1)else k
def CT (items:List Itm) (i:Nat):Nat:=CH (items.drop (i+1)) (i+1)
theorem TI:∀(l:List Itm) (k:Nat),k<=CH l k/\CH l k<=k+l.length
 |[],k=>by simp[CH]
 |it::l,k=>by
  unfold CH
  split
  ·have:=TI l (k+1);simp;omega
  ·simp
theorem Qzi:∀(l:List Itm) (k:Nat),Gu l k=if CH l k-k<l.length/\smI (l.getD (CH l k-k) it0)then(CH l k:Int)else-1
 |[],k=>by simp[Gu]
 |it::l,k=>by
  have hs:=TI l (k+1)
  by_cases h10:it.kind=10
  ·have e1:Gu (it::l) k=Gu l (k+1):=by rw[Gu,if_pos h10]
   have e2:CH (it::l) k=CH l (k+1):=by rw[CH,if_pos h10]
   rw[e1,e2,Qzi l (k+1)]
   have e3:CH l (k+1)-k=(CH l (k+1)-(k+1))+1:=by omega
   rw[e3,List.getD_cons_succ]
   by_cases c:CH l (k+1)-(k+1)<l.length
   ·have c2:CH l (k+1)-(k+1)+1<(it::l).length:=by simp;omega
    by_cases c3:smI (l.getD (CH l (k+1)-(k+1)) it0)
    ·rw[if_pos ⟨c,c3⟩,if_pos ⟨c2,c3⟩]
    ·rw[if_neg (fun g=>c3 g.2),if_neg (fun g=>c3 g.2)]
   ·rw[if_neg (fun g=>c g.1),if_neg (fun g=>c (by have:=g.1;simp at this;omega))]
  ·have e1:Gu (it::l) k=if smI it then(k:Int)else-1:=by rw[Gu,if_neg h10]
   have e2:CH (it::l) k=k:=by rw[CH,if_neg h10]
   rw[e1,e2,Nat.sub_self,List.getD_cons_zero]
   by_cases c:smI it
   ·rw[if_pos c,if_pos ⟨by simp,c⟩]
   ·rw[if_neg c,if_neg (fun g=>c g.2)]
theorem Qvj {items:List Itm} (hl:items.length<=1000000):∀(k i:Nat),i+k=items.length->
  An Qb [.view Ak (items.map Ag),I i]=some (1,[I (CH (items.drop i) i)])
 |0,i,hi=>by
  refine A7 ?_ (by simp)
  rw[Q3a]
  simp only[go_sem,List.length_map]
  rw[if_neg (by omega),List.drop_of_length_le (by omega)]
  rfl
 |k+1,i,hi=>by
  have hlt:i<items.length:=by omega
  have hr:=EJ hlt
  rw[Qna hlt]
  have hst:Qb [.view Ak (items.map Ag),I i]=if(itA items i).kind=10 then some (0,[.view Ak (items.map Ag),I (i+1:Nat)])else some (1,[I i]):=by
   rw[Q3a]
   have hin:(0:Int)<=(i:Int)/\(i:Int)<(items.length:Int):=by omega
   simp only[go_sem,List.length_map,Int.toNat_natCast,hr,if_pos hin]
   rw[if_pos (by omega),Ae (by omega)]
   rfl
  unfold CH
  by_cases h10:(itA items i).kind=10
  ·rw[if_pos h10]at hst⊢
   rw[Bt hst]
   exact Qvj hl k (i+1) (by omega)
  ·rw[if_neg h10]at hst⊢
   exact A7 hst (by simp)
theorem TF {items:List Itm} (hl:items.length<=1000000) {i:Nat} (hi:i<items.length):ER [.view Ak (items.map Ag),I i]=some [I (CT items i)]:=by
 show Qba (An Qb) _=_
 have h:=Qvj hl (items.length-(i+1)) (i+1) (by omega)
 rw[Znn,Ae (by omega),show(i:Int)+1=((i+1:Nat):Int) by omega,h]
 rfl
theorem Qy5 {items:List Itm} {i:Nat}:BR items i=if smI (itA items i)/\(itA items i).blend≠0/\CT items i<items.length/\smI (itA items (CT items i))then(CT items i:Int)else-1:=by
 unfold BR
 by_cases h:smI (itA items i)/\(itA items i).blend≠0
 ·rw[if_pos h,Qzi]
  have hs:=TI (items.drop (i+1)) (i+1)
  rw[List.length_drop]at hs
  have e:(items.drop (i+1)).getD (CH (items.drop (i+1)) (i+1)-(i+1)) it0=itA items (CT items i):=by
   unfold itA
   rw[List.getD_eq_getElem?_getD,List.getElem?_drop,List.getD_eq_getElem?_getD]
   have:i+1+(CH (items.drop (i+1)) (i+1)-(i+1))=CT items i:=by unfold CT;omega
   rw[this]
  rw[e,List.length_drop]
  have e2:CH (items.drop (i+1)) (i+1)=CT items i:=rfl
  rw[e2]at hs⊢
  by_cases c:CT items i<items.length/\smI (itA items (CT items i))
  ·rw[if_pos ⟨by omega,c.2⟩,if_pos ⟨h.1,h.2,c⟩]
  ·rw[if_neg (fun g=>c ⟨by have:=g.1;omega,g.2⟩),if_neg (fun g=>c g.2.2)]
 ·rw[if_neg h,if_neg (fun g=>h ⟨g.1,g.2.1⟩)]
theorem Zgj {MS MN:Fn} {items:List Itm} (hS:∀it,MS (Ag it)=some [B (decide (smI it))]) {i:Nat} (hi:i<items.length) (hN:MN [.view Ak (items.map Ag),I i]=some [I (CT items i)]):
  Tm MS MN [.view Ak (items.map Ag),I i]=some [B (decide (0<=BR items i))]:=by
 have hr:=EJ hi
 have hs:=hS (itA items i)
 rw[Zqn,Qy5]
 simp only[Ag]at hs
 have hin:(0:Int)<=(i:Int)/\(i:Int)<(items.length:Int):=by omega
 simp only[go_sem,List.length_map,Int.toNat_natCast,hr,hs,hN,if_pos hin]
 by_cases h1:smI (itA items i)
 case neg=>rw[if_neg h1,if_neg (fun g=>h1 g.1)];simp
 rw[if_pos h1]
 by_cases h2:(itA items i).blend=0
 ·rw[if_neg (by simp[h2]),if_neg (fun g=>g.2.1 h2)];simp
 rw[if_pos h2]
 by_cases h3:CT items i<items.length
 ·have hr2:=EJ h3
  have hs2:=hS (itA items (CT items i))
  simp only[Ag]at hs2
  have hin2:(0:Int)<=(CT items i:Int)/\(CT items i:Int)<(items.length:Int):=by omega
  rw[if_pos (by omega),if_pos hin2]
  simp only[go_sem,hr2,hs2]
  by_cases h4:smI (itA items (CT items i))
  ·rw[decide_eq_true h4,if_pos ⟨h1,h2,h3,h4⟩,decide_eq_true (by omega)]
  ·rw[decide_eq_false h4,if_neg (fun g=>h4 g.2.2.2)];simp
 ·rw[if_neg (by omega),if_neg (fun g=>h3 g.2.2.1)];simp
theorem Qod {items:List Itm} (hl:items.length<=1000000) {i:Nat} (hi:i<items.length):Gk [.view Ak (items.map Ag),I i]=some [B (decide (0<=BR items i))]:=
 Zgj Rm hi (TF hl hi)
theorem QI {items:List Itm} {i:Nat} (h:0<=BR items i):BR items i=CT items i:=by
 rw[Qy5]at h⊢
 split at h
 ·rename_i c;rw[if_pos c]
 ·omega

theorem Q6l {a c b:Pt} {tol:Int} (ha:bd B24 a) (hc:bd B24 c) (hb:bd B24 b):(FH a c b tol).length%2=1:=by
 unfold FH
 by_cases h:C2 a c b tol=0
 ·rw[if_pos h];rfl
 ·rw[if_neg h]
  obtain⟨h1,h2,h3,h4,h5,-⟩:=Qal h
  obtain⟨m1,m2⟩:=S6 (AA a c) (AA c b)
  generalize C2 a c b tol=d at*
  have k1:bd B24 (BC c a d):=Jc hc ha h1 (by omega)
  have k2:bd B24 (BC c b d):=Jc hc hb h2 (by rw[S0 b c];omega)
  have k3:=(Qhg k1 hc k2).2
  generalize Ks (BC c a d) c (BC c b d)=n at*
  rw[List.length_map,List.length_range]
  rcases k3 with rfl|rfl|rfl|rfl|rfl|rfl<;>rfl
theorem Zdz {MC MF MM:Fn} {a b:Itm} {l:List Pt} (hbl:0<=a.blend/\a.blend<=1000) (hl:1<=l.length/\l.length<=65) (hodd:l.length%2=1)
  (c1:MM (Ag a)=some (ptR (A5 a))) (c2:MM (Ag b)=some (ptR (A5 b))) (f1:MF [I a.to.x,I a.to.y,I a.to.z]=some (ptR (Ax a.to)))
  (hC:MC (ptR (A5 a)++ptR (Ax a.to)++ptR (A5 b)++[I (a.blend*16)])=some [.view kPt (l.map ptR)]):
  Qmw MC MF MM (Ag a++Ag b)=some [.view kPt ((l.take (l.length/2+1)).map ptR), .view kPt ((l.drop (l.length/2)).map ptR)]:=by
 simp only[Ag,List.cons_append,List.nil_append]at c1 c2⊢
 rw[Zf2]
 simp only[ptR,List.cons_append,List.nil_append]at hC
 simp only[go_sem,c1,c2,f1]
 rw[Ae (by omega)]
 simp only[hC,go_sem,List.length_map]
 have e:IntKind.i64.wrap ((IntKind.i64.wrap ((l.length:Int)-1)).tdiv 2)=((l.length/2:Nat):Int):=by
  rw[Ae (x:=(l.length:Int)-1) (by omega),Int.tdiv_eq_ediv_of_nonneg (by omega),Ae (by omega)]
  omega
 have e2:IntKind.i64.wrap (((l.length/2:Nat):Int)+1)=((l.length/2+1:Nat):Int):=by rw[Ae (by omega)];omega
 simp only[e,e2,Int.toNat_natCast]
 rw[if_pos (by omega),if_pos (by omega),List.map_take,List.map_drop]
theorem Zt7 {a b:Itm} (h1:drawn a) (h2:drawn b):
  O0 (Ag a++Ag b)=some [.view kPt (((FH (A5 a) (Ax a.to) (A5 b) (a.blend*16)).take ((FH (A5 a) (Ax a.to) (A5 b) (a.blend*16)).length/2+1)).map ptR), .view kPt (((FH (A5 a) (Ax a.to) (A5 b) (a.blend*16)).drop ((FH (A5 a) (Ax a.to) (A5 b) (a.blend*16)).length/2)).map ptR)]:=
 have k1:=J_ h1.1.2.1 h1.1.2.2.1
 have k2:=EP h1.1.2.2.1
 have k3:=J_ h2.1.2.1 h2.1.2.2.1
 Zdz h1.2 (Q3z k1 k2 k3).2 (Q6l k1 k2 k3) (Sp h1.1.2.1 h1.1.2.2.1) (Sp h2.1.2.1 h2.1.2.2.1) (Zvs (AU h1.1.2.2.1 (by decide))) (Zlv k1 k2 k3 (by have:=h1.2;omega))
end Go.Bm
/- the program's path of a list of items: its points, its marks, what it adds -/
set_option maxRecDepth 100000
namespace Go.Bm
open Classical

theorem Zog {MM MN MS MC MSm MK:Fn} {items:List Itm} {i:Nat} {frm:Int} (hi:i<items.length) (hd:drawn (itA items i)) (hf:KM items i frm) (hall:∀k<items.length,AD (itA items k)->drawn (itA items k))
  (hK:MK (Ag (itA items i))=some [.view kPt ((Cs (itA items i)).map ptR),B true]) (hM:MSm (Ag (itA items i))=some [B (decide (smI (itA items i)))])
  (hJ:∀{i k:Nat},i<items.length->k<items.length->drawn (itA items i)->drawn (itA items k)->MC (Ag (itA items i)++Ag (itA items k))=some [.view kPt (((G6 items i k).take ((G6 items i k).length/2+1)).map ptR), .view kPt (((G6 items i k).drop ((G6 items i k).length/2)).map ptR)])
  (hS:MS [.view Ak (items.map Ag),I i]=some [B (decide (0<=BR items i))]) (hN:MN [.view Ak (items.map Ag),I i]=some [I (CT items i)]) (hC:MM (Ag (itA items i))=some (ptR (A5 (itA items i)))):
  Qf4 MM MN MS MC MSm MK [.view Ak (items.map Ag),I i,I frm]=some [.view kPt ((Ch items i frm).map ptR)]:=by
 have r1:=EJ hi
 obtain⟨hcl1,hcl2⟩:=Qq1 (itA items i)
 rw[Zvl]
 simp only[Ag,List.cons_append,List.nil_append]at hK hM hC hJ
 have hin:(0:Int)<=(i:Int)/\(i:Int)<(items.length:Int):=by omega
 simp only[go_sem,List.length_map,Int.toNat_natCast,r1,hK,hM,hC,hS,hN,List.nil_append,if_pos hin]
 unfold Ch
 by_cases hs:smI (itA items i)
 case neg=>rw[if_pos (by simp[hs]),if_neg hs]
 rw[if_neg (by simp[hs]),if_pos hs]
 have hk3:(itA items i).kind≠3:=by have:=hs.1;omega
 have hcl3:(Cs (itA items i)).length=2:=by unfold Cs;rw[if_neg hk3];rfl
 have w1:IntKind.i64.wrap (((Cs (itA items i)).length:Int)-1)=1:=by rw[hcl3];rfl
 rw[w1,hcl3,if_pos (by omega),if_pos (by omega)]
 unfold Lg
 rcases hf with rfl|⟨f,rfl,hf1,hf2⟩
 ·rw[if_neg (show¬(-1:Int)>=0 by omega)]
  unfold I4
  rw[if_neg (show¬(0:Int)<= -1 by omega)]
  by_cases hpos:0<=BR items i
  ·obtain⟨k,hk,hk1,hk2⟩:=QG hall hpos
   have hnx:=QI hpos
   rw[hk]at hnx
   have hnk:CT items i=k:=by omega
   obtain⟨j1,j2,j3⟩:=K7 (items:=items) (i:=i) (k:=k) hd hk2
   have hj:=hJ hi hk1 hd hk2
   have r2:=EJ hk1
   have hin2:(0:Int)<=(k:Int)/\(k:Int)<(items.length:Int):=by omega
   rw[if_pos hpos,if_pos hpos,hk,hnk,Int.toNat_natCast,if_pos hin2]
   simp only[go_sem,Int.toNat_natCast,r2,hj]
   rw[if_pos (by simp[Tb];omega),if_pos (by simp;omega),if_pos (by simp;omega)]
   simp only[Tb,List.map_append,List.map_cons,List.map_nil]
  ·rw[if_neg hpos,if_neg hpos,if_pos (by simp[Tb];omega),if_pos (by simp;omega),if_pos (by simp;omega)]
   simp only[Tb,Q5h,List.map_append,List.map_cons,List.map_nil]
 ·have hjf:=hJ hf1 hi hf2 hd
  obtain⟨f1,f2,f3⟩:=K7 (items:=items) (i:=f) (k:=i) hf2 hd
  have rf:=EJ hf1
  have hinf:(0:Int)<=(f:Int)/\(f:Int)<(items.length:Int):=by omega
  rw[if_pos (show(f:Int)>=0 by omega),if_pos hinf]
  unfold I4
  rw[if_pos (show(0:Int)<=(f:Int) by omega),Int.toNat_natCast]
  simp only[rf,go_sem,hjf,Int.toNat_natCast]
  by_cases hpos:0<=BR items i
  ·obtain⟨k,hk,hk1,hk2⟩:=QG hall hpos
   have hnx:=QI hpos
   rw[hk]at hnx
   have hnk:CT items i=k:=by omega
   obtain⟨j1,j2,j3⟩:=K7 (items:=items) (i:=i) (k:=k) hd hk2
   have hj:=hJ hi hk1 hd hk2
   have r2:=EJ hk1
   have hin2:(0:Int)<=(k:Int)/\(k:Int)<(items.length:Int):=by omega
   rw[if_pos hpos,if_pos hpos,hk,hnk,Int.toNat_natCast,if_pos hin2]
   simp only[go_sem,Int.toNat_natCast,r2,hj]
   rw[if_pos (by simp;omega),if_pos (by simp;omega),if_pos (by simp;omega)]
   simp only[List.map_append,List.map_cons,List.map_nil]
  ·rw[if_neg hpos,if_neg hpos,if_pos (by simp;omega),if_pos (by simp;omega),if_pos (by simp;omega)]
   simp only[Q5h,List.map_append,List.map_cons,List.map_nil]
theorem Z0t {items:List Itm} (hl:items.length<=1000000) {i:Nat} {frm:Int} (hi:i<items.length) (hd:drawn (itA items i)) (hf:KM items i frm) (hall:∀k<items.length,AD (itA items k)->drawn (itA items k)):
  LG [.view Ak (items.map Ag),I i,I frm]=some [.view kPt ((Ch items i frm).map ptR)]:=
 Zog hi hd hf hall (Zqu hd.1) (Rm _) (fun h1 h2 h3 h4=>Zt7 h3 h4) (Qod hl hi) (TF hl hi) (Sp hd.1.2.1 hd.1.2.2.1)

theorem Q35 {MM MS:Fn} {l:List Itm} (hM:∀k:Int,MM [I k]=some [B (decide (1<=k/\k<=6))]) (hS:∀it,MS (Ag it)=some [B (decide (syI it))]) (hl:l.length<=1000000):∀(k i:Nat),i+k=l.length->
  (An (Kl MM MS) [.view Ak (l.map Ag),I l.length,I i]=some (1,[B (decide (Hj (l.drop i)=1))]))\/(An (Kl MM MS) [.view Ak (l.map Ag),I l.length,I i]=some (2,[])/\Hj (l.drop i)=2)
 |0,i,hi=>by
  right
  refine⟨A7 ?_ (by simp),by rw[List.drop_of_length_le (by omega)];rfl⟩
  rw[Q26]
  simp only[go_sem]
  rw[if_neg (by omega)]
 |k+1,i,hi=>by
  have hlt:i<l.length:=by omega
  have hr:=EJ hlt
  rw[Qna hlt]
  have hs:=hS (itA l i)
  have hm:=hM (itA l i).kind
  have hst:Kl MM MS [.view Ak (l.map Ag),I l.length,I i]=if AD (itA l i)then some (1,[B (decide (syI (itA l i)))])else some (0,[.view Ak (l.map Ag),I l.length,I (i+1:Nat)]):=by
   rw[Q26]
   simp only[Ag]at hs
   have hin:(0:Int)<=(i:Int)/\(i:Int)<(l.length:Int):=by omega
   simp only[go_sem,List.length_map,Int.toNat_natCast,hr,hs,hm,if_pos hin]
   rw[if_pos (by omega),Ae (by omega)]
   by_cases h1:AD (itA l i)
   ·rw[if_pos (show 1<=(itA l i).kind/\(itA l i).kind<=6 from h1),if_pos h1]
   ·rw[if_neg (show¬(1<=(itA l i).kind/\(itA l i).kind<=6)from h1),if_neg h1];rfl
  unfold Hj
  by_cases h10:AD (itA l i)
  ·rw[if_pos h10]at hst⊢
   left
   rw[A7 hst (by simp)]
   by_cases hsm:syI (itA l i)
   ·rw[if_pos hsm,decide_eq_true hsm];rfl
   ·rw[if_neg hsm,decide_eq_false hsm];rfl
  ·rw[if_neg h10]at hst⊢
   rw[Bt hst]
   exact Q35 hM hS hl k (i+1) (by omega)
def Ih (items:List Itm) (i:Nat):Prop:=(itA items i).blend=0\/syI (itA items i)\/Hj (items.drop (i+1))=1
theorem Zrs {MM MS:Fn} {items:List Itm} (hM:∀k:Int,MM [I k]=some [B (decide (1<=k/\k<=6))]) (hS:∀it,MS (Ag it)=some [B (decide (syI it))]) (hl:items.length<=1000000) {i:Nat} (hi:i<items.length):
  Qdu MM MS (An (Kl MM MS)) [.view Ak (items.map Ag),I i]=some [B (decide (Ih items i))]:=by
 have hr:=EJ hi
 have hs:=hS (itA items i)
 have hL:=Q35 hM hS (l:=items.drop (i+1)) (by rw[List.length_drop];omega) (items.drop (i+1)).length 0 (by omega)
 rw[List.drop_zero]at hL
 rw[Zn5]
 simp only[Ag]at hs
 have hw:IntKind.i64.wrap ((i:Int)+1)=((i+1:Nat):Int):=by rw[Ae (by omega)];omega
 have hin:(0:Int)<=(i:Int)/\(i:Int)<(items.length:Int):=by omega
 have hin3:(0:Int)<=((i+1:Nat):Int)/\((i+1:Nat):Int)<=(items.length:Int):=by omega
 have hdl:(List.drop (i+1) (items.map Ag)).length=(items.drop (i+1)).length:=by rw[List.length_drop,List.length_drop,List.length_map]
 generalize An (Kl MM MS)=N at*
 simp only[go_sem,List.length_map,Int.toNat_natCast,hr,hs,hw,if_pos hin,if_pos hin3,hdl]
 rw[<-List.map_drop]
 by_cases h2:(itA items i).blend=0
 ·rw[if_pos h2,decide_eq_true (show Ih items i from .inl h2)]
 ·rw[if_neg h2]
  by_cases h3:syI (itA items i)
  ·rw[if_pos h3,decide_eq_true (show Ih items i from .inr (.inl h3))]
  ·rw[if_neg h3]
   rcases hL with hL|⟨hL,hn⟩
   ·have hL':N [.view Ak ((items.drop (i+1)).map Ag),I (items.drop (i+1)).length,I 0]=some (1,[B (decide (Hj (items.drop (i+1))=1))]):=hL
    simp only[hL',go_sem]
    by_cases h4:Hj (items.drop (i+1))=1
    ·rw[decide_eq_true h4,decide_eq_true (show Ih items i from .inr (.inr h4))]
    ·rw[decide_eq_false h4,decide_eq_false (show¬Ih items i from fun h=>h.elim h2 fun h=>h.elim h3 h4)]
   ·have hL':N [.view Ak ((items.drop (i+1)).map Ag),I (items.drop (i+1)).length,I 0]=some (2,[]):=hL
    simp only[hL',go_sem]
    rw[decide_eq_false (show¬Ih items i from fun h=>h.elim h2 fun h=>h.elim h3 fun h=>by rw[hn]at h;cases h)]
    simp
theorem Zod {items:List Itm} (hl:items.length<=1000000) {i:Nat} (hi:i<items.length):Ps [.view Ak (items.map Ag),I i]=some [B (decide (Ih items i))]:=Zrs OF Q4b hl hi
def Jf (items:List Itm) (i:Nat):Int:=if AD (itA items i)then R7 items i else Rv (itA items i)
theorem Zp4 {ME MM:Fn} {items:List Itm} {i:Nat} {segs:Rw} {marks:List Mrk} {st:Pt} {b:Bool} {len sp mid:Int} (hi:i<items.length) (hml:marks.length<=1000000)
  (hM:MM [I (itA items i).kind]=some [B (decide (AD (itA items i)))]) (hE:ME [.view Ak (items.map Ag),I i]=some [B (decide (Ih items i))]):
  Qe2 ME MM [.view Ah segs, .view AB (marks.map As), .view Ak (items.map Ag),I i,I st.x,I st.y,I st.z,B b,I len,I sp,I mid]=
   some [.view Ah segs, .view AB ((marks++[(⟨len,Jf items i,i⟩:Mrk)]).map As),I st.x,I st.y,I st.z,B b,I len,I sp,I mid]:=by
 have hr:=EJ hi
 have hin:(0:Int)<=(i:Int)/\(i:Int)<(items.length:Int):=by omega
 have hb:(marks.length+1)*24<=140737488355328:=by omega
 have e:∀k:Int,marks.map As++[[I len,I k,I i]]=(marks++[(⟨len,k,i⟩:Mrk)]).map As:=fun k=>by rw[List.map_append];rfl
 rw[Zem]
 simp only[go_sem,List.length_map,Int.toNat_natCast,hr,if_pos hin,hM,hE,List.length_append,List.length_cons,List.length_nil,if_pos hb]
 have fin:∀{k:Int},k=Jf items i->some [AC.view Ah segs, .view AB (marks.map As++[[I len,I k,I i]]),I st.x,I st.y,I st.z,B b,I len,I sp,I mid]=some [.view Ah segs, .view AB ((marks++[(⟨len,Jf items i,i⟩:Mrk)]).map As),I st.x,I st.y,I st.z,B b,I len,I sp,I mid]:=by
  intro k hk;rw[e,hk]
 unfold Jf R7 Rv at fin⊢
 by_cases c4:(itA items i).kind=4
 ·rw[if_pos c4]
  have hm:AD (itA items i):=⟨by omega,by omega⟩
  exact fin (by rw[if_pos hm,if_pos c4])
 ·rw[if_neg c4]
  by_cases hm:AD (itA items i)
  ·rw[if_pos hm]
   by_cases hx:Ih items i
   ·rw[if_pos hx]
    refine fin ?_
    rw[if_pos hm,if_neg c4]
    rcases hx with h|h|h
    ·rw[if_pos h]
    ·by_cases h2:(itA items i).blend=0
     ·rw[if_pos h2]
     ·rw[if_neg h2,if_pos h]
    ·by_cases h2:(itA items i).blend=0
     ·rw[if_pos h2]
     ·rw[if_neg h2]
      by_cases h3:syI (itA items i)
      ·rw[if_pos h3]
      ·rw[if_neg h3,h]
   ·rw[if_neg hx,if_pos hm]
    refine fin ?_
    rw[if_pos hm,if_neg c4,if_neg (fun h=>hx (.inl h)),if_neg (fun h=>hx (.inr (.inl h)))]
    have hns:∀l:List Itm,Hj l=1\/Hj l=2:=by
     intro l
     induction l with
     |nil=>right;rfl
     |cons it l ih=>
      unfold Hj
      split
      ·split<;>simp
      ·exact ih
    rcases hns (items.drop (i+1))with h|h
    ·exact absurd (.inr (.inr h)) hx
    ·rw[h]
  ·rw[if_neg hm,if_neg hm]
   by_cases c10:(itA items i).kind=10
   ·rw[if_pos c10];exact fin (by rw[if_neg hm,if_pos c10])
   ·rw[if_neg c10]
    by_cases c13:(itA items i).kind=13
    ·rw[if_pos c13];exact fin (by rw[if_neg hm,if_neg c10,if_pos c13])
    ·rw[if_neg c13];exact fin (by rw[if_neg hm,if_neg c10,if_neg c13])
theorem Zdq {items:List Itm} (hl:items.length<=1000000) {i:Nat} {segs:Rw} {marks:List Mrk} {st:Pt} {b:Bool} {len sp mid:Int} (hi:i<items.length) (hml:marks.length<=1000000):
  IJ [.view Ah segs, .view AB (marks.map As), .view Ak (items.map Ag),I i,I st.x,I st.y,I st.z,B b,I len,I sp,I mid]=
   some [.view Ah segs, .view AB ((marks++[(⟨len,Jf items i,i⟩:Mrk)]).map As),I st.x,I st.y,I st.z,B b,I len,I sp,I mid]:=
 Zp4 hi hml (OF _) (Zod hl hi)
end Go.Bm
/- the program's path of a list of items is the reference's -/
set_option maxRecDepth 100000
namespace Go.Bm
open Classical

theorem Zyn (a:Pt) (segs:List Sgm):segs=[]\/∃l g,segs=l++[g]/\EK a segs=g.to/\((segs.length:Int)>0)/\nth [] (segs.map Ay) (segs.length-1)=Ay g:=by
 rcases List.eq_nil_or_concat segs with h|⟨l,g,h⟩
 ·exact .inl h
 ·right
  rw[List.concat_eq_append]at h
  refine⟨l,g,h,?_,?_,?_⟩
  ·rw[h];exact Sj g a l
  ·rw[h];simp
  ·have hl:segs.length-1<segs.length:=by rw[h];simp
   rw[Ik _ _ _ _ hl]
   congr 1
   subst h
   simp
theorem Zk8 {ML:Fn} {marks:Rw} {q g st:Pt} {gl item feed lead len sp mid:Int}:
  RE ML [.view Ah [], .view AB marks,I q.x,I q.y,I q.z,I g.x,I g.y,I g.z,I gl,I item,I feed,I lead,I st.x,I st.y,I st.z,B false,I len,I sp,I mid]=
   some [.view Ah [], .view AB marks,I q.x,I q.y,I q.z,B true,I len,I sp,I mid]:=by
 rw[Q2w]
 simp
theorem Zu8 {ML:Fn} {segs:List Sgm} {marks:Rw} {q g st at_:Pt} {gl item feed lead len sp mid:Int} (hat:EK st segs=at_)
  (hL:ML [I at_.x,I at_.y,I at_.z,I q.x,I q.y,I q.z]=some [I (AA at_ q)]) (hl:0<=AA at_ q/\AA at_ q<=268435456) (hs:segs.length+1<=1048577) (hlen:0<=len/\len<=4000000000000000000):
  RE ML [.view Ah (segs.map Ay), .view AB marks,I q.x,I q.y,I q.z,I g.x,I g.y,I g.z,I gl,I item,I feed,I lead,I st.x,I st.y,I st.z,B true,I len,I sp,I mid]=
   some [.view Ah ((A6 item feed lead (segs,len,at_) q).1.map Ay), .view AB marks,I st.x,I st.y,I st.z,B true,I (A6 item feed lead (segs,len,at_) q).2.1,I sp,I mid]:=by
 have hap:(segs.map Ay++[[I q.x,I q.y,I q.z,I (AA at_ q),I item,I feed,I lead]])=(segs++[(⟨q,AA at_ q,item,feed,lead⟩:Sgm)]).map Ay:=by rw[List.map_append];rfl
 rw[Q2w]
 try dsimp only[go_sem]
 rcases Zyn st segs with h|⟨l,s,h1,h2,h3,h4⟩
 ·subst h
  have hat':st=at_:=hat
  subst hat'
  simp only[List.map_nil,List.length_nil]
  rw[AW (by decide),Bool.not_true,cond_false]
  by_cases c:q=st
  ·have c4:=Dz.1 c
   rw[Bz (by simp[c4.1,c4.2.1,c4.2.2]),show A6 item feed lead ([],len,st) q=([],len,st)from if_pos c]
   rfl
  ·rw[Bl,hL]
   ·simp only[Option.bind_some,G8,He,gA,jA,wA,bA,List.nil_append,List.length_cons,List.length_nil]
    rw[Bz (by decide),show A6 item feed lead ([],len,st) q=([⟨q,AA st q,item,feed,lead⟩],len+AA st q,q)from if_neg c,Ae (by omega)]
    rfl
   ·have c2: ¬(q.x=st.x/\q.y=st.y/\q.z=st.z):=fun g=>c (Dz.2 g)
    simp only[Bool.and_true,Bool.and_eq_false_iff,beq_eq_false_iff_ne]
    omega
 ·rw[hat]at h2
  have w1:IntKind.i64.wrap ((segs.length:Int)-1)=((segs.length-1:Nat):Int):=by rw[Ae (by omega)];omega
  have hin:(0:Int)<=((segs.length-1:Nat):Int)/\((segs.length-1:Nat):Int)<(segs.length:Int):=by omega
  rw[h2]at hL hap⊢
  clear h1
  simp only[go_sem,List.length_map,w1,Int.toNat_natCast,h4,if_pos h3,if_pos hin,hL,List.length_append,List.length_cons,List.length_nil]
  rw[if_neg (by simp)]
  by_cases c:q=s.to
  ·have c4:=Dz.1 c
   rw[if_pos ⟨c4.1,c4.2.1,c4.2.2,trivial⟩,show A6 item feed lead (segs,len,s.to) q=(segs,len,s.to)from if_pos c]
  ·rw[if_neg (fun g=>c (Dz.2 ⟨g.1,g.2.1,g.2.2.1⟩)),if_pos (by omega),show A6 item feed lead (segs,len,s.to) q=(segs++[⟨q,AA s.to q,item,feed,lead⟩],len+AA s.to q,q)from if_neg c,Ae (by rw[<-h2]at*;omega),hap]
noncomputable def Dh (it:Itm) (item feed lead:Int) (s:(List Sgm×Int×Pt)×Int) (q:Pt):(List Sgm×Int×Pt)×Int:=
 (A6 item feed lead s.1 q,if smI it/\q=A5 it then(A6 item feed lead s.1 q).2.1 else s.2)
theorem U0 {it:Itm} {item feed lead:Int}:∀(pts:List Pt) (s:(List Sgm×Int×Pt)×Int),(pts.foldl (Dh it item feed lead) s).1=pts.foldl (A6 item feed lead) s.1
 |[],_=>rfl
 |q::pts,s=>by rw[List.foldl_cons,List.foldl_cons,U0 pts];rfl
theorem Qw4 {MM MSm MA MP MG MR:Fn} {it:Itm} {pts:List Pt} {j:Nat} (hj:j<pts.length) (hpl:pts.length<=1000000) {segs segs':Rw} {marks:Rw} {g st st':Pt} {b b':Bool} {gl item feed lead len len' sp mid:Int}
  (hM:MSm (Ag it)=some [B (decide (smI it))]) (hC:MM (Ag it)=some (ptR (A5 it)))
  (hA:MA [.view Ah segs, .view AB marks,I pts[j].x,I pts[j].y,I pts[j].z,I g.x,I g.y,I g.z,I gl,I item,I feed,I lead,I st.x,I st.y,I st.z,B b,I len,I sp,I mid]=some [.view Ah segs', .view AB marks,I st'.x,I st'.y,I st'.z,B b',I len',I sp,I mid]):
  KE MM MSm MA MP MG MR (.view Ah segs:: .view AB marks:: .view kPt (pts.map ptR)::I pts.length::I j::(Ag it++[I g.x,I g.y,I g.z,I gl,I item,I feed,I lead,I st.x,I st.y,I st.z,B b,I len,I sp,I mid]))=
   some (0, .view Ah segs':: .view AB marks:: .view kPt (pts.map ptR)::I pts.length::I (j+1:Nat)::(Ag it++[I g.x,I g.y,I g.z,I gl,I item,I feed,I lead,I st'.x,I st'.y,I st'.z,B b',I len',I sp,I (if smI it/\pts[j]=A5 it then len' else mid)])):=by
 have hr:nth [] (pts.map ptR) j=ptR pts[j]:=Ik _ _ _ _ hj
 have hin:(0:Int)<=(j:Int)/\(j:Int)<(pts.length:Int):=by omega
 have hw:IntKind.i64.wrap ((j:Int)+1)=((j+1:Nat):Int):=by rw[Ae (by omega)];omega
 generalize pts[j]=q at*
 simp only[Ag]at hM hC
 simp only[Ag,List.cons_append,List.nil_append]
 rw[Qzn]
 simp only[go_sem,List.length_map,Int.toNat_natCast,hr,if_pos hin,hA,hM,hC,hw]
 rw[if_pos (by omega)]
 by_cases c:smI it
 ·rw[if_pos c]
  by_cases c2:q=A5 it
  ·have c3:=Dz.1 c2
   rw[if_pos ⟨c3.1,c3.2.1,c3.2.2,trivial⟩,if_pos ⟨c,c2⟩]
  ·rw[if_neg (fun h=>c2 (Dz.2 ⟨h.1,h.2.1,h.2.2.1⟩)),if_neg (fun h=>c2 h.2)]
 ·rw[if_neg c,if_neg (fun h=>c h.1)]
theorem Qi8 {MM MSm MA MP MG MR:Fn} {it:Itm} {pts:List Pt} (hpl:pts.length<=1000000) {marks:Rw} {g st:Pt} {gl item feed lead sp:Int} (hst:bd 67108864 st) (hpts:∀p∈pts,bd 67108864 p)
  (hM:MSm (Ag it)=some [B (decide (smI it))]) (hC:MM (Ag it)=some (ptR (A5 it)))
  (hA : ∀ {segs : List Sgm} {q at_ : Pt} {len mid : Int}, EK st segs = at_ -> bd 67108864 at_ -> bd 67108864 q -> segs.length + 1 <= 1048577 -> (0 <= len /\ len <= 4000000000000000000) ->
   MA [.view Ah (segs.map Ay), .view AB marks,I q.x,I q.y,I q.z,I g.x,I g.y,I g.z,I gl,I item,I feed,I lead,I st.x,I st.y,I st.z,B true,I len,I sp,I mid]=
   some [.view Ah ((A6 item feed lead (segs,len,at_) q).1.map Ay), .view AB marks,I st.x,I st.y,I st.z,B true,I (A6 item feed lead (segs,len,at_) q).2.1,I sp,I mid]):
  ∀(k j:Nat) (s:List Sgm×Int×Pt) (mid:Int),j+k=pts.length->s.1.length+k<=1048576->0<=s.2.1->s.2.1+k*268435456<=4000000000000000000->bd 67108864 s.2.2->EK st s.1=s.2.2->
  An (KE MM MSm MA MP MG MR) (.view Ah (s.1.map Ay):: .view AB marks:: .view kPt (pts.map ptR)::I pts.length::I j::(Ag it++[I g.x,I g.y,I g.z,I gl,I item,I feed,I lead,I st.x,I st.y,I st.z,B true,I s.2.1,I sp,I mid]))=
   some (1,[.view Ah (((pts.drop j).foldl (Dh it item feed lead) (s,mid)).1.1.map Ay), .view AB marks,I st.x,I st.y,I st.z,B true,I ((pts.drop j).foldl (Dh it item feed lead) (s,mid)).1.2.1,I sp,I ((pts.drop j).foldl (Dh it item feed lead) (s,mid)).2])
 |0,j,s,mid,hj,_,_,_,_,_=>by
  refine A7 ?_ (by simp)
  simp only[Ag,List.cons_append,List.nil_append]
  rw[Qzn,AW (by omega),List.drop_of_length_le (by omega)]
  rfl
 |k+1,j,s,mid,hj,hs,hl0,hl1,hat,he=>by
  have hlt:j<pts.length:=by omega
  have hq:=hpts _ (List.getElem_mem hlt)
  obtain⟨segs,len,at_⟩:=s
  simp only at hs hl0 hl1 hat he
  have ha:=hA (q:=pts[j]) (mid:=mid) he hat hq (by omega) (by constructor<;>omega)
  have hstep:=Qw4 (MP:=MP) (MG:=MG) (MR:=MR) hlt hpl hM hC ha
  have hinv:EK st (A6 item feed lead (segs,len,at_) pts[j]).1=(A6 item feed lead (segs,len,at_) pts[j]).2.2/\bd 67108864 (A6 item feed lead (segs,len,at_) pts[j]).2.2/\
    (A6 item feed lead (segs,len,at_) pts[j]).1.length<=segs.length+1/\0<=(A6 item feed lead (segs,len,at_) pts[j]).2.1/\(A6 item feed lead (segs,len,at_) pts[j]).2.1<=len+268435456:=by
   have hl:=HA hat hq
   unfold A6
   split
   ·exact⟨he,hat,by simp,hl0,by simp only;omega⟩
   ·refine⟨Sj _ _ _,hq,by simp,?_,?_⟩<;>simp only<;>omega
  rw[Bt hstep]
  obtain⟨i1,i2,i3,i4,i5⟩:=hinv
  have:=Qi8 (MP:=MP) (MG:=MG) (MR:=MR) hpl hst hpts hM hC hA k (j+1) (A6 item feed lead (segs,len,at_) pts[j]) (if smI it/\pts[j]=A5 it then(A6 item feed lead (segs,len,at_) pts[j]).2.1 else mid) (by omega) (by omega) i4 (by omega) i2 i1
  rw[this,NK pts j hlt,List.foldl_cons]
  rfl
theorem Q8o {it:Itm} (h:C_ it):∃l,Cs it=Ax it.fr::l:=by
 unfold Cs
 by_cases h3:it.kind=3
 ·rw[if_pos h3]
  unfold Dj
  rw[List.map_cons]
  refine⟨(Dp it.dir 16 it.full (DW it it.fr) (DW it it.to)).map (IG it),?_⟩
  congr 1
  obtain⟨hp,-,hc,-⟩:=h.2.2.2 h3
  obtain⟨f1,f2,f3⟩:=QO it.plane it.ce
  unfold IG DW
  simp only[f1,f2]
  unfold dU dW
  have e1:plU it.plane it.ce*16+(plU it.plane it.fr-plU it.plane it.ce)*16=plU it.plane it.fr*16:=by omega
  have e2:plW it.plane it.ce*16+(plW it.plane it.fr-plW it.plane it.ce)*16=plW it.plane it.fr*16:=by omega
  rw[e1,e2]
  unfold spP plU plW plH Ax
  rcases hp with hp|hp|hp<;>rw[hp]<;>rfl
 ·rw[if_neg h3];exact⟨_,rfl⟩
theorem Zbb {items:List Itm} {i:Nat} (h:C_ (itA items i)):∃l,Ch items i (-1)=Ax (itA items i).fr::l:=by
 obtain⟨l,hl⟩:=Q8o h
 unfold Ch
 split
 ·unfold I4
  rw[if_neg (by omega),hl]
  exact⟨_,rfl⟩
 ·exact⟨l,hl⟩
noncomputable def E3 (items:List Itm) (i:Nat) (s:BSt) (mid:Int):(List Sgm×Int×Pt)×Int:=
 (Ch items i s.frm).foldl (Dh (itA items i) i (Ho (itA items i) s.speed) (LX (itA items i))) ((s.segs,s.len,if s.begun=true then s.at_ else Ax (itA items i).fr),mid)
theorem Qry (items:List Itm) (i:Nat) (s:BSt) (mid:Int):(E3 items i s mid).1=Fp items i s:=by
 unfold E3 Fp
 rw[U0]
theorem Zzd {MM MSm MA MP MG MR:Fn} {items:List Itm} {i:Nat} {s:BSt} {marks:Rw} {mid:Int} (hi:i<items.length) (hlen:items.length<=15) (hv:C_ (itA items i)) (hok:BOK items i s) (hinv:BInv s)
  (hpts:(∀p∈Ch items i s.frm,bd 67108864 p)/\(Ch items i s.frm).length<=65537)
  (hfeed:syI (itA items i)->0<=(itA items i).feed/\(itA items i).feed<=60000000) (hfrm:s.begun=false->s.frm= -1)
  (hM:MSm (Ag (itA items i))=some [B (decide (smI (itA items i)))]) (hC:MM (Ag (itA items i))=some (ptR (A5 (itA items i))))
  (hG:MG (Ag (itA items i))=some [B (decide (syI (itA items i)))]) (hR:MR (Ag (itA items i)++[I s.speed])=some [I (Ho (itA items i) s.speed)])
  (hP:MP [.view Ak (items.map Ag),I i,I s.frm]=some [.view kPt ((Ch items i s.frm).map ptR)])
  (hA : ∀ {segs : List Sgm} {q g st at_ : Pt} {gl item feed lead len mid : Int}, EK st segs = at_ -> bd 67108864 at_ -> bd 67108864 q -> segs.length + 1 <= 1048577 -> (0 <= len /\ len <= 4000000000000000000) ->
   MA [.view Ah (segs.map Ay), .view AB marks,I q.x,I q.y,I q.z,I g.x,I g.y,I g.z,I gl,I item,I feed,I lead,I st.x,I st.y,I st.z,B true,I len,I s.speed,I mid]=
   some [.view Ah ((A6 item feed lead (segs,len,at_) q).1.map Ay), .view AB marks,I st.x,I st.y,I st.z,B true,I (A6 item feed lead (segs,len,at_) q).2.1,I s.speed,I mid])
  (hA0 : ∀ {q g st : Pt} {gl item feed lead len mid : Int}, MA [.view Ah [], .view AB marks, I q.x, I q.y, I q.z, I g.x, I g.y, I g.z, I gl, I item, I feed, I lead, I st.x, I st.y, I st.z, B false, I len, I s.speed, I mid] =
   some [.view Ah [], .view AB marks,I q.x,I q.y,I q.z,B true,I len,I s.speed,I mid]):
  Qb3 MM MSm MA MP MG MR (An (KE MM MSm MA MP MG MR)) [.view Ah (s.segs.map Ay), .view AB marks, .view Ak (items.map Ag),I i,I s.frm,I s.start.x,I s.start.y,I s.start.z,B s.begun,I s.len,I s.speed,I mid]=
   some [.view Ah ((E3 items i s mid).1.1.map Ay), .view AB marks,B true,I (if s.begun=true then s.start else Ax (itA items i).fr).x,I (if s.begun=true then s.start else Ax (itA items i).fr).y,I (if s.begun=true then s.start else Ax (itA items i).fr).z,B true,I (E3 items i s mid).1.2.1,I s.speed,I (E3 items i s mid).2]:=by
 have hr:=EJ hi
 have hin:(0:Int)<=(i:Int)/\(i:Int)<(items.length:Int):=by omega
 have hsg:=hok.segs
 have hln:=hok.len

 have hloop:∀lead feed:Int,An (KE MM MSm MA MP MG MR) (.view Ah (s.segs.map Ay):: .view AB marks:: .view kPt ((Ch items i s.frm).map ptR)::I (Ch items i s.frm).length::I (0:Nat)::(Ag (itA items i)++[I (⟨0,0,0⟩:Pt).x,I (⟨0,0,0⟩:Pt).y,I (⟨0,0,0⟩:Pt).z,I 0,I i,I feed,I lead,I s.start.x,I s.start.y,I s.start.z,B s.begun,I s.len,I s.speed,I mid]))=
   some (1, [.view Ah (((Ch items i s.frm).foldl (Dh (itA items i) i feed lead) ((s.segs, s.len, if s.begun = true then s.at_ else Ax (itA items i).fr), mid)).1.1.map Ay), .view AB marks, I (if s.begun = true then s.start else Ax (itA items i).fr).x, I (if s.begun = true then s.start else Ax (itA items i).fr).y, I (if s.begun = true then s.start else Ax (itA items i).fr).z, B true,
    I ((Ch items i s.frm).foldl (Dh (itA items i) i feed lead) ((s.segs,s.len,if s.begun=true then s.at_ else Ax (itA items i).fr),mid)).1.2.1,I s.speed,I ((Ch items i s.frm).foldl (Dh (itA items i) i feed lead) ((s.segs,s.len,if s.begun=true then s.at_ else Ax (itA items i).fr),mid)).2]):=by
  intro lead feed
  by_cases hb:s.begun=true
  ·obtain⟨g1,g2⟩:=hinv.begun hb
   obtain⟨g3,g4,g5⟩:=g2
   rw[if_pos hb,if_pos hb,hb]
   have:=Qi8 (MP:=MP) (MG:=MG) (MR:=MR) (g:=⟨0,0,0⟩) (gl:=0) (item:=i) (feed:=feed) (lead:=lead) (by omega) g1 hpts.1 hM hC (fun h1 h2 h3 h4 h5=>hA h1 h2 h3 h4 h5) (Ch items i s.frm).length 0 (s.segs,s.len,s.at_) mid (by omega) (by simp only;omega) hln.1 (by simp only;omega) (hok.at_ hb) g4
   rw[List.drop_zero]at this
   exact this
  ·have hb2:s.begun=false:=by simpa using hb
   obtain⟨e1,e2,e3⟩:=hinv.empty hb2
   obtain⟨l,hl⟩:=Zbb hv
   have hfr:bd 67108864 (Ax (itA items i).fr):=AU (EP hv.2.1) (by decide)
   rw[if_neg hb,if_neg hb,hb2,e1]
   rw[hfrm hb2,hl]at hpts⊢
   have h0:0<(Ax (itA items i).fr::l).length:=by simp
   have hstep:=Qw4 (MP:=MP) (MG:=MG) (MR:=MR) h0 (by omega) hM hC (hA0 (q:=Ax (itA items i).fr) (g:=⟨0,0,0⟩) (st:=s.start) (gl:=0) (item:=i) (feed:=feed) (lead:=lead) (len:=s.len) (mid:=mid))
   rw[List.map_nil,Bt hstep]
   have:=Qi8 (MP:=MP) (MG:=MG) (MR:=MR) (g:=⟨0,0,0⟩) (gl:=0) (item:=i) (feed:=feed) (lead:=lead) (by omega) hfr hpts.1 hM hC (fun h1 h2 h3 h4 h5=>hA h1 h2 h3 h4 h5) l.length 1 ([],s.len,Ax (itA items i).fr) (if smI (itA items i)/\Ax (itA items i).fr=A5 (itA items i)then s.len else mid) (by simp;omega) (by simp only[List.length_nil];simp at hpts;omega) hln.1 (by simp only;simp at hpts;omega) hfr rfl
   rw[List.drop_succ_cons,List.drop_zero]at this
   rw[List.foldl_cons]
   have e4:Dh (itA items i) i feed lead (([],s.len,Ax (itA items i).fr),mid) (Ax (itA items i).fr)=(([],s.len,Ax (itA items i).fr),if smI (itA items i)/\Ax (itA items i).fr=A5 (itA items i)then s.len else mid):=by
    unfold Dh
    rw[show A6 i feed lead ([],s.len,Ax (itA items i).fr) (Ax (itA items i).fr)=([],s.len,Ax (itA items i).fr)from if_pos rfl]
   rw[e4]
   exact this
 have hcount:∀lead feed:Int,((Ch items i s.frm).foldl (Dh (itA items i) i feed lead) ((s.segs,s.len,if s.begun=true then s.at_ else Ax (itA items i).fr),mid)).1.1.length<=1048576:=by
  intro lead feed
  rw[U0]
  have hat:bd 67108864 (if s.begun=true then s.at_ else Ax (itA items i).fr):=by
   split
   ·rename_i hb;exact hok.at_ hb
   ·exact AU (EP hv.2.1) (by decide)
  have:=(Q6 (item:=i) (feed:=feed) (lead:=lead) (Ch items i s.frm) (s.segs,s.len,if s.begun=true then s.at_ else Ax (itA items i).fr) hpts.1 hat hln.1).1
  simp only at this⊢
  omega
 generalize An (KE MM MSm MA MP MG MR)=N at*
 have hlp:=fun lead feed=>hloop lead feed
 simp only[Ag,List.cons_append,List.nil_append]at hG hR hlp
 rw[Ztr]
 simp only[go_sem,List.length_map,Int.toNat_natCast,hr,if_pos hin,hG,hR,hP]
 have h00:((0:Nat):Int)=0:=rfl
 simp only[h00]at hlp
 unfold E3 LX
 by_cases hs:syI (itA items i)
 ·have hf:=hfeed hs
  rw[if_pos hs]
  simp only[if_pos hs]
  rw[Ae (by omega)]
  simp only[hlp,go_sem,List.length_map]
  rw[decide_eq_true (show((_:Nat):Int)<=1048576 from by have:=hcount (mn ((itA items i).feed*16) 16777216) (Ho (itA items i) s.speed);omega)]
 ·rw[if_neg hs]
  simp only[if_neg hs]
  simp only[hlp,go_sem,List.length_map]
  rw[decide_eq_true (show((_:Nat):Int)<=1048576 from by have:=hcount 0 (Ho (itA items i) s.speed);omega)]
end Go.Bm
/- the program's path of up to 15 items, and what is settled of it -/
set_option maxRecDepth 100000
namespace Go.Bm
open Classical

theorem Wa {MK MV MN MS MM MC:Fn} {items:List Itm} (hM:∀k:Int,MM [I k]=some [B (decide (1<=k/\k<=6))]) (hW:∀it,MC (Ag it)=some [I (if B1 it then 1 else 0)]) (hl:items.length<=1000000):
  ∀(k i:Nat) (last:Int),i+k=items.length->(last= -1\/(0<=last/\last<i))->
  (An (O_ MK MV MN MS MM MC) [.view Ah [], .view AB [], .view Ak (items.map Ag),I last, .view Ak (items.map Ag),I items.length,I i,I 0,I 0,I 0,B false,I 0,I 0,I 0]=some (1,[.view Ah [], .view AB [],I (GS items k i last),I 0,I 0,I 0,B false,I 0,I 0,I 0])/\GS items k i last≠0)\/
  (An (O_ MK MV MN MS MM MC) [.view Ah [], .view AB [], .view Ak (items.map Ag),I last, .view Ak (items.map Ag),I items.length,I i,I 0,I 0,I 0,B false,I 0,I 0,I 0]=some (2,[.view Ah [], .view AB [], .view Ak (items.map Ag),I 0,I 0,I 0,B false,I 0,I 0,I 0])/\GS items k i last=0)
 |0,i,last,hi,_=>by
  right
  refine⟨A7 ?_ (by simp),rfl⟩
  rw[Qs9,AW (by omega)]
 |k+1,i,last,hi,hla=>by
  have hlt:i<items.length:=by omega
  have hr:=EJ hlt
  have hw:=hW (itA items i)
  have hm:=hM (itA items i).kind
  have hin:(0:Int)<=(i:Int)/\(i:Int)<(items.length:Int):=by omega
  have hst:O_ MK MV MN MS MM MC [.view Ah [], .view AB [], .view Ak (items.map Ag),I last, .view Ak (items.map Ag),I items.length,I i,I 0,I 0,I 0,B false,I 0,I 0,I 0]=
    if B1 (itA items i)then some (1,[.view Ah [], .view AB [],I 1,I 0,I 0,I 0,B false,I 0,I 0,I 0])else if AD (itA items i)then(if 0<=last/\(itA items last.toNat).to≠(itA items i).fr then some (1,[.view Ah [], .view AB [],I 13,I 0,I 0,I 0,B false,I 0,I 0,I 0])else some (0,[.view Ah [], .view AB [], .view Ak (items.map Ag),I i, .view Ak (items.map Ag),I items.length,I (i+1:Nat),I 0,I 0,I 0,B false,I 0,I 0,I 0]))
    else some (0,[.view Ah [], .view AB [], .view Ak (items.map Ag),I last, .view Ak (items.map Ag),I items.length,I (i+1:Nat),I 0,I 0,I 0,B false,I 0,I 0,I 0]):=by
   rw[Qs9]
   simp only[Ag]at hw
   simp only[go_sem,List.length_map,Int.toNat_natCast,hr,hw,hm,if_pos hin]
   rw[if_pos (by omega),Ae (by omega)]
   by_cases c1:B1 (itA items i)
   ·simp only[if_pos c1]
    rw[if_pos (by omega)]
   simp only[if_neg c1]
   rw[if_neg (by simp)]
   by_cases c2:AD (itA items i)
   ·rw[if_neg (fun h=>h c2),if_pos c2]
    rcases hla with rfl|⟨h1,h2⟩
    ·rw[if_neg (show¬(-1:Int)>=0 by omega),if_neg (fun h=>by omega)];rfl
    ·obtain⟨L,rfl⟩:=Int.eq_ofNat_of_zero_le h1
     have hL:L<items.length:=by omega
     have hin2:(0:Int)<=(L:Int)/\(L:Int)<(items.length:Int):=by omega
     have hr2:=EJ hL
     simp only[Int.toNat_natCast,hr2,go_sem,if_pos hin2]
     rw[if_pos (by omega)]
     by_cases c3:(itA items L).to=(itA items i).fr
     ·have c4:=Dz.1 c3
      rw[if_neg (fun h=>h ⟨c4.1,c4.2.1,c4.2.2,trivial⟩),if_neg (fun h=>h.2 c3)];rfl
     ·rw[if_pos (fun h=>c3 (Dz.2 ⟨h.1,h.2.1,h.2.2.1⟩)),if_pos ⟨h1,c3⟩]
   ·rw[if_pos (show¬(1<=(itA items i).kind/\(itA items i).kind<=6)from c2),if_neg c2];rfl
  unfold GS
  by_cases c1:B1 (itA items i)
  ·rw[if_pos c1]at hst⊢
   exact .inl ⟨A7 hst (by simp),by simp⟩
  ·rw[if_neg c1]at hst⊢
   by_cases c2:AD (itA items i)
   ·rw[if_pos c2]at hst⊢
    by_cases c3:0<=last/\(itA items last.toNat).to≠(itA items i).fr
    ·rw[if_pos c3]at hst⊢
     exact .inl ⟨A7 hst (by simp),by simp⟩
    ·rw[if_neg c3]at hst⊢
     rw[Bt hst]
     exact Wa hM hW hl k (i+1) i (by omega) (.inr (by omega))
   ·rw[if_neg c2]at hst⊢
    rw[Bt hst]
    exact Wa hM hW hl k (i+1) last (by omega) (by omega)

noncomputable def FR (items:List Itm):Nat->Int
 |0=> -1
 |i+1=>if AD (itA items i)then i else FR items i
theorem Qsi (items:List Itm):∀i,FR items i= -1\/∃L:Nat,FR items i=L/\L<i/\AD (itA items L)/\∀j,L<j->j<i-> ¬AD (itA items j)
 |0=> .inl rfl
 |i+1=>by
  unfold FR
  by_cases c:AD (itA items i)
  ·rw[if_pos c]
   exact .inr ⟨i,rfl,by omega,c,fun j h1 h2=>by omega⟩
  ·rw[if_neg c]
   rcases Qsi items i with h|⟨L,h1,h2,h3,h4⟩
   ·exact .inl h
   ·refine .inr ⟨L,h1,by omega,h3,fun j g1 g2=> ?_⟩
    by_cases e:j=i
    ·rw[e];exact c
    ·exact h4 j g1 (by omega)
theorem Q3o (items:List Itm):∀i,(Aw items i).frm=if 0<=FR items i/\0<=BR items (FR items i).toNat then FR items i else-1
 |0=>by rw[Aw,FR,if_neg (by omega)]
 |i+1=>by
  rw[Aw,FR]
  unfold E_
  by_cases c:AD (itA items i)
  ·rw[if_pos c,if_pos c]
   simp only[Int.toNat_natCast]
   by_cases c2:0<=BR items i
   ·rw[if_pos c2,if_pos ⟨by omega,c2⟩]
   ·rw[if_neg c2,if_neg (fun h=>c2 h.2)]
  ·rw[if_neg c,if_neg c]
   exact Q3o items i
theorem Zv1 {items:List Itm} {i L:Nat} (hL:L<i) (hi:i<items.length) (hm:AD (itA items i)) (hno:∀j,L<j->j<i-> ¬AD (itA items j)) (hs:0<=BR items L):CT items L=i:=by
 have h1:=QI hs
 rcases Qnh items L with h|⟨-,-,k,k1,k2,k3,k4,k5⟩
 ·omega
 ·have hk:CT items L=k:=by omega
  rw[hk]
  rcases Nat.lt_trichotomy k i with h|h|h
  ·exact absurd ⟨by have:=k4.1;omega,by have:=k4.1;omega⟩ (hno k k2 h)
  ·exact h
  ·have:=k5 i hL h
   have:=hm.2
   omega
noncomputable def Cr (items:List Itm):Nat->Int
 |0=>0
 |i+1=>if AD (itA items i)then(E3 items i (Aw items i) (Cr items i)).2 else Cr items i
theorem Qqj (items:List Itm):∀i,(Aw items i).begun=false->(Aw items i).frm= -1
 |0,_=>by rw[Aw]
 |i+1,h=>by
  rw[Aw]at h⊢
  unfold E_ at h⊢
  by_cases c:AD (itA items i)
  ·rw[if_pos c]at h;cases h
  ·rw[if_neg c]at h⊢
   exact Qqj items i h
noncomputable abbrev pbR (items:List Itm) (i:Nat):List AC:=
 [.view Ah ((Aw items i).segs.map Ay), .view AB ((Aw items i).marks.map As), .view Ak (items.map Ag),I (FR items i), .view Ak (items.map Ag),I items.length,I i,I (Aw items i).start.x,I (Aw items i).start.y,I (Aw items i).start.z,B (Aw items i).begun,I (Aw items i).len,I (Aw items i).speed,I (Cr items i)]
theorem Zdw {MK MV MN MS MM MC:Fn} {N6:Lp} {items:List Itm} {i:Nat} (hi:i<items.length) (hlen:items.length<=15) (hmk:(Aw items i).marks.length=i)
  (hM:∀k:Int,MM [I k]=some [B (decide (1<=k/\k<=6))]) (hS:∀L:Nat,L<items.length->MS [.view Ak (items.map Ag),I L]=some [B (decide (0<=BR items L))]) (hN:∀L:Nat,L<items.length->MN [.view Ak (items.map Ag),I L]=some [I (CT items L)])
  (hV : AD (itA items i) -> MV [.view Ah ((Aw items i).segs.map Ay), .view AB ((Aw items i).marks.map As), .view Ak (items.map Ag), I i, I (Aw items i).frm, I (Aw items i).start.x, I (Aw items i).start.y, I (Aw items i).start.z, B (Aw items i).begun, I (Aw items i).len, I (Aw items i).speed, I (Cr items i)] =
   some [.view Ah ((E3 items i (Aw items i) (Cr items i)).1.1.map Ay), .view AB ((Aw items i).marks.map As),B true,I (if(Aw items i).begun=true then(Aw items i).start else Ax (itA items i).fr).x,I (if(Aw items i).begun=true then(Aw items i).start else Ax (itA items i).fr).y,I (if(Aw items i).begun=true then(Aw items i).start else Ax (itA items i).fr).z,B true,
    I (E3 items i (Aw items i) (Cr items i)).1.2.1,I (Aw items i).speed,I (E3 items i (Aw items i) (Cr items i)).2])
  (hK : ∀ {segs : Rw} {st : Pt} {b : Bool} {len sp mid : Int}, MK [.view Ah segs, .view AB ((Aw items i).marks.map As), .view Ak (items.map Ag), I i, I st.x, I st.y, I st.z, B b, I len, I sp, I mid] =
   some [.view Ah segs, .view AB (((Aw items i).marks++[(⟨len,Jf items i,i⟩:Mrk)]).map As),I st.x,I st.y,I st.z,B b,I len,I sp,I mid]):
  Ot MK MV MN MS MM MC N6 (pbR items i)=some (0,pbR items (i+1)):=by
 have hr:=EJ hi
 have hin:(0:Int)<=(i:Int)/\(i:Int)<(items.length:Int):=by omega
 have hw:IntKind.i64.wrap ((i:Int)+1)=((i+1:Nat):Int):=by rw[Ae (by omega)];omega
 have hf:=Q3o items i
 have hls:=Qsi items i
 have hfst:=Qry items i (Aw items i) (Cr items i)
 have e1:FR items (i+1)=if AD (itA items i)then(i:Int)else FR items i:=rfl
 have e2:Cr items (i+1)=if AD (itA items i)then(E3 items i (Aw items i) (Cr items i)).2 else Cr items i:=rfl
 have e3:Aw items (i+1)=E_ items i (Aw items i):=rfl
 unfold pbR
 rw[e1,e2,e3]
 generalize Aw items i=s at*
 generalize FR items i=last at*
 generalize hmi:Cr items i=mid at*
 unfold E_
 rw[Q3k]
 by_cases hm:AD (itA items i)
 ·have h8: ¬(itA items i).kind=8:=fun h=>by have:=hm.2;omega
  have hV:=hV hm
  have hmk2:Jf items i=R7 items i:=if_pos hm
  rw[if_pos hm,if_pos hm,if_pos hm]
  rw[hfst]at hV
  have hM2:MM [I (itA items i).kind]=some [B true]:=by rw[hM,decide_eq_true (show 1<=(itA items i).kind/\(itA items i).kind<=6 from hm)]
  simp only[go_sem,List.length_map,Int.toNat_natCast,hr,if_pos hin,hM2]
  rw[if_pos (by omega),if_neg h8]
  have hbef:∀{x:Option (Nat×List AC)} {frm:Int},s.frm=frm->(MV [.view Ah (s.segs.map Ay), .view AB (s.marks.map As), .view Ak (items.map Ag),I i,I frm,I s.start.x,I s.start.y,I s.start.z,B s.begun,I s.len,I s.speed,I mid])=
    some [.view Ah ((Fp items i s).1.map Ay), .view AB (s.marks.map As),B true,I (if s.begun=true then s.start else Ax (itA items i).fr).x,I (if s.begun=true then s.start else Ax (itA items i).fr).y,I (if s.begun=true then s.start else Ax (itA items i).fr).z,B true,I (Fp items i s).2.1,I s.speed,I (E3 items i s mid).2]:=by
   intro x frm h;rw[<-h];exact hV
  rcases hls with hls|⟨L,h1,h2,h3,h4⟩
  ·rw[hls]
   rw[hls,if_neg (by omega)]at hf
   rw[if_neg (show¬(-1:Int)>=0 by omega)]
   have hv:=hbef (x:=none) hf
   simp only[hv,go_sem,hK,hw,hmk2]
   simp
  ·rw[h1]at hf⊢
   rw[Int.toNat_natCast]at hf
   have hs:=hS L (by omega)
   have hn:=hN L (by omega)
   rw[if_pos (show(L:Int)>=0 by omega)]
   by_cases c:0<=BR items L
   ·have hnx:=Zv1 h2 hi hm h4 c
    rw[if_pos ⟨by omega,c⟩]at hf
    rw[hnx]at hn
    rw[decide_eq_true c]at hs
    have hv:=hbef (x:=none) hf
    simp only[hs,hn,go_sem]
    simp only[hv,go_sem,hK,hw,hmk2]
    simp
   ·rw[if_neg (fun h=>c h.2)]at hf
    rw[decide_eq_false c]at hs
    have hv:=hbef (x:=none) hf
    simp only[hs,go_sem]
    simp only[hv,go_sem,hK,hw,hmk2]
    simp
 ·have hmk2:Jf items i=Rv (itA items i):=if_neg hm
  rw[if_neg hm,if_neg hm,if_neg hm]
  have hM2:MM [I (itA items i).kind]=some [B false]:=by rw[hM,decide_eq_false (show¬(1<=(itA items i).kind/\(itA items i).kind<=6)from hm)]
  unfold Pb
  simp only[go_sem,List.length_map,Int.toNat_natCast,hr,if_pos hin,hM2,hK,hw,hmk2]
  rw[if_pos (by omega)]
  by_cases h8:(itA items i).kind=8
  ·by_cases h3:(itA items i).n=3
   ·simp[h8,h3]
   ·by_cases h4:(itA items i).n=4
    ·simp[h8,h4]
    ·simp[h8,h3,h4]
  ·simp[h8]
end Go.Bm
