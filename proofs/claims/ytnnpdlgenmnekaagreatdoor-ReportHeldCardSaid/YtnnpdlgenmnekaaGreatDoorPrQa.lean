/- laid together -/
import Derived.Test.YtnnpdlgenmnekaaGreatDoorPrCw
import Derived.Test.YtnnpdlgenmnekaaGreatDoorPrTk4
import Derived.Test.YtnnpdlgenmnekaaGreatDoorMx3
import Derived.Test.YtnnpdlgenmnekaaGreatDoorMy1
set_option linter.unusedVariables false
set_option linter.unusedSimpArgs false
set_option maxRecDepth 100000
open Go.IntKind (wrap)
variable {i j L:Nat} {K:Go.Bm.Kf} {M Z W V T S H:Go.Bm.Fn} {a b q g:Go.Bm.Pt} {p:Go.Bm.Pth} {u d r v k y h m:Int} {l:Go.Bm.Rw} {N:Go.Bm.Lp} {z o:List Go.Bm.Itm}
namespace Go.Bm
theorem Ybi {c a:Pt} (D:bd B24 c) (G:bd B24 a) (L:a≠c) (O:0<=d/\d<=33554432)
  (N:∀{x:Int},x.natAbs<=33554432*4->x*x<=sqD a c->M [I x,I d,I (sqD a c),I 2]=some [I (A9 x d (sqD a c)),B true]/\(A9 x d (sqD a c)).natAbs<=268435456):
  Qt5 M [I c.x,I c.y,I c.z,I a.x,I a.y,I a.z,I d]=some (ptR (A4 c a d)++[B true]):=by
 obtain⟨V,X,Y⟩:=Qq1 a c;have S:=Fk G.1 D.1;have T:=Fk G.2.1 D.2.1;have U:=Fk G.2.2 D.2.2;obtain⟨n1,b1⟩:=N (x:=a.x-c.x) (bj S (by decide)) V;obtain⟨n2,b2⟩:=N (x:=a.y-c.y) (bj T (by decide)) X;obtain⟨n3,b3⟩:=N (x:=a.z-c.z) (bj U (by decide)) Y;have h6: ¬d<0:=Int.not_lt.2 O.1;have h7: ¬d>33554432:=Int.not_lt.2 O.2;rw[Znq,Zeo (AI G (by decide)) (AI D (by decide)),Ey S (by decide),Ey T (by decide),Ey U (by decide)];simp only[go_sem,n1,n2,n3];rw[ab (λh=>L (B2.2 ⟨h.1,h.2.1,h.2.2.1⟩)),ab h6,ab h7];rw[Ey (L3 D.1 b1) (by decide),Ey (L3 D.2.1 b2) (by decide),Ey (L3 D.2.2 b3) (by decide)];rfl
theorem ZJ {c a:Pt} (G:bd B24 c) (L:bd B24 a) (D:a≠c) (N:0<=d/\d<=33554432):
  G4 [I c.x,I c.y,I c.z,I a.x,I a.y,I a.z,I d]=some (ptR (A4 c a d)++[B true]):=by
 have S:sqD a c≠0:=λh=>D (Rd.1 h);have T:=Lt a c;have U:=NG (AI L (by decide)) (AI G (by decide)) (show 67108864<=67108864 by omega);refine Ybi G L D N fun{x} M O=> ?_;obtain⟨g2,-⟩:=VA M (r:=d) (by omega) (n:=sqD a c) (by omega) O;exact⟨YW (bj M (by decide)) (by omega) (by omega),g2⟩
theorem Qy3 {p c q:Pt} (D:bd B24 p) (G:bd B24 c) (L:bd B24 q):Hb [I p.x,I p.y,I p.z,I c.x,I c.y,I c.z,I q.x,I q.y,I q.z]=some [I (C4 p c q)]:=by
 have hb:=Q4q D G L;have g1:=B7 hb.1;have g2:=B7 hb.2.1;have M:=B7 hb.2.2;unfold Hb;unfold bd B24 at D G L;have w:∀u v c:Int,u.natAbs<=16777216->v.natAbs<=16777216->c.natAbs<=16777216->O (O (u+v)-O (2*c))=u-c+(v-c):=by
  intro u v c N S T;rw[Ad (x:=u+v),Ad (x:=2*c),Ad];omega
 rw[Z7y,w _ _ _ D.1 L.1 G.1,w _ _ _ D.2.1 L.2.1 G.2.1,w _ _ _ D.2.2 L.2.2 G.2.2];have e1:p.x-c.x+(q.x-c.x)=(Ea p c q).x:=rfl;have e2:p.y-c.y+(q.y-c.y)=(Ea p c q).y:=rfl;have e3:p.z-c.z+(q.z-c.z)=(Ea p c q).z:=rfl;rw[e1,e2,e3];unfold C4 IF;generalize(Ea p c q).x*(Ea p c q).x=u at*;generalize(Ea p c q).y*(Ea p c q).y=v at*;generalize(Ea p c q).z*(Ea p c q).z=w at*;rw[Ad (x:=u),Ad (x:=0+u),Ad (x:=v),Ad (x:=0+u+v),Ad (x:=w),Ad,Int.zero_add]
open Classical in
theorem Z11 {a c b:Pt} (T:bd B24 a) (U:bd B24 c) (hb:bd B24 b) (D:a≠c) (G:b≠c) (O:0<=u/\u<=16000) (hd:0<=d/\d+r<=33554432) (he:0<r) (L:r.fdiv (2^min (Int.toNat 1) IntKind.i64.bits)=v)
  (l3:0<=Au a c/\Au a c<=268435456) (l4:0<=Au c b/\Au c b<=268435456)
  (V:∀{a:Pt} {d:Int},bd B24 a->a≠c->0<=d/\d<=33554432->Z [I c.x,I c.y,I c.z,I a.x,I a.y,I a.z,I d]=some (ptR (A4 c a d)++[B true]))
  (hB:∀{p q:Pt},bd B24 p->bd B24 q->M [I p.x,I p.y,I p.z,I c.x,I c.y,I c.z,I q.x,I q.y,I q.z]=some [I (C4 p c q)]):
  NV M Z W [I u,I (mn (Au a c) (Au c b)-2),I d,I r,I a.x,I a.y,I a.z,I c.x,I c.y,I c.z,I b.x,I b.y,I b.z]=
   some (0,[I u,I (mn (Au a c) (Au c b)-2),I (if CV a c b u (d+r)then d+r else d),I v,I a.x,I a.y,I a.z,I c.x,I c.y,I c.z,I b.x,I b.y,I b.z]):=by
 obtain⟨m1,m2⟩:=PS (Au a c) (Au c b);have a0:0<=16*u*u/\16*u*u<=4096000000:=by
  have:=d8 (show 16*u<=256000 by omega) O.2 O.1 (by omega);exact⟨gz (by omega) O.1,by omega⟩
 rw[Za9,L,Ad (x:=d+r),Cz he,Ad (x:=16*u),Ad (x:=16*u*u)];by_cases h:d+r>mn (Au a c) (Au c b)-2
 ·rw[Cz h,ab (λS:CV a c b u (d+r)=>by have:=S.1;omega)]
 ·rw[AR h];have k1:bd B24 (A4 c a (d+r)):=Hv U T D (by omega);have k2:bd B24 (A4 c b (d+r)):=Hv U hb G (by rw[Oe b c];omega);have X:=V (d:=d+r) T D (by omega);have Y:=V (d:=d+r) hb G (by omega);simp only[ax,ay,ptR]at X Y;simp only[X,Y,go_sem,hB k1 k2];by_cases N:C4 (A4 c a (d+r)) c (A4 c b (d+r))<=16*u*u
  ·rw[aa N,aa (show CV a c b u (d+r)from⟨by omega,N⟩)]
  ·rw[ab N,ab (λS:CV a c b u (d+r)=>N S.2)]
open Classical in
theorem Qxb {M N ML:Fn} {a c b:Pt} {D m:Int}
  (G : ∀ {d e bit : Int}, 0 <= d /\ d + e <= 33554432 -> 0 < e -> e.fdiv (2 ^ min (Int.toNat 1) IntKind.i64.bits) = bit -> NV M N ML [I D, I m, I d, I e, I a.x, I a.y, I a.z, I c.x, I c.y, I c.z, I b.x, I b.y, I b.z] =
   some (0,[I D,I m,I (if CV a c b D (d+e)then d+e else d),I bit,I a.x,I a.y,I a.z,I c.x,I c.y,I c.z,I b.x,I b.y,I b.z])):
  ∀(k:Nat) (d:Int),0<=d/\d+((2^(k+1):Nat):Int)<=33554432->
  Al (NV M N ML) [I D,I m,I d,I ((2^k:Nat):Int),I a.x,I a.y,I a.z,I c.x,I c.y,I c.z,I b.x,I b.y,I b.z]=some (1,[I (EL (CV a c b D) k d)])
 |0,d,O=>by
  simp only[dh,Nat.pow_one]at O;have L:∀d:Int,Al (NV M N ML) [I D,I m,I d,I 0,I a.x,I a.y,I a.z,I c.x,I c.y,I c.z,I b.x,I b.y,I b.z]=some (1,[I d]):=by
   intro d;refine AJ ?_ (by simp);rw[Za9];rw[AR (by omega)]
  have S:=G (d:=d) (e:=1) (by omega) (by omega) Qse;have e:((2^0:Nat):Int)=1:=rfl;rw[e,AS S,L];rfl
 |k+1,d,O=>by
  have T:0<2^(k+1):=dv _;have e3:2^(k+1+1)=2^(k+1)+2^(k+1):=by rw[dw 2 (k+1)];omega
  rw[e3]at O;have S:=G (d:=d) (e:=((2^(k+1):Nat):Int)) (by omega) (by omega) (Xj k);rw[AS S];unfold EL;refine Qxb G k _ ?_;split<;>omega
theorem Z77 {a c b:Pt}
  (S:M [I a.x,I a.y,I a.z,I c.x,I c.y,I c.z]=some [I (Au a c)]) (T:M [I c.x,I c.y,I c.z,I b.x,I b.y,I b.z]=some [I (Au c b)])
  (V:0<=Au a c/\Au a c<=268435456) (X:0<=Au c b/\Au c b<=268435456)
  (U:a≠c->b≠c->N [I u,I (mn (Au a c) (Au c b)-2),I 0,I 16777216,I a.x,I a.y,I a.z,I c.x,I c.y,I c.z,I b.x,I b.y,I b.z]=some (1,[I (EL (CV a c b u) 24 0)])):
  Qqp Z W M N [I a.x,I a.y,I a.z,I c.x,I c.y,I c.z,I b.x,I b.y,I b.z,I u]=some [I (Cu a c b u)]:=by
 rw[Zt9];have m3:0<=mn (Au a c) (Au c b)/\mn (Au a c) (Au c b)<=268435456:=by unfold mn;split<;>omega
 unfold Cu;by_cases L:a=c
 ·rw[aa (.inl L)];have D:=B2.1 L;simp only[go_sem];rw[aa ⟨D.1,D.2.1,D.2.2,trivial⟩]
 ·by_cases D:b=c
  ·rw[aa (.inr D)];have G:=B2.1 D;simp only[go_sem];rw[ab (λh=>L (B2.2 ⟨h.1,h.2.1,h.2.2.1⟩)),aa ⟨G.1,G.2.1,G.2.2,trivial⟩]
  ·have O:=U L D;simp only[go_sem,S,T];rw[Ad];simp only[O,go_sem];rw[ab (λh=>L (B2.2 ⟨h.1,h.2.1,h.2.2.1⟩)),ab (λh=>D (B2.2 ⟨h.1,h.2.1,h.2.2.1⟩)),ab (show¬(a=c\/b=c)from λh=>h.elim L D)];by_cases G:EL (CV a c b u) 24 0<16
   ·rw[aa G,aa G]
   ·rw[ab G,ab G]
theorem Yd8 {a c b:Pt} (N:bd B24 a) (L:bd B24 c) (hb:bd B24 b) (O:0<=u/\u<=16000):
  LV [I a.x,I a.y,I a.z,I c.x,I c.y,I c.z,I b.x,I b.y,I b.z,I u]=some [I (Cu a c b u)]:=by
 have A:=AI N (show B24<=67108864 by decide);have C:=AI L (show B24<=67108864 by decide);have D:=AI hb (show B24<=67108864 by decide);exact Z77 (Qfp A C) (Qfp C D) (Gf A C) (Gf C D)
  λS T=>Qxb (λM he G=>Z11 N L hb S T O M he G (Gf A C) (Gf C D) (λhb U M=>ZJ L hb U M) λV X=>Qy3 V L X) 24 0 (by decide)
theorem Zyj {p c q:Pt} (V:M [I p.x,I p.y,I p.z,I c.x,I c.y,I c.z,I q.x,I q.y,I q.z]=some [I (C4 p c q)]):
  ∀(k:Nat) (n:Int),FL n->64<=n*2^k->Al (Rc M) [I n,I p.x,I p.y,I p.z,I c.x,I c.y,I c.z,I q.x,I q.y,I q.z]=some (1,[I (I1 (C4 p c q) k n)]):=by
 have L:∀n:Int,FL n->Rc M [I n,I p.x,I p.y,I p.z,I c.x,I c.y,I c.z,I q.x,I q.y,I q.z]=if n<64/\C4 p c q>16*n*n*n*n*4*4 then some (0,[I (n*2),I p.x,I p.y,I p.z,I c.x,I c.y,I c.z,I q.x,I q.y,I q.z])else some (1,[I n]):=by
  intro n G;rw[Yek];simp only[go_sem,V];have T:O (O (O (O (O (O (16*n)*n)*n)*n)*4)*4)=16*n*n*n*n*4*4/\O (n*2)=n*2:=by
   rcases G with rfl|rfl|rfl|rfl|rfl|rfl<;>decide
  rw[T.1,T.2];by_cases N:n<64
  ·rw[aa N];by_cases S:C4 p c q>16*n*n*n*n*4*4
   ·rw[aa S,aa ⟨N,S⟩]
   ·rw[ab S,ab (λh=>S h.2)]
  ·rw[ab N,ab (λh=>N h.1)]
 intro k;induction k with
 |zero=>
  intro n G D;have:n=64:=by rcases G with rfl|rfl|rfl|rfl|rfl|rfl<;>simp at D⊢
  subst this;refine AJ ?_ (by simp);rw[L _ G,ab];rfl
 |succ k X=>
  intro n G D;unfold I1;by_cases h:n<64/\C4 p c q>16*n*n*n*n*4*4
  ·rw[aa h];have U:=L n G;rw[aa h]at U;rw[AS U];refine X (n*2) ?_ ?_
   ·rcases G with rfl|rfl|rfl|rfl|rfl|rfl<;>simp[FL]at h⊢
   ·rw[Int.pow_succ]at D;rw[Int.mul_assoc,il 2];exact D
  ·rw[ab h];refine AJ ?_ (by simp);rw[L _ G,ab h]
theorem Ygp {p c q:Pt} (D:bd B24 p) (G:bd B24 c) (L:bd B24 q):Ky [I p.x,I p.y,I p.z,I c.x,I c.y,I c.z,I q.x,I q.y,I q.z]=some [I (Ij p c q)]:=by
 have N:=Zyj (Qy3 D G L) 5 2 (.inl rfl) (by decide);show Qcc _ (Al (Rc _)) _=_;generalize Hb=M at*;rw[Zsm];simp only[go_sem,N];rfl
theorem Zhq {α:Type} (d x:α):∀(l:List α) (i:Nat),i<l.length->nth d (l.set i x) i=x
 |a::l,0,_=>rfl
 |a::l,i+1,h=>by simp only[List.set_cons_succ,nth];exact Zhq d x l i (by simpa using h)
theorem Z2b {n i p c q:Int} (D:2<=n/\n<=64) (G:0<=i/\i<=n) (L:p.natAbs<=B24) (M:c.natAbs<=B24) (N:q.natAbs<=B24):
  CU [I (O (O (O (O (n-i)*O (n-i))*O (p-c))+O (O (i*i)*O (q-c)))),I 1,I (O (n*n)),I 2]=some [I (Bb ((n-i)*(n-i)*(p-c)+i*i*(q-c)) (n*n)),B true]:=by
 have S:0<n*n/\n*n<=4096:=⟨Int.mul_pos (by omega) (by omega),by have:=d8 D.2 D.2 (by omega) (by omega);omega⟩;have T:0<=(n-i)*(n-i)/\(n-i)*(n-i)<=4096:=⟨EY _,by have:=d8 (show n-i<=64 by omega) (show n-i<=64 by omega) (by omega) (by omega);omega⟩;have U:0<=i*i/\i*i<=4096:=⟨EY _,by have:=d8 (show i<=64 by omega) (show i<=64 by omega) (by omega) (by omega);omega⟩;unfold B24 at*;rw[Ad (x:=n-i),Ad (x:=(n-i)*(n-i)),Ad (x:=p-c),Ad (x:=i*i),Ad (x:=q-c),Ad (x:=n*n)];have m1:=ER (x:=(n-i)*(n-i)) (y:=p-c) (A:=4096) (B:=33554432) (by omega) (by omega);have m2:=ER (x:=i*i) (y:=q-c) (A:=4096) (B:=33554432) (by omega) (by omega);generalize(n-i)*(n-i)*(p-c)=u at*;generalize i*i*(q-c)=v at*;rw[Ad (x:=u),Ad (x:=v),Ad];have h:=T5 (a:=u+v) (b:=1) (c:=n*n) (by unfold i64;omega) (by unfold i64;omega) (by omega) (by rw[show(1:Int).natAbs=1 from rfl,Nat.mul_one];omega);rw[Int.mul_one]at h;exact h
theorem Zbr {MR MP MT MC:Fn} {p c q:Pt} {N:Nat} (V:2<=N/\N<=64) (G:bd B24 p) (L:bd B24 c) (M:bd B24 q)
  (T:∀{i p c q:Int},(0<=i/\i<=N)->p.natAbs<=B24->c.natAbs<=B24->q.natAbs<=B24->MR [I (O (O (O (O ((N:Int)-i)*O ((N:Int)-i))*O (p-c))+O (O (i*i)*O (q-c)))),I 1,I (O ((N:Int)*(N:Int))),I 2]=some [I (Bb (((N:Int)-i)*((N:Int)-i)*(p-c)+i*i*(q-c)) ((N:Int)*(N:Int))),B true])
  {f:Nat->List AC} (hf:∀i:Nat,f i=ptR (FT N i p c q)):
  ∀(k i:Nat),i+k=N+1->Al (Pa MR MP MT MC) [.vC kPt (Eg f [I 0,I 0,I 0] (N+1) i),I N,I (N+1:Nat),I i,I c.x,I c.y,I c.z,I p.x,I p.y,I p.z,I q.x,I q.y,I q.z]=
   some (1,[.vC kPt ((List.range (N+1)).map f)])
 |0,i,X=>by
  obtain rfl:i=N+1:=by omega
  refine AJ ?_ (by simp);rw[Qvt,Qzi,AR (by omega)]
 |k+1,i,X=>by
  have b1:=I7 (n:=N) (i:=i) (A:=B24) (by omega) (by omega) G.1 L.1 M.1;have b2:=I7 (n:=N) (i:=i) (A:=B24) (by omega) (by omega) G.2.1 L.2.1 M.2.1;have b3:=I7 (n:=N) (i:=i) (A:=B24) (by omega) (by omega) G.2.2 L.2.2 M.2.2;have Y:=T (i:=i) (by omega) G.1 L.1 M.1;have r2:=T (i:=i) (by omega) G.2.1 L.2.1 M.2.1;have r3:=T (i:=i) (by omega) G.2.2 L.2.2 M.2.2;have hs:Pa MR MP MT MC [.vC kPt (Eg f [I 0,I 0,I 0] (N+1) i),I N,I (N+1:Nat),I i,I c.x,I c.y,I c.z,I p.x,I p.y,I p.z,I q.x,I q.y,I q.z]=
    some (0,[.vC kPt (Eg f [I 0,I 0,I 0] (N+1) (i+1)),I N,I (N+1:Nat),I (i+1:Nat),I c.x,I c.y,I c.z,I p.x,I p.y,I p.z,I q.x,I q.y,I q.z]):=by
   have hlen:=Zed f [I 0,I 0,I 0] (show i<=N+1 by omega);have D:=Q8z f [I 0,I 0,I 0] (show i<N+1 by omega);rw[hf i]at D;generalize Eg f [I 0,I 0,I 0] (N+1) i=l at*;have S:∀x:List AC,nth [] (l.set i x) i=x:=λx=>Zhq _ _ _ _ (by omega);rw[Qvt];have U:(0:Int)<=(i:Int)/\(i:Int)<((N+1:Nat):Int):=by omega
   simp only[go_sem,Y,r2,r3,af,hlen,aa U,List.set_set,S,List.length_set];rw[aa];unfold Mb B24 at b1 b2 b3;rw[Ad (x:=c.x+_),Ad (x:=c.y+_),Ad (x:=c.z+_),Ad (x:=(i:Int)+1)];rw[<-D];rfl
  rw[AS hs];exact Zbr V G L M T hf k (i+1) (by omega)
theorem Z1b {a c b:Pt} (M:bd B24 a) (D:bd B24 c) (hb:bd B24 b) (ht:0<=u/\u<=16000):
  P6 [I a.x,I a.y,I a.z,I c.x,I c.y,I c.z,I b.x,I b.y,I b.z,I u]=some [.vC kPt ((Fl a c b u).map ptR)]:=by
 show Qoq _ _ _ _ (Al (Pa _ _ _ _)) _=_;have e1:=Yd8 M D hb ht;have hR:= @Z2b;generalize LV=V at*;unfold Fl;by_cases h:Cu a c b u=0
 ·rw[aa h];rw[Q82];simp only[go_sem,e1];rw[aa h];rfl
 ·rw[ab h];obtain⟨X,Y,h3,h4,h5,-⟩:=Vo h;obtain⟨m1,m2⟩:=PS (Au a c) (Au c b);have h0: ¬Cu a c b u=0:=h;generalize Cu a c b u=d at*;have k1:bd B24 (A4 c a d):=Hv D M X (by omega);have k2:bd B24 (A4 c b d):=Hv D hb Y (by rw[Oe b c];omega);have t1:=ZJ D M X (d:=d) (by omega);have t2:=ZJ D hb Y (d:=d) (by omega);have p1:=Ygp k1 D k2;have p2:=Qdm (A4 c a d) c (A4 c b d);generalize Ij (A4 c a d) c (A4 c b d)=n at*;obtain⟨N,rfl⟩:∃N:Nat,n=N:=⟨n.toNat,by rcases p2 with rfl|rfl|rfl|rfl|rfl|rfl<;>rfl⟩;have hN:2<=N/\N<=64:=by unfold FL at p2;omega
  have S:=Zbr (MR:=CU) (MP:=Ky) (MT:=G4) (MC:=V) hN k1 D k2 (λhi hp D hq=>hR (by omega) hi hp D hq) (f:=λi=>ptR (FT N i (A4 c a d) c (A4 c b d))) (λ_=>rfl) (N+1) 0 (by omega);have T:∀f:Nat->List AC,Eg f [I 0,I 0,I 0] (N+1) 0=List.replicate (N+1) [I 0,I 0,I 0]:=λf=>by unfold Eg;rw[List.range_zero,da,ay,Nat.sub_zero]
  rw[T]at S;generalize CU=MR at*;generalize Ky=MP at*;generalize G4=MT at*;generalize A4 c a d=p at*;generalize A4 c b d=q at*;rw[Q82];simp only[ax,ay,ptR]at t1 t2;have G:(List.range (N+1)).map (fun(i:Nat)=>ptR (FT N i p c q))=((List.range ((N:Int).toNat+1)).map fun(i:Nat)=>FT N i p c q).map ptR:=by rw[List.map_map,af];rfl
  rw[G]at S;generalize((List.range ((N:Int).toNat+1)).map fun(i:Nat)=>FT N i p c q).map ptR=C at*;generalize Al (Pa MR MP MT V)=L at*;have U:L [.vC kPt (List.replicate (N+1) [I 0,I 0,I 0]),I N,I (N+1:Nat),I 0,I c.x,I c.y,I c.z,I p.x,I p.y,I p.z,I q.x,I q.y,I q.z]=some (1,[.vC kPt C]):=S;have w1:O ((N:Int)+1)=((N+1:Nat):Int):=by rw[Ad];rfl
  simp only[e1,t1,t2,p1,w1,am,F1,KU,Kw,FP,gA,jA,wA,bA,af,List.length_replicate,Vq];rw[BZ (by simpa using h0),Cz trivial,BO (by simp;omega),U];rfl
end Go.Bm
namespace Go.Bm
open Classical
theorem RE (k:Int):DE [I k]=some [B (decide (1<=k/\k<=6))]:=by
 unfold DE;rw[Yiu];by_cases h:1<=k
 ·rw[Cz (show k>=1 from h)];by_cases D:k<=6
  ·rw[ah D,ah ⟨h,D⟩]
  ·rw[al D,al λG=>D G.2]
 ·rw[AR (show¬k>=1 from h),al λG=>h G.1]
theorem UZ (it:Itm):ES (Af it)=some [B (decide (smI it))]:=by
 unfold ES;rw[Yhv];by_cases h:it.aP=2
 ·rw[BO (by simp[h])];congr 2;by_cases G:it.fr=it.to
  ·have D:=B2.1 G;rw[al (λI:smI it=>I.2 G)];simp[D.1,D.2.1,D.2.2]
  ·rw[ah (show smI it from⟨h,G⟩)];have D: ¬(it.fr.x=it.to.x/\it.fr.y=it.to.y/\it.fr.z=it.to.z):=λD=>G (B2.2 D);simp only[B,AC.bool.injEq,jo,Bool.and_true];by_cases a:it.fr.x=it.to.x<;>by_cases b:it.fr.y=it.to.y<;>by_cases c:it.fr.z=it.to.z<;>simp[a,b,c]at D⊢
 ·rw[BZ (by simp[h]),al (λI:smI it=>h I.1)]
theorem TK {it:Itm} (D:bd 1048576 it.fr) (G:bd 1048576 it.to):Gm (Af it)=some (ptR (A2 it)):=by
 obtain⟨a1,a2,a3⟩:=D;obtain⟨b1,b2,b3⟩:=G;unfold Gm;rw[Zva,Ad (x:=it.fr.x+it.to.x),Ad (x:=(it.fr.x+it.to.x)*8),Ad (x:=it.fr.y+it.to.y),Ad (x:=(it.fr.y+it.to.y)*8),Ad (x:=it.fr.z+it.to.z),Ad (x:=(it.fr.z+it.to.z)*8)];rfl
theorem Yip (h:bd 100000000 a):OH [I a.x,I a.y,I a.z]=some (ptR (Av a)):=by
 unfold OH;rw[Zuf];obtain⟨D,G,L⟩:=h;rw[Ad,Ad,Ad];rfl
theorem Qz3 (it:Itm):HO (Af it)=some [B (decide (syI it))]:=by
 unfold HO;rw[Z08];by_cases D:it.aP=5
 ·rw[BO (by simp[D]),ah (show syI it from .inl D)]
 ·rw[BZ (by simp[D])];by_cases G:it.aP=6
  ·rw[ah (show syI it from .inr G)];simp[G]
  ·rw[al (show¬syI it from λh=>h.elim D G)];simp[G]
theorem Z06 {it:Itm} (hM:Z [I it.aP]=some [B (decide (1<=it.aP/\it.aP<=6))]) (hV:∃v,M (Af it)=some [B v]/\(v=true↔BI it)):
  Qlp M Z (Af it)=some [I (if Bp it then 1 else 0)]:=by
 obtain⟨v,hv,N⟩:=hV;have D:∀{x:Int},(Bp it->x=1)->(¬Bp it->x=0)->some [I x]=some [I (if Bp it then 1 else 0)]:=by
  intro x h1 h2;by_cases c:Bp it
  ·rw[aa c,h1 c]
  ·rw[ab c,h2 c]
 rw[Zxt];simp only[go_sem,hM,hv];unfold Bp AB at D⊢;have one:∀{P:Prop},P->(P->(1:Int)=1)/\(¬P->(1:Int)=0):=λh=>⟨λ_=>rfl,λg=>absurd h g⟩;have zero:∀{P:Prop},¬P->(P->(0:Int)=1)/\(¬P->(0:Int)=0):=λh=>⟨λg=>absurd g h,λ_=>rfl⟩;by_cases O:it.aP<1
 ·rw[aa O];exact D (λ_=>rfl) λg=>absurd (.inl O) g
 rw[ab O];by_cases S:it.aP>14
 ·rw[aa S];exact D (λ_=>rfl) λg=>absurd (.inr (.inl S)) g
 rw[ab S];by_cases G:1<=it.aP/\it.aP<=6
 ·simp only[aa G];have T:it.aP≠8:=by omega
  simp only[ab T];by_cases L:BI it
  ·rw[ab (by simp[N.2 L])];by_cases U:it.bH<0
   ·rw[aa U];exact D (λ_=>rfl) λg=>absurd (.inr (.inr (.inl ⟨G, .inr (.inr (.inl U))⟩))) g
   rw[ab U];by_cases V:it.bH>1000
   ·rw[aa V];exact D (λ_=>rfl) λg=>absurd (.inr (.inr (.inl ⟨G, .inr (.inr (.inr V))⟩))) g
   rw[ab V];by_cases X:it.aP=1
   ·rw[ab (show¬it.aP≠1 by omega)];refine D (λg=> ?_) λ_=>rfl;rcases g with g|g|⟨-,g|g|g|g⟩|g
    ·omega
    ·omega
    ·exact absurd L g
    ·omega
    ·omega
    ·omega
    ·omega
   ·rw[aa X];by_cases Y:it.aZ<1
    ·rw[aa Y];exact D (λ_=>rfl) λg=>absurd (.inr (.inr (.inl ⟨G, .inr (.inl ⟨X, .inl Y⟩)⟩))) g
    rw[ab Y];by_cases c9:it.aZ>60000000
    ·rw[aa c9];exact D (λ_=>rfl) λg=>absurd (.inr (.inr (.inl ⟨G, .inr (.inl ⟨X, .inr c9⟩)⟩))) g
    rw[ab c9];refine D (λg=> ?_) λ_=>rfl;rcases g with g|g|⟨-,g|g|g|g⟩|g
    ·omega
    ·omega
    ·exact absurd L g
    ·omega
    ·omega
    ·omega
    ·omega
  ·rw[aa (λh=>L (N.1 h))];exact D (λ_=>rfl) λg=>absurd (.inr (.inr (.inl ⟨G, .inl L⟩))) g
 ·simp only[ab G];by_cases L:it.aP=8
  ·rw[aa L];by_cases d1:it.n<3
   ·rw[aa d1];exact D (λ_=>rfl) λg=>absurd (.inr (.inr (.inr ⟨G,L, .inl d1⟩))) g
   rw[ab d1];by_cases d2:it.n>5
   ·rw[aa d2];exact D (λ_=>rfl) λg=>absurd (.inr (.inr (.inr ⟨G,L, .inr (.inl d2)⟩))) g
   rw[ab d2];by_cases d3:it.aS<0
   ·rw[aa d3];exact D (λ_=>rfl) λg=>absurd (.inr (.inr (.inr ⟨G,L, .inr (.inr (.inl d3))⟩))) g
   rw[ab d3];by_cases d4:it.aS>30000
   ·rw[aa d4];exact D (λ_=>rfl) λg=>absurd (.inr (.inr (.inr ⟨G,L, .inr (.inr (.inr d4))⟩))) g
   rw[ab d4];refine D (λg=> ?_) λ_=>rfl;rcases g with g|g|⟨g,-⟩|⟨-,-,g⟩
   ·omega
   ·omega
   ·exact absurd g G
   ·omega
  ·rw[ab L];refine D (λg=> ?_) λ_=>rfl;rcases g with g|g|⟨g,-⟩|⟨-,g,-⟩
   ·omega
   ·omega
   ·exact absurd g G
   ·omega
theorem Yhm (it:Itm):Jm (Af it)=some [I (if Bp it then 1 else 0)]:=Z06 (RE _) (Qr5 it)
def C8:List Itm->Nat->Nat
 |[],k=>k
 |it::l,k=>if it.aP=10 then C8 l (k+1)else k
def Dg (aA:List Itm) (i:Nat):Nat:=C8 (aA.drop (i+1)) (i+1)
theorem Qri:∀(l:List Itm) (k:Nat),k<=C8 l k/\C8 l k<=k+l.length
 |[],k=>by simp[C8]
 |it::l,k=>by
  unfold C8;split
  ·have:=Qri l (k+1);simp;omega
  ·simp
theorem Q5w:∀(l:List Itm) (k:Nat),E9 l k=if C8 l k-k<l.length/\smI (l.getD (C8 l k-k) it0)then(C8 l k:Int)else-1
 |[],k=>by simp[E9]
 |it::l,k=>by
  have L:=Qri l (k+1);by_cases D:it.aP=10
  ·have e1:E9 (it::l) k=E9 l (k+1):=by rw[E9,aa D]
   have e2:C8 (it::l) k=C8 l (k+1):=by rw[C8,aa D]
   rw[e1,e2,Q5w l (k+1)];have e3:C8 l (k+1)-k=(C8 l (k+1)-(k+1))+1:=by omega
   rw[e3,List.getD_cons_succ];by_cases c:C8 l (k+1)-(k+1)<l.length
   ·have I:C8 l (k+1)-(k+1)+1<(it::l).length:=by simp;omega
    by_cases G:smI (l.getD (C8 l (k+1)-(k+1)) it0)
    ·rw[aa ⟨c,G⟩,aa ⟨I,G⟩]
    ·rw[ab (λg=>G g.2),ab (λg=>G g.2)]
   ·rw[ab (λg=>c g.1),ab (λg=>c (by have:=g.1;simp at this;omega))]
  ·have e1:E9 (it::l) k=if smI it then(k:Int)else-1:=by rw[E9,ab D]
   have e2:C8 (it::l) k=k:=by rw[C8,ab D]
   rw[e1,e2,i6,List.getD_cons_zero];by_cases c:smI it
   ·rw[aa c,aa ⟨by simp,c⟩]
   ·rw[ab c,ab (λg=>c g.2)]
theorem Q7f {aA:List Itm} (N:aA.length<=1000000):∀(k i:Nat),i+k=aA.length->
  Al Qz [.vC Ae (aA.map Af),I i]=some (1,[I (C8 (aA.drop i) i)])
 |0,i,O=>by
  refine AJ ?_ (by simp);rw[Zc6];simp only[go_sem,ac];rw[ab,cz (by omega)];rfl
 |k+1,i,O=>by
  have G:i<aA.length:=by omega
  have S:=CO G;rw[RS G];have D:Qz [.vC Ae (aA.map Af),I i]=if(vE aA i).aP=10 then some (0,[.vC Ae (aA.map Af),I (i+1:Nat)])else some (1,[I i]):=by
   rw[Zc6];have M:(0:Int)<=(i:Int)/\(i:Int)<(aA.length:Int):=by omega
   simp only[go_sem,ac,af,S,aa M];rw[aa,Ad];rfl
  unfold C8;by_cases L:(vE aA i).aP=10
  ·rw[aa L]at D⊢;rw[AS D];exact Q7f N k (i+1) (by omega)
  ·rw[ab L]at D⊢;exact AJ D (by simp)
theorem Qez (D:z.length<=1000000) {i:Nat} (G:i<z.length):Fo [.vC Ae (z.map Af),I i]=some [I (Dg z i)]:=by
 show Qhk (Al Qz) _=_;have h:=Q7f D (z.length-(i+1)) (i+1) (by omega);rw[Zyd,Ad,show(i:Int)+1=((i+1:Nat):Int) by omega,h];rfl
theorem Q8d:Bf z i=if smI (vE z i)/\(vE z i).bH≠0/\Dg z i<z.length/\smI (vE z (Dg z i))then(Dg z i:Int)else-1:=by
 unfold Bf;by_cases h:smI (vE z i)/\(vE z i).bH≠0
 ·rw[aa h,Q5w];have D:=Qri (z.drop (i+1)) (i+1);rw[dc]at D;have e:(z.drop (i+1)).getD (C8 (z.drop (i+1)) (i+1)-(i+1)) it0=vE z (Dg z i):=by
   unfold vE;rw[eg,fd,eg];have:i+1+(C8 (z.drop (i+1)) (i+1)-(i+1))=Dg z i:=by unfold Dg;omega
   rw[this]
  rw[e,dc];have e2:C8 (z.drop (i+1)) (i+1)=Dg z i:=rfl;rw[e2]at D⊢;by_cases c:Dg z i<z.length/\smI (vE z (Dg z i))
  ·rw[aa ⟨by omega,c.2⟩,aa ⟨h.1,h.2,c⟩]
  ·rw[ab (λg=>c ⟨by have:=g.1;omega,g.2⟩),ab (λg=>c g.2.2)]
 ·rw[ab h,ab (λg=>h ⟨g.1,g.2.1⟩)]
theorem Z4b (V:∀it,M (Af it)=some [B (decide (smI it))]) {i:Nat} (Y:i<z.length) (hN:Z [.vC Ae (z.map Af),I i]=some [I (Dg z i)]):
  Yg M Z [.vC Ae (z.map Af),I i]=some [B (decide (0<=Bf z i))]:=by
 have hr:=CO Y;have X:=V (vE z i);rw[Z9d,Q8d];simp only[Af]at X;have S:(0:Int)<=(i:Int)/\(i:Int)<(z.length:Int):=by omega
 simp only[go_sem,ac,af,hr,X,hN,aa S];by_cases L:smI (vE z i)
 case neg=>rw[ab L,ab (λg=>L g.1)];simp
 rw[aa L];by_cases N:(vE z i).bH=0
 ·rw[ab (by simp[N]),ab (λg=>g.2.1 N)];simp
 rw[aa N];by_cases T:Dg z i<z.length
 ·have U:=CO T;have D:=V (vE z (Dg z i));simp only[Af]at D;have G:(0:Int)<=(Dg z i:Int)/\(Dg z i:Int)<(z.length:Int):=by omega
  rw[aa,aa G];simp only[go_sem,U,D];by_cases O:smI (vE z (Dg z i))
  ·rw[ah O,aa ⟨L,N,T,O⟩,ah (by omega)]
  ·rw[al O,ab (λg=>O g.2.2.2)];simp
 ·rw[ab,ab (λg=>T g.2.2.1)];simp
theorem Qvr (G:z.length<=1000000) {i:Nat} (D:i<z.length):Hs [.vC Ae (z.map Af),I i]=some [B (decide (0<=Bf z i))]:=
 Z4b UZ D (Qez G D)
theorem Ub (h:0<=Bf z i):Bf z i=Dg z i:=by
 rw[Q8d]at h⊢;split at h
 ·rename_i c;rw[aa c]
 ·omega
theorem Zu4 {a c b:Pt} (G:bd B24 a) (D:bd B24 c) (hb:bd B24 b):(Fl a c b u).length%2=1:=by
 unfold Fl;by_cases h:Cu a c b u=0
 ·rw[aa h];rfl
 ·rw[ab h];obtain⟨I,L,N,O,S,-⟩:=Vo h;obtain⟨m1,m2⟩:=PS (Au a c) (Au c b);generalize Cu a c b u=d at*;have T:bd B24 (A4 c a d):=Hv D G I (by omega);have U:bd B24 (A4 c b d):=Hv D hb L (by rw[Oe b c];omega);have M:=Qdm (A4 c a d) c (A4 c b d);generalize Ij (A4 c a d) c (A4 c b d)=n at*;rw[ac,List.length_range];rcases M with rfl|rfl|rfl|rfl|rfl|rfl<;>rfl
theorem Z1r {a b:Itm} {l:List Pt} (S:0<=a.bH/\a.bH<=1000) (U:1<=l.length/\l.length<=65) (D:l.length%2=1)
  (G:W (Af a)=some (ptR (A2 a))) (L:W (Af b)=some (ptR (A2 b))) (T:Z [I a.to.x,I a.to.y,I a.to.z]=some (ptR (Av a.to)))
  (N:M (ptR (A2 a)++ptR (Av a.to)++ptR (A2 b)++[I (a.bH*16)])=some [.vC kPt (l.map ptR)]):
  Qle M Z W (Af a++Af b)=some [.vC kPt ((l.take (l.length/2+1)).map ptR), .vC kPt ((l.drop (l.length/2)).map ptR)]:=by
 simp only[Af,ax,ay]at G L⊢;rw[Yir];simp only[ptR,ax,ay]at N;simp only[go_sem,G,L,T];rw[Ad];simp only[N,go_sem,ac];have e:O ((O ((l.length:Int)-1)).tdiv 2)=((l.length/2:Nat):Int):=by
  rw[Ad (x:=(l.length:Int)-1),co (by omega),Ad];omega
 have e2:O (((l.length/2:Nat):Int)+1)=((l.length/2+1:Nat):Int):=by rw[Ad];omega
 simp only[e,e2,af];rw[aa,aa,jp,jq]
theorem Zta {a b:Itm} (D:drawn a) (G:drawn b):
  RF (Af a++Af b)=some [.vC kPt (((Fl (A2 a) (Av a.to) (A2 b) (a.bH*16)).take ((Fl (A2 a) (Av a.to) (A2 b) (a.bH*16)).length/2+1)).map ptR), .vC kPt (((Fl (A2 a) (Av a.to) (A2 b) (a.bH*16)).drop ((Fl (A2 a) (Av a.to) (A2 b) (a.bH*16)).length/2)).map ptR)]:=
 have I:=I_ D.1.2.1 D.1.2.2.1;have L:=DA D.1.2.2.1;have M:=I_ G.1.2.1 G.1.2.2.1
 Z1r D.2 (Q5d I L M).2 (Zu4 I L M) (TK D.1.2.1 D.1.2.2.1) (TK G.1.2.1 G.1.2.2.1) (Yip (AI D.1.2.2.1 (by decide))) (Z1b I L M (by have:=D.2;omega))
theorem Z60 (hi:i<z.length) (hd:drawn (vE z i)) (hf:Jq z i u) (U:∀k<z.length,AB (vE z k)->drawn (vE z k))
  (hK:S (Af (vE z i))=some [.vC kPt ((Bs (vE z i)).map ptR),B true]) (hM:T (Af (vE z i))=some [B (decide (smI (vE z i)))])
  (hJ:∀{i k:Nat},i<z.length->k<z.length->drawn (vE z i)->drawn (vE z k)->V (Af (vE z i)++Af (vE z k))=some [.vC kPt (((C5 z i k).take ((C5 z i k).length/2+1)).map ptR), .vC kPt (((C5 z i k).drop ((C5 z i k).length/2)).map ptR)])
  (hS:W [.vC Ae (z.map Af),I i]=some [B (decide (0<=Bf z i))]) (hN:Z [.vC Ae (z.map Af),I i]=some [I (Dg z i)]) (hC:M (Af (vE z i))=some (ptR (A2 (vE z i)))):
  Xh M Z W V T S [.vC Ae (z.map Af),I i,I u]=some [.vC kPt ((Bo z i u).map ptR)]:=by
 have r1:=CO hi;obtain⟨a7,a8⟩:=Qcm (vE z i);rw[Ztr];simp only[Af,ax,ay]at hK hM hC hJ;have a4:(0:Int)<=(i:Int)/\(i:Int)<(z.length:Int):=by omega
 simp only[go_sem,ac,af,r1,hK,hM,hC,hS,hN,ay,aa a4];unfold Bo;by_cases hs:smI (vE z i)
 case neg=>rw[aa (by simp[hs]),ab hs]
 rw[ab (by simp[hs]),aa hs];have a5:(vE z i).aP≠3:=by have:=hs.1;omega
 have X:(Bs (vE z i)).length=2:=by unfold Bs;rw[ab a5];rfl
 have w1:O (((Bs (vE z i)).length:Int)-1)=1:=by rw[X];rfl
 rw[w1,X,aa,aa];unfold JE;rcases hf with rfl|⟨f,rfl,a1,a2⟩
 ·rw[ab (show¬(-1:Int)>=0 by omega)];unfold HQ;rw[ab (show¬(0:Int)<= -1 by omega)];by_cases D:0<=Bf z i
  ·obtain⟨k,hk,G,L⟩:=P0 U D;have Y:=Ub D;rw[hk]at Y;have a0:Dg z i=k:=by omega
   obtain⟨j1,j2,j3⟩:=Ig (aA:=z) (i:=i) (k:=k) hd L;have hj:=hJ hi G hd L;have r2:=CO G;have N:(0:Int)<=(k:Int)/\(k:Int)<(z.length:Int):=by omega
   rw[aa D,aa D,hk,a0,af,aa N];simp only[go_sem,af,r2,hj];rw[aa (by simp[Lk];omega),aa (by simp;omega),aa (by simp;omega)];simp only[Lk,bp,be,da]
  ·rw[ab D,ab D,aa (by simp[Lk];omega),aa (by simp;omega),aa (by simp;omega)];simp only[Lk,UA,bp,be,da]
 ·have a6:=hJ a1 hi a2 hd;obtain⟨f1,f2,f3⟩:=Ig (aA:=z) (i:=f) (k:=i) a2 hd;have rf:=CO a1;have a3:(0:Int)<=(f:Int)/\(f:Int)<(z.length:Int):=by omega
  rw[aa (show(f:Int)>=0 by omega),aa a3];unfold HQ;rw[aa (show(0:Int)<=(f:Int) by omega),af];simp only[rf,go_sem,a6,af];by_cases D:0<=Bf z i
  ·obtain⟨k,hk,G,L⟩:=P0 U D;have Y:=Ub D;rw[hk]at Y;have a0:Dg z i=k:=by omega
   obtain⟨j1,j2,j3⟩:=Ig (aA:=z) (i:=i) (k:=k) hd L;have hj:=hJ hi G hd L;have r2:=CO G;have N:(0:Int)<=(k:Int)/\(k:Int)<(z.length:Int):=by omega
   rw[aa D,aa D,hk,a0,af,aa N];simp only[go_sem,af,r2,hj];rw[aa (by simp;omega),aa (by simp;omega),aa (by simp;omega)];simp only[bp,be,da]
  ·rw[ab D,ab D,aa (by simp;omega),aa (by simp;omega),aa (by simp;omega)];simp only[UA,bp,be,da]
theorem Z8b (M:z.length<=1000000) {i:Nat} {frm:Int} (L:i<z.length) (G:drawn (vE z i)) (hf:Jq z i frm) (D:∀k<z.length,AB (vE z k)->drawn (vE z k)):
  Ni [.vC Ae (z.map Af),I i,I frm]=some [.vC kPt ((Bo z i frm).map ptR)]:=
 Z60 L G hf D (Yhn G.1) (UZ _) (λS T N O=>Zta N O) (Qvr M L) (Qez M L) (TK G.1.2.1 G.1.2.2.1)
theorem Q4u {N MS:Fn} {l:List Itm} (T:∀k:Int,N [I k]=some [B (decide (1<=k/\k<=6))]) (U:∀it,MS (Af it)=some [B (decide (syI it))]) (X:l.length<=1000000):∀(k i:Nat),i+k=l.length->
  (Al (Lj N MS) [.vC Ae (l.map Af),I l.length,I i]=some (1,[B (decide (EE (l.drop i)=1))]))\/(Al (Lj N MS) [.vC Ae (l.map Af),I l.length,I i]=some (2,[])/\EE (l.drop i)=2)
 |0,i,Y=>by
  right;refine⟨AJ ?_ (by simp),by rw[cz (by omega)];rfl⟩;rw[Q2q];simp only[go_sem];rw[ab]
 |k+1,i,Y=>by
  have L:i<l.length:=by omega
  have hr:=CO L;rw[RS L];have V:=U (vE l i);have hm:=T (vE l i).aP;have D:Lj N MS [.vC Ae (l.map Af),I l.length,I i]=if AB (vE l i)then some (1,[B (decide (syI (vE l i)))])else some (0,[.vC Ae (l.map Af),I l.length,I (i+1:Nat)]):=by
   rw[Q2q];simp only[Af]at V;have S:(0:Int)<=(i:Int)/\(i:Int)<(l.length:Int):=by omega
   simp only[go_sem,ac,af,hr,V,hm,aa S];rw[aa,Ad];by_cases O:AB (vE l i)
   ·rw[aa (show 1<=(vE l i).aP/\(vE l i).aP<=6 from O),aa O]
   ·rw[ab (show¬(1<=(vE l i).aP/\(vE l i).aP<=6)from O),ab O];rfl
  unfold EE;by_cases M:AB (vE l i)
  ·rw[aa M]at D⊢;left;rw[AJ D (by simp)];by_cases G:syI (vE l i)
   ·rw[aa G,ah G];rfl
   ·rw[ab G,al G];rfl
  ·rw[ab M]at D⊢;rw[AS D];exact Q4u T U X k (i+1) (by omega)
def I6 (aA:List Itm) (i:Nat):Prop:=(vE aA i).bH=0\/syI (vE aA i)\/EE (aA.drop (i+1))=1
theorem Ybo (hM:∀k:Int,M [I k]=some [B (decide (1<=k/\k<=6))]) (Y:∀it,Z (Af it)=some [B (decide (syI it))]) (hl:z.length<=1000000) {i:Nat} (hi:i<z.length):
  Qti M Z (Al (Lj M Z)) [.vC Ae (z.map Af),I i]=some [B (decide (I6 z i))]:=by
 have hr:=CO hi;have hs:=Y (vE z i);have G:=Q4u hM Y (l:=z.drop (i+1)) (by rw[dc];omega) (z.drop (i+1)).length 0 (by omega);rw[fh]at G;rw[Z7i];simp only[Af]at hs;have hw:O ((i:Int)+1)=((i+1:Nat):Int):=by rw[Ad];omega
 have V:(0:Int)<=(i:Int)/\(i:Int)<(z.length:Int):=by omega
 have L:(0:Int)<=((i+1:Nat):Int)/\((i+1:Nat):Int)<=(z.length:Int):=by omega
 have X:(List.drop (i+1) (z.map Af)).length=(z.drop (i+1)).length:=by rw[dc,dc,ac]
 generalize Al (Lj M Z)=N at*;simp only[go_sem,ac,af,hr,hs,hw,aa V,aa L,X];rw[<-jq];by_cases S:(vE z i).bH=0
 ·rw[aa S,ah (show I6 z i from .inl S)]
 ·rw[ab S];by_cases T:syI (vE z i)
  ·rw[aa T,ah (show I6 z i from .inr (.inl T))]
  ·rw[ab T];rcases G with G|⟨G,hn⟩
   ·have D:N [.vC Ae ((z.drop (i+1)).map Af),I (z.drop (i+1)).length,I 0]=some (1,[B (decide (EE (z.drop (i+1))=1))]):=G;simp only[D,go_sem];by_cases U:EE (z.drop (i+1))=1
    ·rw[ah U,ah (show I6 z i from .inr (.inr U))]
    ·rw[al U,al (show¬I6 z i from λh=>h.elim S λh=>h.elim T U)]
   ·have D:N [.vC Ae ((z.drop (i+1)).map Af),I (z.drop (i+1)).length,I 0]=some (2,[]):=G;simp only[D,go_sem];rw[al (show¬I6 z i from λh=>h.elim S λh=>h.elim T λh=>by rw[hn]at h;cases h)];simp
theorem Yin (D:z.length<=1000000) {i:Nat} (G:i<z.length):R5 [.vC Ae (z.map Af),I i]=some [B (decide (I6 z i))]:=Ybo RE Qz3 D G
def JP (aA:List Itm) (i:Nat):Int:=if AB (vE aA i)then E5 aA i else Kl (vE aA i)
theorem Yj7 {aF:Rw} {aD:List Mrk} {b:Bool} (X:i<z.length) (Y:aD.length<=1000000)
  (hM:Z [I (vE z i).aP]=some [B (decide (AB (vE z i)))]) (hE:M [.vC Ae (z.map Af),I i]=some [B (decide (I6 z i))]):
  Qmq M Z [.vC Ag aF, .vC AA (aD.map Aq), .vC Ae (z.map Af),I i,I a.x,I a.y,I a.z,B b,I u,I d,I r]=
   some [.vC Ag aF, .vC AA ((aD++[(⟨u,JP z i,i⟩:Mrk)]).map Aq),I a.x,I a.y,I a.z,B b,I u,I d,I r]:=by
 have hr:=CO X;have T:(0:Int)<=(i:Int)/\(i:Int)<(z.length:Int):=by omega
 have hb:(aD.length+1)*24<=140737488355328:=by omega
 have e:∀k:Int,aD.map Aq++[[I u,I k,I i]]=(aD++[(⟨u,k,i⟩:Mrk)]).map Aq:=λk=>by rw[bp];rfl
 rw[Yiw];simp only[go_sem,ac,af,hr,aa T,hM,hE,ap,bf,bv,aa hb];have fin:∀{k:Int},k=JP z i->some [AC.vC Ag aF, .vC AA (aD.map Aq++[[I u,I k,I i]]),I a.x,I a.y,I a.z,B b,I u,I d,I r]=some [.vC Ag aF, .vC AA ((aD++[(⟨u,JP z i,i⟩:Mrk)]).map Aq),I a.x,I a.y,I a.z,B b,I u,I d,I r]:=by
  intro k hk;rw[e,hk]
 unfold JP E5 Kl at fin⊢;by_cases O:(vE z i).aP=4
 ·rw[aa O];have D:AB (vE z i):=⟨by omega,by omega⟩;exact fin (by rw[aa D,aa O])
 ·rw[ab O];by_cases D:AB (vE z i)
  ·rw[aa D];by_cases N:I6 z i
   ·rw[aa N];refine fin ?_;rw[aa D,ab O];rcases N with h|h|h
    ·rw[aa h]
    ·by_cases S:(vE z i).bH=0
     ·rw[aa S]
     ·rw[ab S,aa h]
    ·by_cases S:(vE z i).bH=0
     ·rw[aa S]
     ·rw[ab S];by_cases V:syI (vE z i)
      ·rw[aa V]
      ·rw[ab V,h]
   ·rw[ab N,aa D];refine fin ?_;rw[aa D,ab O,ab (λh=>N (.inl h)),ab (λh=>N (.inr (.inl h)))];have U:∀l:List Itm,EE l=1\/EE l=2:=by
     intro l;induction l with
     |nil=>right;rfl
     |cons it l ih=>
      unfold EE;split
      ·split<;>simp
      ·exact ih
    rcases U (z.drop (i+1))with h|h
    ·exact absurd (.inr (.inr h)) N
    ·rw[h]
  ·rw[ab D,ab D];by_cases G:(vE z i).aP=10
   ·rw[aa G];exact fin (by rw[ab D,aa G])
   ·rw[ab G];by_cases L:(vE z i).aP=13
    ·rw[aa L];exact fin (by rw[ab D,ab G,aa L])
    ·rw[ab L];exact fin (by rw[ab D,ab G,ab L])
theorem Z1i (O:z.length<=1000000) {i:Nat} {aF:Rw} {aD:List Mrk} {D:Pt} {b:Bool} {len M G:Int} (N:i<z.length) (L:aD.length<=1000000):
  Jf [.vC Ag aF, .vC AA (aD.map Aq), .vC Ae (z.map Af),I i,I D.x,I D.y,I D.z,B b,I len,I M,I G]=
   some [.vC Ag aF, .vC AA ((aD++[(⟨len,JP z i,i⟩:Mrk)]).map Aq),I D.x,I D.y,I D.z,B b,I len,I M,I G]:=
 Yj7 N L (RE _) (Yin O N)
theorem Zxm (a:Pt) (aF:List Sgm):aF=[]\/∃l g,aF=l++[g]/\Fp a aF=g.to/\((aF.length:Int)>0)/\nth [] (aF.map Az) (aF.length-1)=Az g:=by
 rcases List.eq_nil_or_concat aF with h|⟨l,g,h⟩
 ·exact .inl h
 ·right;rw[List.concat_eq_append]at h;refine⟨l,g,h,?_,?_,?_⟩
  ·rw[h];exact S8 g a l
  ·rw[h];simp
  ·have D:aF.length-1<aF.length:=by rw[h];simp
   rw[Em _ _ _ _ D];congr 1;subst h;simp
theorem Zzy:
  Tq M [.vC Ag [], .vC AA l,I q.x,I q.y,I q.z,I g.x,I g.y,I g.z,I u,I d,I r,I v,I a.x,I a.y,I a.z,B false,I k,I y,I h]=
   some [.vC Ag [], .vC AA l,I q.x,I q.y,I q.z,B true,I k,I y,I h]:=by
 rw[Ze1];simp
theorem Zqh {aF:List Sgm} {aD:Rw} (G:Fp a aF=b)
  (S:M [I b.x,I b.y,I b.z,I q.x,I q.y,I q.z]=some [I (Au b q)]) (hl:0<=Au b q/\Au b q<=268435456) (hs:aF.length+1<=1048577) (hlen:0<=k/\k<=4000000000000000000):
  Tq M [.vC Ag (aF.map Az), .vC AA aD,I q.x,I q.y,I q.z,I g.x,I g.y,I g.z,I u,I d,I r,I v,I a.x,I a.y,I a.z,B true,I k,I y,I m]=
   some [.vC Ag ((AP d r v (aF,k,b) q).1.map Az), .vC AA aD,I a.x,I a.y,I a.z,B true,I (AP d r v (aF,k,b) q).2.1,I y,I m]:=by
 have L:(aF.map Az++[[I q.x,I q.y,I q.z,I (Au b q),I d,I r,I v]])=(aF++[(⟨q,Au b q,d,r,v⟩:Sgm)]).map Az:=by rw[bp];rfl
 rw[Ze1];try dsimp only[go_sem]
 rcases Zxm a aF with h|⟨l,s,V,T,X,Y⟩
 ·subst h;have N:a=b:=G;subst N;simp only[da,bv];rw[AR (by decide),Bool.not_true,aq];by_cases c:q=a
  ·have D:=B2.1 c;rw[BO (by simp[D.1,D.2.1,D.2.2]),show AP d r v ([],k,a) q=([],k,a)from aa c];rfl
  ·rw[BZ,S]
   ·simp only[am,F1,FP,gA,jA,wA,bA,ay,bf,bv];rw[BO (by decide),show AP d r v ([],k,a) q=([⟨q,Au a q,d,r,v⟩],k+Au a q,q)from ab c,Ad];rfl
   ·have c2: ¬(q.x=a.x/\q.y=a.y/\q.z=a.z):=λg=>c (B2.2 g);simp only[Bool.and_true,Bool.and_eq_false_iff,beq_eq_false_iff_ne];omega
 ·rw[G]at T;have w1:O ((aF.length:Int)-1)=((aF.length-1:Nat):Int):=by rw[Ad];omega
  have U:(0:Int)<=((aF.length-1:Nat):Int)/\((aF.length-1:Nat):Int)<(aF.length:Int):=by omega
  rw[T]at S L⊢;clear V;simp only[go_sem,ac,w1,af,Y,aa X,aa U,S,ap,bf,bv];rw[ab (by simp)];by_cases c:q=s.to
  ·have D:=B2.1 c;rw[aa ⟨D.1,D.2.1,D.2.2,trivial⟩,show AP d r v (aF,k,s.to) q=(aF,k,s.to)from aa c]
  ·rw[ab (λg=>c (B2.2 ⟨g.1,g.2.1,g.2.2.1⟩)),aa,show AP d r v (aF,k,s.to) q=(aF++[⟨q,Au s.to q,d,r,v⟩],k+Au s.to q,q)from ab c,Ad (by rw[<-T]at*;omega),L]
noncomputable def DX (it:Itm) (aU aZ aX:Int) (s:(List Sgm×Int×Pt)×Int) (q:Pt):(List Sgm×Int×Pt)×Int:=
 (AP aU aZ aX s.1 q,if smI it/\q=A2 it then(AP aU aZ aX s.1 q).2.1 else s.2)
theorem Qsb {it:Itm} {aU aZ aX:Int}:∀(D:List Pt) (s:(List Sgm×Int×Pt)×Int),(D.foldl (DX it aU aZ aX) s).1=D.foldl (AP aU aZ aX) s.1
 |[],_=>rfl
 |q::D,s=>by rw[dz,dz,Qsb D];rfl
theorem Zie {MM T MA MP MG MR:Fn} {it:Itm} {D:List Pt} (hj:j<D.length) (a0:D.length<=1000000) {aF L:Rw} {aD:Rw} {g S G:Pt} {b b':Bool} {X aU aZ aX len M U N:Int}
  (hM:T (Af it)=some [B (decide (smI it))]) (hC:MM (Af it)=some (ptR (A2 it)))
  (hA:MA [.vC Ag aF, .vC AA aD,I D[j].x,I D[j].y,I D[j].z,I g.x,I g.y,I g.z,I X,I aU,I aZ,I aX,I S.x,I S.y,I S.z,B b,I len,I U,I N]=some [.vC Ag L, .vC AA aD,I G.x,I G.y,I G.z,B b',I M,I U,I N]):
  Mk MM T MA MP MG MR (.vC Ag aF:: .vC AA aD:: .vC kPt (D.map ptR)::I D.length::I j::(Af it++[I g.x,I g.y,I g.z,I X,I aU,I aZ,I aX,I S.x,I S.y,I S.z,B b,I len,I U,I N]))=
   some (0, .vC Ag L:: .vC AA aD:: .vC kPt (D.map ptR)::I D.length::I (j+1:Nat)::(Af it++[I g.x,I g.y,I g.z,I X,I aU,I aZ,I aX,I G.x,I G.y,I G.z,B b',I M,I U,I (if smI it/\D[j]=A2 it then M else N)])):=by
 have hr:nth [] (D.map ptR) j=ptR D[j]:=Em _ _ _ _ hj;have Y:(0:Int)<=(j:Int)/\(j:Int)<(D.length:Int):=by omega
 have hw:O ((j:Int)+1)=((j+1:Nat):Int):=by rw[Ad];omega
 generalize D[j]=q at*;simp only[Af]at hM hC;simp only[Af,ax,ay];rw[Zjn];simp only[go_sem,ac,af,hr,aa Y,hA,hM,hC,hw];rw[aa];by_cases c:smI it
 ·rw[aa c];by_cases V:q=A2 it
  ·have c3:=B2.1 V;rw[aa ⟨c3.1,c3.2.1,c3.2.2,trivial⟩,aa ⟨c,V⟩]
  ·rw[ab (λh=>V (B2.2 ⟨h.1,h.2.1,h.2.2.1⟩)),ab (λh=>V h.2)]
 ·rw[ab c,ab (λh=>c h.1)]
theorem Qie {MM S MA MP MG MR:Fn} {it:Itm} {D:List Pt} (T:D.length<=1000000) {aD:Rw} {g G:Pt} {gl aU aZ aX V:Int} (X:bd 67108864 G) (M:∀p∈D,bd 67108864 p)
  (hM:S (Af it)=some [B (decide (smI it))]) (hC:MM (Af it)=some (ptR (A2 it)))
  (hA : ∀ {aF : List Sgm} {q at_ : Pt} {len mid : Int}, Fp G aF = at_ -> bd 67108864 at_ -> bd 67108864 q -> aF.length + 1 <= 1048577 -> (0 <= len /\ len <= 4000000000000000000) ->
   MA [.vC Ag (aF.map Az), .vC AA aD,I q.x,I q.y,I q.z,I g.x,I g.y,I g.z,I gl,I aU,I aZ,I aX,I G.x,I G.y,I G.z,B true,I len,I V,I mid]=
   some [.vC Ag ((AP aU aZ aX (aF,len,at_) q).1.map Az), .vC AA aD,I G.x,I G.y,I G.z,B true,I (AP aU aZ aX (aF,len,at_) q).2.1,I V,I mid]):
  ∀(k j:Nat) (s:List Sgm×Int×Pt) (mid:Int),j+k=D.length->s.1.length+k<=1048576->0<=s.2.1->s.2.1+k*268435456<=4000000000000000000->bd 67108864 s.2.2->Fp G s.1=s.2.2->
  Al (Mk MM S MA MP MG MR) (.vC Ag (s.1.map Az):: .vC AA aD:: .vC kPt (D.map ptR)::I D.length::I j::(Af it++[I g.x,I g.y,I g.z,I gl,I aU,I aZ,I aX,I G.x,I G.y,I G.z,B true,I s.2.1,I V,I mid]))=
   some (1,[.vC Ag (((D.drop j).foldl (DX it aU aZ aX) (s,mid)).1.1.map Az), .vC AA aD,I G.x,I G.y,I G.z,B true,I ((D.drop j).foldl (DX it aU aZ aX) (s,mid)).1.2.1,I V,I ((D.drop j).foldl (DX it aU aZ aX) (s,mid)).2])
 |0,j,s,mid,hj,_,_,_,_,_=>by
  refine AJ ?_ (by simp);simp only[Af,ax,ay];rw[Zjn,AR (by omega),cz (by omega)];rfl
 |k+1,j,s,mid,hj,hs,U,Y,L,he=>by
  have N:j<D.length:=by omega
  have hq:=M _ (bh N);obtain⟨aF,len,at_⟩:=s;simp only at hs U Y L he;have ha:=hA (q:=D[j]) (mid:=mid) he L hq (by omega) (by constructor<;>omega);have O:=Zie (MP:=MP) (MG:=MG) (MR:=MR) N T hM hC ha;have hinv:Fp G (AP aU aZ aX (aF,len,at_) D[j]).1=(AP aU aZ aX (aF,len,at_) D[j]).2.2/\bd 67108864 (AP aU aZ aX (aF,len,at_) D[j]).2.2/\
    (AP aU aZ aX (aF,len,at_) D[j]).1.length<=aF.length+1/\0<=(AP aU aZ aX (aF,len,at_) D[j]).2.1/\(AP aU aZ aX (aF,len,at_) D[j]).2.1<=len+268435456:=by
   have hl:=Gf L hq;unfold AP;split
   ·exact⟨he,L,by simp,U,by simp only;omega⟩
   ·refine⟨S8 _ _ _,hq,by simp,?_,?_⟩<;>simp only<;>omega
  rw[AS O];obtain⟨i1,i2,i3,i4,i5⟩:=hinv;have:=Qie (MP:=MP) (MG:=MG) (MR:=MR) T X M hM hC hA k (j+1) (AP aU aZ aX (aF,len,at_) D[j]) (if smI it/\D[j]=A2 it then(AP aU aZ aX (aF,len,at_) D[j]).2.1 else mid) (by omega) (by omega) i4 (by omega) i2 i1;rw[this,KM D j N,dz];rfl
theorem Zt5 {it:Itm} (h:BI it):∃l,Bs it=Av it.fr::l:=by
 unfold Bs;by_cases G:it.aP=3
 ·rw[aa G];unfold B0;rw[be];refine⟨(BM it.dir 16 it.bG (Bv it it.fr) (Bv it it.to)).map (II it),?_⟩;congr 1;obtain⟨D,-,M,-⟩:=h.2.2.2 G;obtain⟨I,L,N⟩:=Ut it.aG it.ce;unfold II Bv;simp only[I,L];unfold dU dW;have e1:plU it.aG it.ce*16+(plU it.aG it.fr-plU it.aG it.ce)*16=plU it.aG it.fr*16:=by omega
  have e2:plW it.aG it.ce*16+(plW it.aG it.fr-plW it.aG it.ce)*16=plW it.aG it.fr*16:=by omega
  rw[e1,e2];unfold spP plU plW plH Av;rcases D with D|D|D<;>rw[D]<;>rfl
 ·rw[ab G];exact⟨_,rfl⟩
theorem Ygt (h:BI (vE z i)):∃l,Bo z i (-1)=Av (vE z i).fr::l:=by
 obtain⟨l,D⟩:=Zt5 h;unfold Bo;split
 ·unfold HQ;rw[ab,D];exact⟨_,rfl⟩
 ·exact⟨l,D⟩
noncomputable def Fx (aA:List Itm) (i:Nat) (s:BSt) (D:Int):(List Sgm×Int×Pt)×Int:=
 (Bo aA i s.frm).foldl (DX (vE aA i) i (Es (vE aA i) s.aS) (Gs (vE aA i))) ((s.aF,s.len,if s.bI=true then s.at_ else Av (vE aA i).fr),D)
theorem Zh9 (aA:List Itm) (i:Nat) (s:BSt) (D:Int):(Fx aA i s D).1=Fi aA i s:=by
 unfold Fx Fi;rw[Qsb]
theorem Yil {s:BSt} {aD:Rw} {mid:Int} (hi:i<o.length) (hlen:o.length<=15) (hv:BI (vE o i)) (L:BOK o i s) (hinv:BInv s)
  (D:(∀p∈Bo o i s.frm,bd 67108864 p)/\(Bo o i s.frm).length<=65537)
  (U:syI (vE o i)->0<=(vE o i).aZ/\(vE o i).aZ<=60000000) (a2:s.bI=false->s.frm= -1)
  (hM:Z (Af (vE o i))=some [B (decide (smI (vE o i)))]) (hC:M (Af (vE o i))=some (ptR (A2 (vE o i))))
  (hG:T (Af (vE o i))=some [B (decide (syI (vE o i)))]) (hR:S (Af (vE o i)++[I s.aS])=some [I (Es (vE o i) s.aS)])
  (hP:V [.vC Ae (o.map Af),I i,I s.frm]=some [.vC kPt ((Bo o i s.frm).map ptR)])
  (hA : ∀ {aF : List Sgm} {q g st at_ : Pt} {gl aU aZ aX len mid : Int}, Fp st aF = at_ -> bd 67108864 at_ -> bd 67108864 q -> aF.length + 1 <= 1048577 -> (0 <= len /\ len <= 4000000000000000000) ->
   W [.vC Ag (aF.map Az), .vC AA aD,I q.x,I q.y,I q.z,I g.x,I g.y,I g.z,I gl,I aU,I aZ,I aX,I st.x,I st.y,I st.z,B true,I len,I s.aS,I mid]=
   some [.vC Ag ((AP aU aZ aX (aF,len,at_) q).1.map Az), .vC AA aD,I st.x,I st.y,I st.z,B true,I (AP aU aZ aX (aF,len,at_) q).2.1,I s.aS,I mid])
  (a4 : ∀ {q g st : Pt} {gl aU aZ aX len mid : Int}, W [.vC Ag [], .vC AA aD, I q.x, I q.y, I q.z, I g.x, I g.y, I g.z, I gl, I aU, I aZ, I aX, I st.x, I st.y, I st.z, B false, I len, I s.aS, I mid] =
   some [.vC Ag [], .vC AA aD,I q.x,I q.y,I q.z,B true,I len,I s.aS,I mid]):
  Qoz M Z W V T S (Al (Mk M Z W V T S)) [.vC Ag (s.aF.map Az), .vC AA aD, .vC Ae (o.map Af),I i,I s.frm,I s.aQ.x,I s.aQ.y,I s.aQ.z,B s.bI,I s.len,I s.aS,I mid]=
   some [.vC Ag ((Fx o i s mid).1.1.map Az), .vC AA aD,B true,I (if s.bI=true then s.aQ else Av (vE o i).fr).x,I (if s.bI=true then s.aQ else Av (vE o i).fr).y,I (if s.bI=true then s.aQ else Av (vE o i).fr).z,B true,I (Fx o i s mid).1.2.1,I s.aS,I (Fx o i s mid).2]:=by
 have hr:=CO hi;have a5:(0:Int)<=(i:Int)/\(i:Int)<(o.length:Int):=by omega
 have a8:=L.aF;have X:=L.len
 have Y:∀aX aZ:Int,Al (Mk M Z W V T S) (.vC Ag (s.aF.map Az):: .vC AA aD:: .vC kPt ((Bo o i s.frm).map ptR)::I (Bo o i s.frm).length::I (0:Nat)::(Af (vE o i)++[I (⟨0,0,0⟩:Pt).x,I (⟨0,0,0⟩:Pt).y,I (⟨0,0,0⟩:Pt).z,I 0,I i,I aZ,I aX,I s.aQ.x,I s.aQ.y,I s.aQ.z,B s.bI,I s.len,I s.aS,I mid]))=
   some (1, [.vC Ag (((Bo o i s.frm).foldl (DX (vE o i) i aZ aX) ((s.aF, s.len, if s.bI = true then s.at_ else Av (vE o i).fr), mid)).1.1.map Az), .vC AA aD, I (if s.bI = true then s.aQ else Av (vE o i).fr).x, I (if s.bI = true then s.aQ else Av (vE o i).fr).y, I (if s.bI = true then s.aQ else Av (vE o i).fr).z, B true,
    I ((Bo o i s.frm).foldl (DX (vE o i) i aZ aX) ((s.aF,s.len,if s.bI=true then s.at_ else Av (vE o i).fr),mid)).1.2.1,I s.aS,I ((Bo o i s.frm).foldl (DX (vE o i) i aZ aX) ((s.aF,s.len,if s.bI=true then s.at_ else Av (vE o i).fr),mid)).2]):=by
  intro aX aZ;by_cases hb:s.bI=true
  ·obtain⟨g1,g2⟩:=hinv.bI hb;obtain⟨g3,g4,g5⟩:=g2;rw[aa hb,aa hb,hb];have:=Qie (MP:=V) (MG:=T) (MR:=S) (g:=⟨0,0,0⟩) (gl:=0) (aU:=i) (aZ:=aZ) (aX:=aX) (by omega) g1 D.1 hM hC (λh1 h2 h3 h4 h5=>hA h1 h2 h3 h4 h5) (Bo o i s.frm).length 0 (s.aF,s.len,s.at_) mid (by omega) (by simp only;omega) X.1 (by simp only;omega) (L.at_ hb) g4;rw[fh]at this;exact this
  ·have a0:s.bI=false:=by simpa using hb
   obtain⟨e1,e2,e3⟩:=hinv.empty a0;obtain⟨l,hl⟩:=Ygt hv;have a3:bd 67108864 (Av (vE o i).fr):=AI (DA hv.2.1) (by decide);rw[ab hb,ab hb,a0,e1];rw[a2 a0,hl]at D⊢;have h0:0<(Av (vE o i).fr::l).length:=by simp
   have a1:=Zie (MP:=V) (MG:=T) (MR:=S) h0 (by omega) hM hC (a4 (q:=Av (vE o i).fr) (g:=⟨0,0,0⟩) (st:=s.aQ) (gl:=0) (aU:=i) (aZ:=aZ) (aX:=aX) (len:=s.len) (mid:=mid));rw[da,AS a1];have:=Qie (MP:=V) (MG:=T) (MR:=S) (g:=⟨0,0,0⟩) (gl:=0) (aU:=i) (aZ:=aZ) (aX:=aX) (by omega) a3 D.1 hM hC (λh1 h2 h3 h4 h5=>hA h1 h2 h3 h4 h5) l.length 1 ([],s.len,Av (vE o i).fr) (if smI (vE o i)/\Av (vE o i).fr=A2 (vE o i)then s.len else mid) (by simp;omega) (by simp only[bv];simp at D;omega) X.1 (by simp only;simp at D;omega) a3 rfl;rw[List.drop_succ_cons,fh]at this;rw[dz];have e4:DX (vE o i) i aZ aX (([],s.len,Av (vE o i).fr),mid) (Av (vE o i).fr)=(([],s.len,Av (vE o i).fr),if smI (vE o i)/\Av (vE o i).fr=A2 (vE o i)then s.len else mid):=by
    unfold DX;rw[show AP i aZ aX ([],s.len,Av (vE o i).fr) (Av (vE o i).fr)=([],s.len,Av (vE o i).fr)from aa rfl]
   rw[e4];exact this
 have G:∀aX aZ:Int,((Bo o i s.frm).foldl (DX (vE o i) i aZ aX) ((s.aF,s.len,if s.bI=true then s.at_ else Av (vE o i).fr),mid)).1.1.length<=1048576:=by
  intro aX aZ;rw[Qsb];have a6:bd 67108864 (if s.bI=true then s.at_ else Av (vE o i).fr):=by
   split
   ·rename_i hb;exact L.at_ hb
   ·exact AI (DA hv.2.1) (by decide)
  have:=(T0 (aU:=i) (aZ:=aZ) (aX:=aX) (Bo o i s.frm) (s.aF,s.len,if s.bI=true then s.at_ else Av (vE o i).fr) D.1 a6 X.1).1;simp only at this⊢;omega
 generalize Al (Mk M Z W V T S)=N at*;have O:=λaX aZ=>Y aX aZ;simp only[Af,ax,ay]at hG hR O;rw[Yjz];simp only[go_sem,ac,af,hr,aa a5,hG,hR,hP];have a7:((0:Nat):Int)=0:=rfl;simp only[a7]at O;unfold Fx Gs;by_cases hs:syI (vE o i)
 ·have hf:=U hs;rw[aa hs];simp only[aa hs];rw[Ad];simp only[O,go_sem,ac];rw[ah (show((_:Nat):Int)<=1048576 from by have:=G (mn ((vE o i).aZ*16) 16777216) (Es (vE o i) s.aS);omega)]
 ·rw[ab hs];simp only[ab hs];simp only[O,go_sem,ac];rw[ah (show((_:Nat):Int)<=1048576 from by have:=G 0 (Es (vE o i) s.aS);omega)]
theorem Qfg {MK U V MS S T:Fn} {aA:List Itm} (X:∀k:Int,S [I k]=some [B (decide (1<=k/\k<=6))]) (Y:∀it,T (Af it)=some [I (if Bp it then 1 else 0)]) (hl:aA.length<=1000000):
  ∀(k i:Nat) (last:Int),i+k=aA.length->(last= -1\/(0<=last/\last<i))->
  (Al (QQ MK U V MS S T) [.vC Ag [], .vC AA [], .vC Ae (aA.map Af),I last, .vC Ae (aA.map Af),I aA.length,I i,I 0,I 0,I 0,B false,I 0,I 0,I 0]=some (1,[.vC Ag [], .vC AA [],I (EB aA k i last),I 0,I 0,I 0,B false,I 0,I 0,I 0])/\EB aA k i last≠0)\/
  (Al (QQ MK U V MS S T) [.vC Ag [], .vC AA [], .vC Ae (aA.map Af),I last, .vC Ae (aA.map Af),I aA.length,I i,I 0,I 0,I 0,B false,I 0,I 0,I 0]=some (2,[.vC Ag [], .vC AA [], .vC Ae (aA.map Af),I 0,I 0,I 0,B false,I 0,I 0,I 0])/\EB aA k i last=0)
 |0,i,last,hi,_=>by
  right;refine⟨AJ ?_ (by simp),rfl⟩;rw[Zat,AR (by omega)]
 |k+1,i,last,hi,a0=>by
  have a1:i<aA.length:=by omega
  have hr:=CO a1;have hw:=Y (vE aA i);have hm:=X (vE aA i).aP;have a2:(0:Int)<=(i:Int)/\(i:Int)<(aA.length:Int):=by omega
  have D:QQ MK U V MS S T [.vC Ag [], .vC AA [], .vC Ae (aA.map Af),I last, .vC Ae (aA.map Af),I aA.length,I i,I 0,I 0,I 0,B false,I 0,I 0,I 0]=
    if Bp (vE aA i)then some (1,[.vC Ag [], .vC AA [],I 1,I 0,I 0,I 0,B false,I 0,I 0,I 0])else if AB (vE aA i)then(if 0<=last/\(vE aA last.toNat).to≠(vE aA i).fr then some (1,[.vC Ag [], .vC AA [],I 13,I 0,I 0,I 0,B false,I 0,I 0,I 0])else some (0,[.vC Ag [], .vC AA [], .vC Ae (aA.map Af),I i, .vC Ae (aA.map Af),I aA.length,I (i+1:Nat),I 0,I 0,I 0,B false,I 0,I 0,I 0]))
    else some (0,[.vC Ag [], .vC AA [], .vC Ae (aA.map Af),I last, .vC Ae (aA.map Af),I aA.length,I (i+1:Nat),I 0,I 0,I 0,B false,I 0,I 0,I 0]):=by
   rw[Zat];simp only[Af]at hw;simp only[go_sem,ac,af,hr,hw,hm,aa a2];rw[aa,Ad];by_cases N:Bp (vE aA i)
   ·simp only[aa N];rw[aa]
   simp only[ab N];rw[ab (by simp)];by_cases G:AB (vE aA i)
   ·rw[ab (λh=>h G),aa G];rcases a0 with rfl|⟨h1,h2⟩
    ·rw[ab (show¬(-1:Int)>=0 by omega),ab (λh=>by omega)];rfl
    ·obtain⟨L,rfl⟩:=bc h1;have hL:L<aA.length:=by omega
     have O:(0:Int)<=(L:Int)/\(L:Int)<(aA.length:Int):=by omega
     have a3:=CO hL;simp only[af,a3,go_sem,aa O];rw[aa];by_cases M:(vE aA L).to=(vE aA i).fr
     ·have c4:=B2.1 M;rw[ab (λh=>h ⟨c4.1,c4.2.1,c4.2.2,trivial⟩),ab (λh=>h.2 M)];rfl
     ·rw[aa (λh=>M (B2.2 ⟨h.1,h.2.1,h.2.2.1⟩)),aa ⟨h1,M⟩]
   ·rw[aa (show¬(1<=(vE aA i).aP/\(vE aA i).aP<=6)from G),ab G];rfl
  unfold EB;by_cases N:Bp (vE aA i)
  ·rw[aa N]at D⊢;exact .inl ⟨AJ D (by simp),by simp⟩
  ·rw[ab N]at D⊢;by_cases G:AB (vE aA i)
   ·rw[aa G]at D⊢;by_cases M:0<=last/\(vE aA last.toNat).to≠(vE aA i).fr
    ·rw[aa M]at D⊢;exact .inl ⟨AJ D (by simp),by simp⟩
    ·rw[ab M]at D⊢;rw[AS D];exact Qfg X Y hl k (i+1) i (by omega) (.inr (by omega))
   ·rw[ab G]at D⊢;rw[AS D];exact Qfg X Y hl k (i+1) last (by omega) (by omega)
noncomputable def Gu (aA:List Itm):Nat->Int
 |0=> -1
 |i+1=>if AB (vE aA i)then i else Gu aA i
theorem Qy7 (aA:List Itm):∀i,Gu aA i= -1\/∃L:Nat,Gu aA i=L/\L<i/\AB (vE aA L)/\∀j,L<j->j<i-> ¬AB (vE aA j)
 |0=> .inl rfl
 |i+1=>by
  unfold Gu;by_cases c:AB (vE aA i)
  ·rw[aa c];exact .inr ⟨i,rfl,by omega,c,λj D G=>by omega⟩
  ·rw[ab c];rcases Qy7 aA i with h|⟨L,D,G,I,M⟩
   ·exact .inl h
   ·refine .inr ⟨L,D,by omega,I,λj g1 g2=> ?_⟩;by_cases e:j=i
    ·rw[e];exact c
    ·exact M j g1 (by omega)
theorem Qyx (aA:List Itm):∀i,(As aA i).frm=if 0<=Gu aA i/\0<=Bf aA (Gu aA i).toNat then Gu aA i else-1
 |0=>by rw[As,Gu,ab]
 |i+1=>by
  rw[As,Gu];unfold Dz;by_cases c:AB (vE aA i)
  ·rw[aa c,aa c];simp only[af];by_cases D:0<=Bf aA i
   ·rw[aa D,aa ⟨by omega,D⟩]
   ·rw[ab D,ab (λh=>D h.2)]
  ·rw[ab c,ab c];exact Qyx aA i
theorem Zwq (I:L<i) (U:i<z.length) (M:AB (vE z i)) (D:∀j,L<j->j<i-> ¬AB (vE z j)) (N:0<=Bf z L):Dg z L=i:=by
 have V:=Ub N;rcases Qa0 z L with h|⟨-,-,k,X,O,Y,G,S⟩
 ·omega
 ·have T:Dg z L=k:=by omega
  rw[T];rcases Nat.lt_trichotomy k i with h|h|h
  ·exact absurd ⟨by have:=G.1;omega,by have:=G.1;omega⟩ (D k O h)
  ·exact h
  ·have:=S i I h;have:=M.2;omega
noncomputable def CY (aA:List Itm):Nat->Int
 |0=>0
 |i+1=>if AB (vE aA i)then(Fx aA i (As aA i) (CY aA i)).2 else CY aA i
theorem Qw7 (aA:List Itm):∀i,(As aA i).bI=false->(As aA i).frm= -1
 |0,_=>by rw[As]
 |i+1,h=>by
  rw[As]at h⊢;unfold Dz at h⊢;by_cases c:AB (vE aA i)
  ·rw[aa c]at h;cases h
  ·rw[ab c]at h⊢;exact Qw7 aA i h
noncomputable abbrev pbR (aA:List Itm) (i:Nat):List AC:=
 [.vC Ag ((As aA i).aF.map Az), .vC AA ((As aA i).aD.map Aq), .vC Ae (aA.map Af),I (Gu aA i), .vC Ae (aA.map Af),I aA.length,I i,I (As aA i).aQ.x,I (As aA i).aQ.y,I (As aA i).aQ.z,B (As aA i).bI,I (As aA i).len,I (As aA i).aS,I (CY aA i)]
theorem Zlt (hi:i<o.length) (hlen:o.length<=15) (a4:(As o i).aD.length=i)
  (hM:∀k:Int,T [I k]=some [B (decide (1<=k/\k<=6))]) (hS:∀L:Nat,L<o.length->V [.vC Ae (o.map Af),I L]=some [B (decide (0<=Bf o L))]) (hN:∀L:Nat,L<o.length->W [.vC Ae (o.map Af),I L]=some [I (Dg o L)])
  (hV : AB (vE o i) -> Z [.vC Ag ((As o i).aF.map Az), .vC AA ((As o i).aD.map Aq), .vC Ae (o.map Af), I i, I (As o i).frm, I (As o i).aQ.x, I (As o i).aQ.y, I (As o i).aQ.z, B (As o i).bI, I (As o i).len, I (As o i).aS, I (CY o i)] =
   some [.vC Ag ((Fx o i (As o i) (CY o i)).1.1.map Az), .vC AA ((As o i).aD.map Aq),B true,I (if(As o i).bI=true then(As o i).aQ else Av (vE o i).fr).x,I (if(As o i).bI=true then(As o i).aQ else Av (vE o i).fr).y,I (if(As o i).bI=true then(As o i).aQ else Av (vE o i).fr).z,B true,
    I (Fx o i (As o i) (CY o i)).1.2.1,I (As o i).aS,I (Fx o i (As o i) (CY o i)).2])
  (hK : ∀ {aF : Rw} {st : Pt} {b : Bool} {len sp U : Int}, M [.vC Ag aF, .vC AA ((As o i).aD.map Aq), .vC Ae (o.map Af), I i, I st.x, I st.y, I st.z, B b, I len, I sp, I U] =
   some [.vC Ag aF, .vC AA (((As o i).aD++[(⟨len,JP o i,i⟩:Mrk)]).map Aq),I st.x,I st.y,I st.z,B b,I len,I sp,I U]):
  Qo M Z W V T S N (pbR o i)=some (0,pbR o (i+1)):=by
 have hr:=CO hi;have a1:(0:Int)<=(i:Int)/\(i:Int)<(o.length:Int):=by omega
 have hw:O ((i:Int)+1)=((i+1:Nat):Int):=by rw[Ad];omega
 have hf:=Qyx o i;have Y:=Qy7 o i;have a2:=Zh9 o i (As o i) (CY o i);have e1:Gu o (i+1)=if AB (vE o i)then(i:Int)else Gu o i:=rfl;have e2:CY o (i+1)=if AB (vE o i)then(Fx o i (As o i) (CY o i)).2 else CY o i:=rfl;have e3:As o (i+1)=Dz o i (As o i):=rfl;unfold pbR;rw[e1,e2,e3];generalize As o i=s at*;generalize Gu o i=last at*;generalize a5:CY o i=U at*;unfold Dz;rw[Zee];by_cases G:AB (vE o i)
 ·have h8: ¬(vE o i).aP=8:=λh=>by have:=G.2;omega
  have hV:=hV G;have D:JP o i=E5 o i:=aa G;rw[aa G,aa G,aa G];rw[a2]at hV;have a0:T [I (vE o i).aP]=some [B true]:=by rw[hM,ah (show 1<=(vE o i).aP/\(vE o i).aP<=6 from G)]
  simp only[go_sem,ac,af,hr,aa a1,a0];rw[aa,ab h8];have X:∀{x:Option (Nat×List AC)} {frm:Int},s.frm=frm->(Z [.vC Ag (s.aF.map Az), .vC AA (s.aD.map Aq), .vC Ae (o.map Af),I i,I frm,I s.aQ.x,I s.aQ.y,I s.aQ.z,B s.bI,I s.len,I s.aS,I U])=
    some [.vC Ag ((Fi o i s).1.map Az), .vC AA (s.aD.map Aq),B true,I (if s.bI=true then s.aQ else Av (vE o i).fr).x,I (if s.bI=true then s.aQ else Av (vE o i).fr).y,I (if s.bI=true then s.aQ else Av (vE o i).fr).z,B true,I (Fi o i s).2.1,I s.aS,I (Fx o i s U).2]:=by
   intro x frm h;rw[<-h];exact hV
  rcases Y with Y|⟨L,h1,h2,h3,h4⟩
  ·rw[Y];rw[Y,ab]at hf;rw[ab (show¬(-1:Int)>=0 by omega)];have hv:=X (x:=none) hf;simp only[hv,go_sem,hK,hw,D];simp
  ·rw[h1]at hf⊢;rw[af]at hf;have hs:=hS L (by omega);have hn:=hN L (by omega);rw[aa (show(L:Int)>=0 by omega)];by_cases c:0<=Bf o L
   ·have a3:=Zwq h2 hi G h4 c;rw[aa ⟨by omega,c⟩]at hf;rw[a3]at hn;rw[ah c]at hs;have hv:=X (x:=none) hf;simp only[hs,hn,go_sem];simp only[hv,go_sem,hK,hw,D];simp
   ·rw[ab (λh=>c h.2)]at hf;rw[al c]at hs;have hv:=X (x:=none) hf;simp only[hs,go_sem];simp only[hv,go_sem,hK,hw,D];simp
 ·have D:JP o i=Kl (vE o i):=ab G;rw[ab G,ab G,ab G];have a0:T [I (vE o i).aP]=some [B false]:=by rw[hM,al (show¬(1<=(vE o i).aP/\(vE o i).aP<=6)from G)]
  unfold OT;simp only[go_sem,ac,af,hr,aa a1,a0,hK,hw,D];rw[aa];by_cases h8:(vE o i).aP=8
  ·by_cases h3:(vE o i).n=3
   ·simp[h8,h3]
   ·by_cases h4:(vE o i).n=4
    ·simp[h8,h4]
    ·simp[h8,h3,h4]
  ·simp[h8]
theorem Zlk {it:Itm} (hf:it.aP=1\/1<=it.aZ/\it.aZ<=60000000) (G:0<=u/\u<=30000):JT (Af it++[I u])=some [I (Es it u)]:=by
 by_cases D:it.aP=1
 ·unfold JT Es;generalize CU=M;have h:=Q2v (A8:=M) it.aP it.block it.fr.x it.fr.y it.fr.z it.to.x it.to.y it.to.z it.aG it.ce.x it.ce.y it.ce.z it.dir it.bG it.aZ it.perRev it.side it.radius it.bH it.n it.aS it.on u;rw[aa D];refine cy h ?_;rw[BO (by simp[D])]
 ·exact Zmu (by omega) G
theorem Ydx {aF:List Sgm} (D:Fp a aF=b) (G:bd 67108864 b) (L:bd 67108864 q) (M:aF.length+1<=1048577) (hlen:0<=k/\k<=4000000000000000000):
  PY [.vC Ag (aF.map Az), .vC AA l,I q.x,I q.y,I q.z,I g.x,I g.y,I g.z,I u,I d,I r,I v,I a.x,I a.y,I a.z,B true,I k,I y,I h]=
   some [.vC Ag ((AP d r v (aF,k,b) q).1.map Az), .vC AA l,I a.x,I a.y,I a.z,B true,I (AP d r v (aF,k,b) q).2.1,I y,I h]:=
 Zqh D (Qfp G L) (Gf G L) M hlen
theorem Zjz (hlen:z.length<=15) (D:∀j<z.length,¬Bp (vE z j)) {i:Nat} (M:i<z.length):
  Qo Jf Kn Fo Hs DE Jm Ru (pbR z i)=some (0,pbR z (i+1)):=by
 have hb:=LX D i (by omega);have S:=To D i (by omega);have G:∀k<z.length,AB (vE z k)->drawn (vE z k):=λk V N=>(Jc (D k V) N).1;have I:=Jc (D i M);refine Zlt M hlen hb.aD RE (λL T=>Qvr (by omega) T) (λL T=>Qez (by omega) T) (λN=> ?_) (Z1i (by omega) M (by have:=hb.aD;omega));have O:=(I N).1;exact Yil M hlen O.1 hb S (Sy O hb.frm G) (λX=>by have U:=(I N).2;rcases X with h|h<;>omega) (Qw7 z i) (UZ _) (TK O.1.2.1 O.1.2.2.1) (Qz3 _) (Zlk (I N).2 hb.aS)
  (Z8b (by omega) M O hb.frm G) (λY U h3 h4 h5=>Ydx Y U h3 h4 h5) Zzy
theorem Zjf {aA:List Itm} (hlen:aA.length<=15) (D:∀j<aA.length,¬Bp (vE aA j)):∀(k i:Nat),i+k=aA.length->
  Al (Qo Jf Kn Fo Hs DE Jm Ru) (pbR aA i)=
   some (2,[.vC Ag ((AM aA).aF.map Az), .vC AA ((AM aA).aD.map Aq),I (AM aA).aQ.x,I (AM aA).aQ.y,I (AM aA).aQ.z,B (As aA aA.length).bI,I (As aA aA.length).len,I (As aA aA.length).aS,I (CY aA aA.length)])
 |0,i,G=>by
  obtain rfl:i=aA.length:=by omega
  refine AJ ?_ (by simp);unfold pbR AM;rw[Zee,AR (by omega)]
 |k+1,i,G=>by
  rw[AS (Zjz hlen D (by omega))];exact Zjf hlen D k (i+1) (by omega)
def JW (aA:List Itm) (o:List AC):Prop:=
 if BY aA=0 then o=[.vC Ag ((AM aA).aF.map Az), .vC AA ((AM aA).aD.map Aq),I 0,I (AM aA).aQ.x,I (AM aA).aQ.y,I (AM aA).aQ.z,B (As aA aA.length).bI,I (As aA aA.length).len,I (As aA aA.length).aS,I (CY aA aA.length)]
 else o=[.vC Ag [], .vC AA [],I (BY aA),I 0,I 0,I 0,B false,I 0,I 0,I 0]
theorem Z1o {N D:Lp} (hlen:z.length<=15)
  (U : (N [.vC Ag [], .vC AA [], .vC Ae (z.map Af), I (-1), .vC Ae (z.map Af), I z.length, I 0, I 0, I 0, I 0, B false, I 0, I 0, I 0] = some (1, [.vC Ag [], .vC AA [], I (BY z), I 0, I 0, I 0, B false, I 0, I 0, I 0]) /\ BY z ≠ 0) \/
   (N [.vC Ag [], .vC AA [], .vC Ae (z.map Af),I (-1), .vC Ae (z.map Af),I z.length,I 0,I 0,I 0,I 0,B false,I 0,I 0,I 0]=some (2,[.vC Ag [], .vC AA [], .vC Ae (z.map Af),I 0,I 0,I 0,B false,I 0,I 0,I 0])/\BY z=0))
  (O : BY z = 0 -> D [.vC Ag [], .vC AA [], .vC Ae (z.map Af), I (-1), .vC Ae (z.map Af), I z.length, I 0, I 0, I 0, I 0, B false, I 0, I 0, I 0] =
   some (2,[.vC Ag ((AM z).aF.map Az), .vC AA ((AM z).aD.map Aq),I (AM z).aQ.x,I (AM z).aQ.y,I (AM z).aQ.z,B (As z z.length).bI,I (As z z.length).len,I (As z z.length).aS,I (CY z z.length)])):
  ∃o,Qnz M Z W V T S N D [.vC Ae (z.map Af)]=some o/\JW z o:=by
 rw[Z02];have G: ¬((z.length:Int)>20000):=by omega
 rcases U with⟨h,L⟩|⟨h,L⟩
 ·simp only[go_sem,ac,h,ab G];exact⟨_,rfl,by unfold JW;rw[ab L]⟩
 ·have g:=O L;simp only[go_sem,ac,h,ab G,g];rw[ab (by decide),ab (by decide)];exact⟨_,rfl,by unfold JW;rw[aa L]⟩
theorem Zjl (hlen:z.length<=15):∃o,IZ [.vC Ae (z.map Af)]=some o/\JW z o:=by
 have D:BY z=EB z z.length 0 (-1):=by unfold BY;rw[ab]
 refine Z1o hlen ?_ λhe=>Zjf hlen (Nb he).2 z.length 0 (by omega);rw[D];exact Qfg RE Yhm (by omega) z.length 0 (-1) (by omega) (.inl rfl)
theorem Zn5 (h:∃o,M [.vC Ae (z.map Af)]=some o/\JW z o):
  Qky M [.vC Ae (z.map Af)]=if BY z=0 then some (Bj (AM z)++[I 0])else some [I 0,I 0,I 0, .vC Ag [], .vC AA [],I (BY z)]:=by
 obtain⟨o,G,D⟩:=h;rw[Z3x,G];unfold JW at D;by_cases c:BY z=0
 ·rw[aa c]at D⊢;subst D;simp only[go_sem];rw[ab (by simp)];try rfl
 ·rw[ab c]at D⊢;subst D;simp only[go_sem];rw[aa c]
theorem Z1g (hlen:z.length<=15):NJ [.vC Ae (z.map Af)]=if BY z=0 then some (Bj (AM z)++[I 0])else some [I 0,I 0,I 0, .vC Ag [], .vC AA [],I (BY z)]:=
 Zn5 (Zjl hlen)
def KB (aA:List Itm):Nat->Option Nat
 |0=>none
 |i+1=>if(vE aA i).aP=10 then KB aA i else some i
noncomputable def Md (aA:List Itm):Int:=
 match KB aA aA.length with
 |some i=>if smI (vE aA i)/\(vE aA i).bH≠0 then AT (AM aA).aF-Au (A2 (vE aA i)) (Av (vE aA i).to)else AT (AM aA).aF
 |none=>AT (AM aA).aF
theorem Qa4 {aA:List Itm} {i:Nat}:∀{n:Nat},KB aA n=some i->i<n/\(vE aA i).aP≠10/\∀j,i<j->j<n->(vE aA j).aP=10
 |0,h=>by cases h
 |n+1,h=>by
  unfold KB at h;split at h
  ·rename_i c;obtain⟨I,D,G⟩:=Qa4 h;refine⟨by omega,D,λj g1 g2=> ?_⟩;by_cases e:j=n
   ·rw[e];exact c
   ·exact G j g1 (by omega)
  ·rename_i c;cases h
   exact⟨by omega,c,λj g1 g2=>by omega⟩
theorem Z04 (h:(vE z i).aP=10):(As z (i+1)).len=(As z i).len/\CY z (i+1)=CY z i:=by
 have D: ¬AB (vE z i):=λg=>by have:=g.2;omega
 constructor
 ·rw[As];unfold Dz;rw[ab D]
 ·rw[CY,ab D]
theorem Q6s {aA:List Itm} {i:Nat}:∀(k:Nat),(∀j,i<=j->j<i+k->(vE aA j).aP=10)->(As aA (i+k)).len=(As aA i).len/\CY aA (i+k)=CY aA i
 |0,_=>⟨rfl,rfl⟩
 |k+1,h=>by
  obtain⟨D,G⟩:=Q6s k λj g1 g2=>h j g1 (by omega);obtain⟨I,L⟩:=Z04 (h (i+k) (by omega) (by omega));exact⟨I.trans D,L.trans G⟩
theorem Zsv (D:∀j<z.length,¬Bp (vE z j)):AT (AM z).aF=(As z z.length).len:=by
 have h:=To D z.length (bt _);unfold AM;by_cases hb:(As z z.length).bI=true
 ·exact(h.bI hb).2.2.2
 ·obtain⟨g1,g2,-⟩:=h.empty (by simpa using hb);simp only[g1,g2];rfl
theorem Zwg {it:Itm} (h:it.fr≠it.to):Av it.to≠A2 it:=by
 intro g;unfold Av A2 at g;injection g with g1 g2 D;exact h (B2.2 ⟨by omega,by omega,by omega⟩)
theorem Zuo (it:Itm) (h:smI it) (aU aZ aX:Int) (s:(List Sgm×Int×Pt)×Int):
  (DX it aU aZ aX (DX it aU aZ aX s (A2 it)) (Av it.to)).2=(DX it aU aZ aX (DX it aU aZ aX s (A2 it)) (Av it.to)).1.2.1-Au (A2 it) (Av it.to):=by
 have D:=Zwg h.2;have I:(DX it aU aZ aX s (A2 it)).2=(AP aU aZ aX s.1 (A2 it)).2.1:=aa ⟨h,rfl⟩;have G:(AP aU aZ aX s.1 (A2 it)).2.2=A2 it:=by
  unfold AP;split
  ·rename_i c;exact c.symm
  ·rfl
 have L:(DX it aU aZ aX s (A2 it)).1=AP aU aZ aX s.1 (A2 it):=rfl;generalize DX it aU aZ aX s (A2 it)=t at*;have M:(DX it aU aZ aX t (Av it.to)).2=t.2:=ab λg=>D g.2;have N:(DX it aU aZ aX t (Av it.to)).1=AP aU aZ aX t.1 (Av it.to):=rfl;rw[M,N,I,L];rw[<-G]at D⊢;rw[G];generalize AP aU aZ aX s.1 (A2 it)=u at*;have O:AP aU aZ aX u (Av it.to)=(u.1++[⟨Av it.to,Au u.2.2 (Av it.to),aU,aZ,aX⟩],u.2.1+Au u.2.2 (Av it.to),Av it.to):=ab D;rw[O,G];simp only;omega
theorem Ycr {aA:List Itm} (M:KB aA aA.length=some i) (G:smI (vE aA i)):CY aA aA.length=(As aA aA.length).len-Au (A2 (vE aA i)) (Av (vE aA i).to):=by
 obtain⟨O,-,I⟩:=Qa4 M;obtain⟨k,N⟩:∃k,aA.length=i+1+k:=⟨aA.length-(i+1),by omega⟩;have L:AB (vE aA i):=⟨by have:=G.1;omega,by have:=G.1;omega⟩;obtain⟨g1,g2⟩:=Q6s (aA:=aA) (i:=i+1) k λj e1 e2=>I j (by omega) (by omega);have D: ¬0<=Bf aA i:=by
  intro c;have S:=Ub c;rcases Qa0 aA i with h|⟨-,-,m,m1,m2,m3,m4,m5⟩
  ·omega
  ·have:=I m m2 m3;have:=m4.1;omega
 rw[N,g1,g2];have e1:CY aA (i+1)=(Fx aA i (As aA i) (CY aA i)).2:=aa L;have e2:(As aA (i+1)).len=(Fx aA i (As aA i) (CY aA i)).1.2.1:=by
  rw[Zh9,As];unfold Dz;rw[aa L]
 rw[e1,e2];unfold Fx;have e3:Bo aA i (As aA i).frm=HQ aA i (As aA i).frm++[A2 (vE aA i)]++[Av (vE aA i).to]:=by
  unfold Bo;rw[aa G];unfold JE;rw[ab D];unfold Bs;rw[ab (by have:=G.1;omega)];rfl
 rw[e3,List.foldl_append,List.foldl_append,dz,List.foldl_nil,dz,List.foldl_nil];exact Zuo _ G _ _ _ _
theorem Q97 {MS V:Fn} {aA:List Itm} {aF aD:Rw} {G:Pt} {b:Bool} {len N D:Int} (hl:aA.length<=1000) (X:∀it,MS (Af it)=some [B (decide (smI it))]):
  ∀n:Nat,n<=aA.length->∃o:Nat×List AC,Al (P3 MS V) [.vC Ag aF, .vC AA aD, .vC Ae (aA.map Af),I ((n:Int)-1),I G.x,I G.y,I G.z,B b,I len,I N,I D]=some o/\
   match KB aA n with
   |some i=>o=(1,[I (if smI (vE aA i)/\(vE aA i).bH≠0 then D else len)])
   |none=>o=(2,[.vC Ag aF, .vC AA aD,I G.x,I G.y,I G.z,B b,I len,I N,I D])
 |0,_=>by
  refine⟨_,AJ (o:=(2,_)) ?_ (by simp),rfl⟩;rw[Zec,AR (by omega)]
 |n+1,hn=>by
  have T:n<aA.length:=by omega
  have hr:=CO T;have Y:=X (vE aA n);simp only[Af]at Y;have U:(0:Int)<=(n:Int)/\(n:Int)<(aA.length:Int):=by omega
  have e:((n+1:Nat):Int)-1=n:=by omega
  have L:P3 MS V [.vC Ag aF, .vC AA aD, .vC Ae (aA.map Af),I n,I G.x,I G.y,I G.z,B b,I len,I N,I D]=
    if(vE aA n).aP=10 then some (0,[.vC Ag aF, .vC AA aD, .vC Ae (aA.map Af),I ((n:Int)-1),I G.x,I G.y,I G.z,B b,I len,I N,I D])
    else some (1,[I (if smI (vE aA n)/\(vE aA n).bH≠0 then D else len)]):=by
   rw[Zec];simp only[go_sem,ac,af,hr,Y,aa U];rw[aa,Ad];by_cases M:(vE aA n).aP=10
   ·rw[aa M,aa M]
   ·rw[ab M,ab M];by_cases O:smI (vE aA n)
    ·rw[aa O];by_cases S:(vE aA n).bH≠0
     ·rw[aa S,aa ⟨O,S⟩]
     ·rw[ab S,ab (λg=>S g.2)]
    ·rw[ab O,ab (λg=>O g.1)]
  rw[e];unfold KB;by_cases M:(vE aA n).aP=10
  ·rw[aa M]at L⊢;rw[AS L];exact Q97 hl X n (by omega)
  ·rw[ab M]at L⊢;exact⟨_,AJ L (by simp),rfl⟩
theorem Z2j (hl:z.length<=15) (hS:∀it,M (Af it)=some [B (decide (smI it))]) (h:∃o,Z [.vC Ae (z.map Af)]=some o/\JW z o):
  Qn6 M Z (Al (P3 M Z)) [.vC Ae (z.map Af)]=some [I (if BY z=0 then Md z else 0)]:=by
 obtain⟨o,Y,L⟩:=h;unfold JW at L;by_cases c:BY z=0
 ·rw[aa c]at L⊢;have D:=(Nb c).2;have S:=Zsv D;have T:=λi U hs=>Ycr (aA:=z) (i:=i) U hs;have X:= @Q97 M Z z ((AM z).aF.map Az) ((AM z).aD.map Aq) (AM z).aQ (As z z.length).bI (As z z.length).len (As z z.length).aS (CY z z.length) (by omega) hS z.length (by omega);obtain⟨r,r1,G⟩:=X;rw[Ze4,Y];subst L;have hw:O ((z.length:Int)-1)=(z.length:Int)-1:=Ad;unfold Md;rw[S];generalize Al (P3 M Z)=N at*;simp only[go_sem,ac,hw,r1];rw[ab (by simp)];cases U:KB z z.length with
  |none=>
   rw[U]at G;simp only at G;subst G;rfl
  |some i=>
   rw[U]at G;simp only at G;subst G;simp only[go_sem];by_cases V:smI (vE z i)/\(vE z i).bH≠0
   ·rw[aa V,aa V,T i U V.1]
   ·rw[ab V,ab V]
 ·rw[ab c]at L⊢;subst L;rw[Ze4,Y];simp only[go_sem];rw[aa c]
theorem Zwb (D:z.length<=15):NL [.vC Ae (z.map Af)]=some [I (if BY z=0 then Md z else 0)]:=Z2j D UZ (Zjl D)
def okU (s:Spk):Prop:=s.u.natAbs<=1000000/\s.w.natAbs<=1000000/\(0<=s.r/\s.r<=1000000)/\s.h.natAbs<=200000
theorem okU.s {s:Spk} (h:okU s):okS s:=⟨by have:=h.1;omega,by have:=h.2.1;omega,⟨h.2.2.1.1,by have:=h.2.2.1.2;omega⟩,by have:=h.2.2.2;omega⟩
theorem Z21 {a b:Spk} (D:okU a) (hb:okU b) {u w:Int} (G:u.natAbs<=100000000) (I:w.natAbs<=100000000):okU (ED a b u w):=by
 unfold ED;split
 ·exact⟨by simp,by simp,by simp,by simp⟩
 ·rename_i h;have L:=D.2.2;have M:=hb.2.2
  have N:0<=hf a.r b.r/\hf a.r b.r<=1000000:=by unfold hf;omega
  have O:(hf a.h b.h).natAbs<=200000:=by unfold hf;omega
  obtain⟨S,T⟩:=Qkp G I (r:=hf a.r b.r) (by omega) h;exact⟨by simp only;omega,by simp only;omega,N,O⟩
theorem Zkm {a b:Spk} (D:okU a) (hb:okU b) {dir:Int} (G:dir=1\/dir= -1) (bG:Bool):okU (B9 a b dir bG):=
 Z21 D hb (KD D.s hb.s G bG).1 (KD D.s hb.s G bG).2
theorem Yh {dir:Int} (G:dir=1\/dir= -1):∀(k:Nat) (bG:Bool) {a b:Spk},okU a->okU b->∀s∈BM dir k bG a b,okU s
 |0,_,a,b,_,hb,s,D=>by simp[BM]at D;subst D;exact hb
 |k+1,bG,a,b,I,hb,s,D=>by
  unfold BM at D;have L:=Zkm I hb G bG;split at D
  ·simp at D;subst D;exact hb
  ·rcases bq.1 D with D|D
   ·exact Yh G k false I L s D
   ·exact Yh G k false L hb s D
theorem Yey {n:Nat} (L:n<=300000000000):0<=EG n/\EG n<=1000000:=by
 obtain⟨r,D,G⟩:=Mu n;have I:=On D G;rw[NZ I];have:r<1000000:=by
  by_cases c:r<1000000
  ·exact c
  ·have:=cd (show 1000000<=r by omega) (show 1000000<=r by omega);omega
 split<;>omega
theorem Qng {pl:Int} (h:bd i a):(plU pl a).natAbs<=i/\(plW pl a).natAbs<=i/\(plH pl a).natAbs<=i:=D8 h
theorem Qs6 {it:Itm} (D:bd 4200 it.ce) (G:bd 4200 a):okU (Bv it a):=by
 obtain⟨O,S,T⟩:=Qng (pl:=it.aG) D;obtain⟨U,V,X⟩:=Qng (pl:=it.aG) G;have I:(dU it a*16).natAbs<=134400:=by unfold dU;omega
 have L:(dW it a*16).natAbs<=134400:=by unfold dW;omega
 have Y:=B7 I;have q2:=B7 L;obtain⟨-,-,N,-⟩:=LS (AI D (by omega)) (AI G (by omega));obtain⟨n,M⟩:=bc N;refine⟨bj I (by decide),bj L (by decide),?_,?_⟩
 ·show 0<=EG _/\EG _<=_;rw[M];refine Yey ?_;unfold sq2 at M;omega
 ·show(plH it.aG a*16).natAbs<=_;omega
theorem Yfs {it:Itm} {s:Spk} (D:bd 4200 it.ce) (G:okU s):bd B24 (II it s):=by
 obtain⟨I,L,-⟩:=Qng (pl:=it.aG) (DA D);obtain⟨s1,s2,-,M⟩:=G;exact Qop (by unfold B24;omega) (by unfold B24;omega) (by unfold B24;omega)
theorem Z5j {it:Itm} (h:Made it) (hf:bd 4084 it.fr):∀p∈Bs it,bd B24 p:=by
 have L:=Qyg h hf;intro p G;unfold Bs at G;split at G
 ·rename_i M;simp only[ba]at G;obtain⟨s,I,rfl⟩:=G;have D:bd 4200 it.ce:=AI (UU (h.arc M) (by omega) hf).2 (by omega);refine Yfs D ?_;rcases av.1 I with rfl|I
  ·exact Qs6 D (AI hf (by omega))
  ·exact Yh (h.arc M).dir 16 _ (Qs6 D (AI hf (by omega))) (Qs6 D (AI L (by omega))) s I
 ·simp at G;rcases G with rfl|rfl
  ·exact AI (DA hf) (by decide)
  ·exact AI (DA L) (by decide)
def VD (n:Nat) (g:Sgm):Prop:=bd B24 g.to/\0<=g.aU/\g.aU<n/\i64 g.aX
theorem Zci {n:Nat} {aU aZ aX:Int} (I:0<=aU/\aU<n) (M:i64 aX):∀(D:List Pt) (s:List Sgm×Int×Pt),(∀p∈D,bd B24 p)->(∀g∈s.1,VD n g)->∀g∈(D.foldl (AP aU aZ aX) s).1,VD n g
 |[],s,_,h=>h
 |q::D,s,N,h=>by
  rw[dz];refine Zci I M D _ (λp L=>N p (by simp[L])) ?_;unfold AP;split
  ·exact h
  ·intro g G;simp only[bq,eu]at G;rcases G with G|rfl
   ·exact h g G
   ·exact⟨N q (by simp),I.1,I.2,M⟩
structure PIn (n : Nat) (s : BSt) : Prop where
 aQ:bd B24 s.aQ
 aF:∀g∈s.aF,VD n g
 aD:∀m∈s.aD,0<=m.aU/\m.aU<n/\i64 m.at_
theorem Z6q (I:drawn (vE z i)) (hf:Jq z i u) (G:∀k<z.length,AB (vE z k)->drawn (vE z k)) (L:∀p∈Bs (vE z i),bd B24 p):∀p∈Bo z i u,bd B24 p:=by
 unfold Bo;by_cases O:smI (vE z i)
 ·rw[aa O];intro p D;rcases bq.1 D with D|D
  ·rcases bq.1 D with D|D
   ·unfold HQ at D;rcases hf with rfl|⟨f,rfl,S,M⟩
    ·rw[ab]at D;exact L p (dk D)
    ·rw[aa]at D;exact(Ig (aA:=z) (i:=(f:Int).toNat) (k:=i) (by simpa using M) I).1 p (dl D)
   ·simp at D;subst D;exact I_ I.1.2.1 I.1.2.2.1
  ·unfold JE at D;by_cases h:0<=Bf z i
   ·rw[aa h]at D;obtain⟨k,T,U,N⟩:=P0 G h;exact(Ig (aA:=z) (i:=i) (k:=(Bf z i).toNat) I (by rw[T];simpa using N)).1 p (dk D)
   ·rw[ab h]at D;exact L p (dl D)
 ·rw[ab O];exact L
theorem Ygu {it:Itm} (hf:it.aP=1\/1<=it.aZ/\it.aZ<=60000000):i64 (Gs it):=by
 unfold Gs;split
 ·rename_i h;unfold syI at h;unfold mn i64;split<;>omega
 ·unfold i64;omega
theorem Yhl {s:BSt} (O:i<z.length) (V:z.length<=15) (D:∀j<z.length,¬Bp (vE z j)) (S:∀j<z.length,AB (vE z j)->∀p∈Bs (vE z j),bd B24 p) (M:BOK z i s) (h:PIn z.length s):PIn z.length (Dz z i s):=by
 have L:∀k<z.length,AB (vE z k)->drawn (vE z k):=λk U G=>(Jc (D k U) G).1;have N:=Zhg O D M;have hlen:=M.len;have I:=N.len;unfold Dz at I⊢;by_cases G:AB (vE z i)
 ·rw[aa G]at I⊢;have T:=L i O G;refine⟨?_,Zci ⟨by omega,by omega⟩ (Ygu (Jc (D i O) G).2) _ _ (Z6q T M.frm L (S i O G)) h.aF,?_⟩
  ·show bd B24 (if s.bI=true then s.aQ else Av (vE z i).fr);split
   ·exact h.aQ
   ·exact DA T.1.2.1
  ·intro m G;simp only[bq,eu]at G;rcases G with G|rfl
   ·exact h.aD m G
   ·refine⟨by simp only;omega,by simp only;omega,?_⟩;simp only at I⊢;unfold i64;omega
 ·rw[ab G];refine⟨h.aQ,h.aF,?_⟩;intro m G;simp only[bq,eu]at G;rcases G with G|rfl
  ·exact h.aD m G
  ·refine⟨by simp only;omega,by simp only;omega,?_⟩;simp only;unfold i64;omega
theorem Q6y {aA:List Itm} (I:aA.length<=15) (D:∀j<aA.length,¬Bp (vE aA j)) (G:∀j<aA.length,AB (vE aA j)->∀p∈Bs (vE aA j),bd B24 p):∀i,i<=aA.length->PIn aA.length (As aA i)
 |0,_=>by rw[As];exact⟨by unfold bd;simp,λg h=>(by cases h),λg h=>(by cases h)⟩
 |i+1,L=>by rw[As];exact Yhl (by omega) I D G (LX D i (by omega)) (Q6y I D G i (by omega))
theorem Z15 (L:z.length<=15) (M:BY z=0) (G:∀j<z.length,AB (vE z j)->∀p∈Bs (vE z j),bd B24 p):bd B24 (AM z).aQ/\(∀g∈(AM z).aF,VD z.length g)/\(∀m∈(AM z).aD,0<=m.aU/\m.aU<z.length/\i64 m.at_)/\(AM z).aD.length=z.length:=by
 have D:=(Nb M).2;have I:=Q6y L D G z.length (bt _);exact⟨I.aQ,I.aF,I.aD,(LX D z.length (bt _)).aD⟩
theorem Zwv (O:z.length<=15) (M:BY z=0):i64 (Md z):=by
 have I:=Sg O M;have U:=Vu (Qpa I.aQ I.aF);have G:=I.count;have D:=(Nb M).2;have N:i64 (AT (AM z).aF):=by unfold i64;omega
 unfold Md;split
 ·rename_i i e;split
  ·rename_i c;obtain⟨S,-,-⟩:=Qa4 e;have T:AB (vE z i):=⟨by have:=c.1.1;omega,by have:=c.1.1;omega⟩;obtain⟨L,-⟩:=Jc (D i S) T;have:=Gf (AI (I_ L.1.2.1 L.1.2.2.1) (by decide)) (AI (DA L.1.2.2.1) (by decide));unfold i64;omega
  ·exact N
 ·exact N
theorem Us (n lo D:Int):Ha [I n,I lo,I D]=some [B (decide (lo<=n/\n<=D))]:=by
 show Qdu [I n,I lo,I D]=_;rw[Zlu];by_cases G:lo<=n<;>by_cases L:n<=D<;>simp[G,L]
theorem Zpf (N:∀n lo D:Int,M [I n,I lo,I D]=some [B (decide (lo<=n/\n<=D))]) {a:Axs} (h:AxOK a) (G:a.aW≠[]):
  ∃o,Al (Qbs M) (.vC Aa (a.aW.map At)::I a.aW.length::I 0::Bk a)=some o/\o.1=2:=by
 have V:=h.aO G;refine(?_:Out (λo:Nat×List AC=>o.1=2) _);refine DD (λi:Nat=> .vC Aa (a.aW.map At)::I a.aW.length::I (i:Int)::Bk a) (λi=>i<=a.aW.length) (λi=>a.aW.length-i) _ ?_ 0 (by simp);intro i D;have hc:=h.count;rw[Zv5];dsimp only[jA,gA,bA,wA];have O:∀j:Nat,j<a.aW.length->Ah (nth .vD (nth [] (a.aW.map At) j) 0)=a.aW.getD j 0:=λj S=>by
  have e:nth [] (a.aW.map At) j=At a.aW[j]:=by
   rw[Fs [] (a.aW.map At) j (by rw[ac];exact S),gh]
  rw[e,List.getD,ai S];rfl
 refine .cond (λk=> ?_) λ_=> .some (.inr ⟨by simp,rfl⟩);have k:(i:Int)<(a.aW.length:Int):=Cs k;have T:((a.aW.map At).length:Int)=a.aW.length:=by rw[ac]
 refine .cond (λ_=> ?_) λe=>(inB (by omega) (by rw[T];exact k) e).elim;have X: -4096<=a.aW.getD i 0/\a.aW.getD i 0<=4096:=by
  refine h.aW.1 _ ?_;rw[List.getD,ai (by omega)];exact bh _
 rw[af,O i (by omega),N];simp only[am,gA,wA,bA,jA,Gk,Fb];rw[ah X];refine .cond (λe=>by cases e) λ_=> ?_;have U:∀{x:List AC},x= .vC Aa (a.aW.map At)::I a.aW.length::I ((i:Int)+1)::Bk a->Out (λo:Nat×List AC=>(o.1=0/\∃L:Nat,o.2= .vC Aa (a.aW.map At)::I a.aW.length::I (L:Int)::Bk a/\L<=a.aW.length/\a.aW.length-L<a.aW.length-i)\/(o.1≠0/\o.1=2)) (some (0,x)):=λe=>
  .some (.inl ⟨rfl,i+1,by rw[e];rfl,by omega,by omega⟩)
 rw[Ad (x:=(i:Int)+1)];refine .cond (λg=> ?_) λ_=>U rfl;have g:(i:Int)>0:=Cs g;rw[Ad (x:=(i:Int)-1)];refine .cond (λ_=> ?_) λe=>(inB (by omega) (by rw[T];omega) e).elim;obtain⟨j,rfl⟩:∃j:Nat,i=j+1:=⟨i-1,by omega⟩;have hd:=h.aW.2 j (by omega);have Y: -4096<=a.aW.getD j 0/\a.aW.getD j 0<=4096:=by
  refine h.aW.1 _ ?_;rw[List.getD,ai (by omega)];exact bh _
 have ej:(((j+1:Nat):Int)-1).toNat=j:=by omega
 rw[ej,O j (by omega),N];simp only[am,gA,wA,bA,jA,Gk,Fb];have q1:a.aO.tdiv 4=a.aO/4:=co (by omega);rw[q1,Ad (x:=a.aO/4),Ad (x:=0-a.aO/4),Ad (x:=a.aW.getD (j+1) 0-a.aW.getD j 0)];refine .cond (λe=> ?_) λ_=>U rfl;rw[ah (show 0-a.aO/4<=a.aW.getD (j+1) 0-a.aW.getD j 0/\a.aW.getD (j+1) 0-a.aW.getD j 0<=a.aO/4 by omega)]at e;cases e
theorem Yks (G:∀n lo L:Int,M [I n,I lo,I L]=some [B (decide (lo<=n/\n<=L))]) {a:Axs} (h:AxOK a)
  (S:a.aW≠[]->∃o,N (.vC Aa (a.aW.map At)::I a.aW.length::I 0::Bk a)=some o/\o.1=2):Qa8 M N (Bk a)=some [B true]:=by
 have O:=h.aO;have V:=h.aV;have X:=h.count
 rw[Zr9];by_cases e:a.aW=[]
 ·rw[e];rfl
 ·have Y:0<a.aW.length:=List.length_pos_iff.2 e;obtain⟨o,T,U⟩:=S e;have O:=O e;have D:N [.vC Aa (a.aW.map At),I (a.aW.map At).length,I 0,I a.step,I a.aS,I a.bD,I a.bE,I a.low,I a.aY,I a.bB,I a.aV,I a.aO, .vC Aa (a.aW.map At)]=some o:=by rw[ac];exact T
  rw[BZ (by rw[ac];simp;omega),BZ (by rw[ac];simp;omega),G,G,D];simp only[am,gA,wA,bA,jA,Gk,Fb];rw[ah (show-16777216<=a.aV/\a.aV<=16777216 by omega),ah (show 4<=a.aO/\a.aO<=16777216 by omega),U];rfl
theorem Z2f {a:Axs} (h:AxOK a):QS (Bk a)=some [B true]:=Yks Us h λD=>Zpf Us h D
theorem Zsz (G:∀n lo D:Int,Z [I n,I lo,I D]=some [B (decide (lo<=n/\n<=D))]) {a:Axs} (h:AxOK a) (L:M (Bk a)=some [B true]):Qgy M Z (Bk a)=some [B true]:=by
 have N:=h.step;have hb:=h.bB;obtain⟨O,S,T,U,V,X,Y,l8⟩:=h.lim
 rw[Yig];simp only[G,am,Gk,Fb];rw[ah (show 4<=a.step/\a.step<=4096 by omega),ah (show 1<=a.aS/\a.aS<=1048576 by omega),ah (show 2<=a.bD/\a.bD<=1048576 by omega),ah (show 4<=a.bE/\a.bE<=1048576 by omega),ah (show a.low>= -16777216 by omega),ah (show a.aY<=16777216 by omega),ah (show a.low<=a.aY by omega),ah (show 0<=a.bB/\a.bB<=64 by omega)];simp only[aj];rw[L];rfl
theorem Zni {a:Axs} (h:AxOK a):Q4 (Bk a)=some [B true]:=Zsz Us h (Z2f h)
theorem Zv6 (G:∀n lo D:Int,M [I n,I lo,I D]=some [B (decide (lo<=n/\n<=D))]) {a:Axs} (h:AxOK a) {q:Int} (L:q.natAbs<=B24):Qm0 M (Bk a++[I q])=some [B true]:=by
 obtain⟨-,-,-,-,-,-,N,O⟩:=h.lim;refine cy (Zpn M ..) ?_;rw[G,ah (show a.low<=q/\q<=a.aY by unfold B24 at L;omega)];rfl
theorem Zr3 {a:Axs} (h:AxOK a) {q:Int} (D:q.natAbs<=B24):HS (Bk a++[I q])=some [B true]:=Zv6 Us h D
theorem Zpr {x:Ax3} (O:bd B24 p.aQ) (S:∀g∈p.aF,bd B24 g.to) (Y:p.aF.length<=1000000):
  Out (λo:Nat×List AC=>o.1=1/\∃D:List Pt,o.2= .vC kPt (D.map ptR)::AK x/\(∀q∈D,bd B24 q)/\D.length<=1000001) (Al (QR M) (.vC kPt [ptR p.aQ]:: .vC Ag (p.aF.map Az)::I (p.aF.map Az).length::I 0::AK x)):=by
 refine DD (λs:Nat×List Pt=> .vC kPt (s.2.map ptR):: .vC Ag (p.aF.map Az)::I (p.aF.map Az).length::I (s.1:Int)::AK x) (λs=>s.1<=p.aF.length/\(∀q∈s.2,bd B24 q)/\s.2.length=s.1+1) (λs=>p.aF.length-s.1) _ ?_ (0,[p.aQ]) ⟨by simp,by simpa using O,rfl⟩;rintro⟨i,D⟩ ⟨T,N,U⟩;dsimp only at T N U;refine Out.eqv (Z3a M ..) ?_;have L:((p.aF.map Az).length:Int)=p.aF.length:=by rw[ac]
 refine .cond (λk=> ?_) λ_=> .some (.inr ⟨by simp,rfl,D,rfl,N,by omega⟩);have k:(i:Int)<((p.aF.map Az).length:Int):=Cs k;rw[L]at k;refine .cond (λ_=> ?_) λe=>(inB (by omega) (by rw[L];exact k) e).elim;have V:nth [] (p.aF.map Az) (i:Int).toNat=Az p.aF[i]:=by
  rw[af,Fs [] _ i (by rw[ac];omega),gh]
 rw[V];have X:=S _ (bh (show i<p.aF.length by omega));refine .cond (λ_=> ?_) λe=>by rw[Dp (by simp;omega)]at e;cases e
 refine .some (.inl ⟨rfl,(i+1,D++[p.aF[i].to]),?_,⟨by dsimp only;omega,?_,by simp;omega⟩,by dsimp only;omega⟩)
 ·rw[Ad (x:=(i:Int)+1),bp];rfl
 ·intro q G;dsimp only at G;simp only[bq,eu]at G;rcases G with G|rfl
  ·exact N q G
  ·exact X
theorem Z0b (L:∀{a:Axs} {q:Int},AxOK a->q.natAbs<=B24->M (Bk a++[I q])=some [B true]) {x:Ax3} (O:Ax3M x) {D:List Pt} (S:∀q∈D,bd B24 q) (Y:D.length<=1000001):
  Out (λo:Nat×List AC=>o.1=2) (Al (Ve M N) (.vC kPt (D.map ptR)::I (D.map ptR).length::I 0::AK x)):=by
 refine DD (λi:Nat=> .vC kPt (D.map ptR)::I (D.map ptR).length::I (i:Int)::AK x) (λi=>i<=D.length) (λi=>D.length-i) _ ?_ 0 (by simp);intro i h1;refine Out.eqv (Z6u M N ..) ?_;have G:((D.map ptR).length:Int)=D.length:=by rw[ac]
 refine .cond (λk=> ?_) λ_=> .some (.inr ⟨by simp,rfl⟩);have k:(i:Int)<((D.map ptR).length:Int):=Cs k;rw[G]at k;refine .cond (λ_=> ?_) λe=>(inB (by omega) (by rw[G];exact k) e).elim;have T:nth [] (D.map ptR) (i:Int).toNat=ptR D[i]:=by
  rw[af,Fs [] _ i (by rw[ac];omega),gh]
 rw[T];obtain⟨U,V,X⟩:=S _ (bh (show i<D.length by omega));refine .bind (p:=λo=>o=[B true]) ⟨_,L O.a U,rfl⟩ λo e=> ?_;subst e;refine .cond (λe=>by cases e) λ_=> ?_;refine .bind (p:=λo=>o=[B true]) ⟨_,L O.b V,rfl⟩ λo e=> ?_;subst e;refine .cond (λe=>by cases e) λ_=> ?_;refine .bind (p:=λo=>o=[B true]) ⟨_,L O.c X,rfl⟩ λo e=> ?_;subst e;refine .cond (λe=>by cases e) λ_=> ?_;exact .some (.inl ⟨rfl,i+1,by rw[Ad (x:=(i:Int)+1)];rfl,by omega,by omega⟩)
theorem Zzs {N3 N8:Lp} {x:Ax3}
  (N:Out (λo:Nat×List AC=>o.1=1/\∃D:List Pt,o.2= .vC kPt (D.map ptR)::AK x/\(∀q∈D,bd B24 q)/\D.length<=1000001) (N3 (.vC kPt [ptR p.aQ]:: .vC Ag (p.aF.map Az)::I (p.aF.map Az).length::I 0::AK x)))
  (O:∀{D:List Pt},(∀q∈D,bd B24 q)->D.length<=1000001->Out (λo:Nat×List AC=>o.1=2) (N8 (.vC kPt (D.map ptR)::I (D.map ptR).length::I 0::AK x))):
  Out (λo=>o=[B true]) (Qa2 M N3 N8 (AK x++Bj p)):=by
 refine Out.eqv (Z2c M N3 N8 ..) ?_;refine .bind N λo q=> ?_;obtain⟨o1,o2⟩:=o;obtain⟨G,D,L,S,T⟩:=q;dsimp only at G L;subst G L;refine .cond (λ_=> ?_) λe=>by cases e
 refine .bind (O S T) λo q=> ?_;rw[q];exact .some rfl
theorem Zle {x:Ax3} (D:Ax3M x) (G:bd B24 p.aQ) (I:∀g∈p.aF,bd B24 g.to) (L:p.aF.length<=1000000):Qx (AK x++Bj p)=some [B true]:=by
 obtain⟨o,h,rfl⟩:=Zzs (M:=HS) (N3:=Al (QR HS)) (N8:=Al (Ve HS (Al (QR HS)))) (Zpr (x:=x) G I L) (λN O=>Z0b (λS T=>Zr3 S T) D N O);exact h
theorem Yhe:∃v:Int,RH [I 30000]=some [I v]/\60000<=v:=by
 have key:∀{M:Fn} {v:Int},M [I 30000,I 1048576,I 60000,I 2]=some [I v,B true]->Qgx M [I 30000]=some [I v]:=λh=>by
  rw[Z4f,h];rfl
 refine⟨_,key (T5 (by unfold i64;omega) (by unfold i64;omega) (by omega) (by decide)),?_⟩;unfold Bb;omega
theorem Zvl {x:Ax3} (D:Ax3M x) {pa pb pc bF lag:Int} (T:Plan3 pa pb pc) (G:1<=bF/\bF<=60000) (L:0<=lag/\lag<=40)
  (hV:∀{a:Axs},AxOK a->W (Bk a)=some [B true]) (N:Z [I pa,I pb,I pc]=some [B true]) (O:∃v:Int,M [I 30000]=some [I v]/\60000<=v):Out (λo=>o=[B true]) (WY M Z W (AK x++[I pa,I pb,I pc,I bF,I lag])):=by
 refine Out.eqv (Z85 M Z W ..) ?_;refine .bind (p:=λo=>o=[B true]) ⟨_,hV D.a,rfl⟩ λo e=> ?_;subst e;refine .cond (λe=>by cases e) λ_=> .bind (p:=λo=>o=[B true]) ⟨_,hV D.b,rfl⟩ λo e=> ?_;subst e;refine .cond (λe=>by cases e) λ_=> .bind (p:=λo=>o=[B true]) ⟨_,hV D.c,rfl⟩ λo e=> ?_;subst e;refine .cond (λe=>by cases e) λ_=> .bind (p:=λo=>o=[B true]) ⟨_,N,rfl⟩ λo e=> ?_;subst e;obtain⟨v,S,U⟩:=O;refine .cond (λ_=> .cond (λ_=> ?_) λe=>absurd G.1 (B3 e)) λe=>by cases e
 refine .bind (p:=λo=>o=[I v]) ⟨_,S,rfl⟩ λo e=> ?_;subst e;refine .cond (λ_=> .cond (λ_=> ?_) λe=>absurd L.1 (B3 e)) λe=>absurd (show bF<=v by omega) (B3 e);exact .some (by rw[ah (show lag<=1048576 by omega)])
theorem Z8a {x:Ax3} (G:Ax3M x) {pa pb pc bF lag:Int} (D:Plan3 pa pb pc) (L:1<=bF/\bF<=60000) (M:0<=lag/\lag<=40):RJ (AK x++[I pa,I pb,I pc,I bF,I lag])=some [B true]:=by
 have N:Fm [I pa,I pb,I pc]=some [B true]:=by rw[TU,ah (show 1<=pa/\pa<=65536/\2<=pb/\pb<=65536/\1<=pc/\pc<=16777216 from⟨D.a.1,D.a.2,D.b.1,D.b.2,D.c.1,D.c.2⟩)]
 obtain⟨o,h,rfl⟩:=Zvl G D L M Zni N Yhe;exact h
theorem Ybm {x:Ax3} (O:Ax3M x) (D G L M N:Int):QL (AK x++[I D,I G,I L,I M,I N])=some (AK x++[I D,I G,I L,I M,I N]):=by
 have S:=O.a.count;have hb:=O.b.count;have T:=O.c.count
 have key:Qdh (AK x++[I D,I G,I L,I M,I N])=some (AK x++[I D,I G,I L,I M,I N]):=by
  refine cy (Zkj ..) ?_;rw[Dp (by rw[ac];omega),Dp (by rw[ac];omega),Dp (by rw[ac];omega)];rfl
 exact key
abbrev Q4t (K:Kf):Kf:=⟨K.x,K.pa,K.pb,K.pc,K.bF,K.lag,[],false,⟨⟨0,0,0⟩,[],[]⟩,0,0,⟨[],0,0,⟨0,0,0⟩⟩⟩
abbrev YR (K:Kf):Kf:=⟨K.x,K.pa,K.pb,K.pc,K.bF,K.lag,K.aA,K.closed,K.p,K.len,K.set,⟨[],0,0,⟨0,0,0⟩⟩⟩
abbrev CR:Cv:=⟨0,0,0,0,0,0,100,100,false,false,false,0,0,-1,1,0,0,0,0,0,0,0,0,false,0,false,0,false,0,-1,0,0,0,0,0,0,0,false,false,false⟩
noncomputable abbrev kfP (x:Ax3) (pa pb pc bF lag:Int) (aA:List Itm) (closed:Bool):Kf:=⟨x,pa,pb,pc,bF,lag,aA,closed,AM aA,AT (AM aA).aF,Md aA,EK (AM aA) x ⟨1,1,1⟩ 0 (AT (AM aA).aF)⟩
theorem Z2g (U:K.aA.length<=15) (i0:List Itm) (G:Bool) (L:Pth) (N s0:Int) (D:Trk) (c:Cv)
  (hB:V [.vC Ae (K.aA.map Af)]=some (Bj K.p++[I 0])) (O:W (AK K.x++Bj K.p)=some [B true]) (S:Z (Bj K.p)=some [I K.len]) (T:M [.vC Ae (K.aA.map Af)]=some [I K.set]):
  Q0 M Z W V (.vC Ae (K.aA.map Af)::B K.closed::Aj ⟨K.x,K.pa,K.pb,K.pc,K.bF,K.lag,i0,G,L,N,s0,D⟩ c)=some (I 0::Aj ⟨K.x,K.pa,K.pb,K.pc,K.bF,K.lag,K.aA,K.closed,K.p,K.len,K.set,D⟩ c):=by
 have key:Out (λo=>o=I 0::Aj ⟨K.x,K.pa,K.pb,K.pc,K.bF,K.lag,K.aA,K.closed,K.p,K.len,K.set,D⟩ c) (Q0 M Z W V (.vC Ae (K.aA.map Af)::B K.closed::Aj ⟨K.x,K.pa,K.pb,K.pc,K.bF,K.lag,i0,G,L,N,s0,D⟩ c)):=by
  refine Out.eqv (Zoo M Z W V _ _ ⟨K.x,K.pa,K.pb,K.pc,K.bF,K.lag,i0,G,L,N,s0,D⟩ c) ?_;refine .bind (p:=λo=>o=_) ⟨_,hB,rfl⟩ λo e=> ?_;subst e;refine .cond (λe=>by cases e) λ_=> ?_;refine .bind (p:=λo=>o=_) ⟨_,O,rfl⟩ λo e=> ?_;subst e;refine .cond (λe=>by cases e) λ_=> .cond (λ_=> ?_) λe=>by rw[Dp (by rw[ac];omega)]at e;cases e
  refine .bind (p:=λo=>o=_) ⟨_,S,rfl⟩ λo e=> ?_;subst e;refine .bind (p:=λo=>o=_) ⟨_,T,rfl⟩ λo e=> ?_;subst e;exact .some rfl
 obtain⟨o,h,rfl⟩:=key;exact h
theorem Zkb (D:K.aA.length<=15) (c:Cv)
  (hB:V [.vC Ae (K.aA.map Af)]=some (Bj K.p++[I 0])) (G:W (AK K.x++Bj K.p)=some [B true]) (L:Z (Bj K.p)=some [I K.len]) (N:M [.vC Ae (K.aA.map Af)]=some [I K.set]):
  Q0 M Z W V (.vC Ae (K.aA.map Af)::B K.closed::Aj (Q4t K) c)=some (I 0::Aj (YR K) c):=
 Z2g D [] false ⟨⟨0,0,0⟩,[],[]⟩ 0 0 ⟨[],0,0,⟨0,0,0⟩⟩ c hB G L N
theorem Z14
  (D:H (AK K.x++[I K.pa,I K.pb,I K.pc,I K.bF,I K.lag])=some [B true]) (G:S (AK K.x++[I K.pa,I K.pb,I K.pc,I K.bF,I K.lag])=some (AK K.x++[I K.pa,I K.pb,I K.pc,I K.bF,I K.lag]))
  (L:T []=some [I 100,I 100,B false,B false,B false]) (N:V []=some [I 0,I 0,I (-1)])
  (O:W (.vC Ae (K.aA.map Af)::B K.closed::Aj (Q4t K) CR)=some (I 0::Aj (YR K) CR))
  (U:Z (Bj K.p++AK K.x++[I 1,I 1,I 1,I 0,I K.len])=some (Bt K.t)) (X:M [I 0]=some [I 0,I 0,I 0,I 0,I 0,I 0]):
  Tj M Z W V T S H (AK K.x++[I K.pa,I K.pb,I K.pc,I K.bF,I K.lag]++[.vC Ae (K.aA.map Af),B K.closed])=some (I 0::Aj K CR):=by
 have key:Out (λo=>o=I 0::Aj K CR) (Tj M Z W V T S H (AK K.x++[I K.pa,I K.pb,I K.pc,I K.bF,I K.lag]++[.vC Ae (K.aA.map Af),B K.closed])):=by
  refine Out.eqv (Zk3 M Z W V T S H ..) ?_;refine .bind (p:=λo=>o=_) ⟨_,D,rfl⟩ λo e=> ?_;subst e;refine .cond (λe=>by cases e) λ_=> ?_;refine .bind (p:=λo=>o=_) ⟨_,G,rfl⟩ λo e=> ?_;subst e;refine .bind (p:=λo=>o=_) ⟨_,L,rfl⟩ λo e=> ?_;subst e;refine .bind (p:=λo=>o=_) ⟨_,N,rfl⟩ λo e=> ?_;subst e;refine .bind (p:=λo=>o=I 0::Aj (YR K) CR) ⟨_,O,rfl⟩ λo e=> ?_;subst e;refine .cond (λe=>by cases e) λ_=> ?_;refine .bind (p:=λo=>o=_) ⟨_,U,rfl⟩ λo e=> ?_;subst e;refine .bind (p:=λo=>o=_) ⟨_,X,rfl⟩ λo e=> ?_;subst e;exact .some (by kernel_rfl)
 obtain⟨o,h,rfl⟩:=key;exact h
structure MachOK (x : Ax3) (pa pb pc bF lag : Int) : Prop where
 x:Ax3M x
 plan:Plan3 pa pb pc
 bF:1<=bF/\bF<=60000
 lag:0<=lag/\lag<=40
theorem Zgh {x:Ax3} (D:MachOK x u r v k y) {aA:List Itm} (M:aA.length<=15) (N:BY aA=0) (S:∀j<aA.length,AB (vE aA j)->∀p∈Bs (vE aA j),bd B24 p) (T:∀it∈aA,it.aP=8->i64 it.aS) (closed:Bool):
  I2 (AK x++[I u,I r,I v,I k,I y]++[.vC Ae (aA.map Af),B closed])=some (I 0::Aj (kfP x u r v k y aA closed) CR)/\KOK (kfP x u r v k y aA closed):=by
 have G:=Sg M N;obtain⟨i1,V,X,i4⟩:=Z15 M N S;have hs:=Vu (Qpa G.aQ G.aF);have O:=G.count;refine⟨?_,?_⟩
 ·have hB:NJ [.vC Ae (aA.map Af)]=some (Bj (AM aA)++[I 0]):=by rw[Z1g M,aa N]
  have Y:NL [.vC Ae (aA.map Af)]=some [I (Md aA)]:=by rw[Zwb M,aa N]
  have hR:=Zle D.x i1 (λg h=>(V g h).1) (by omega);have hT:=Yc9 (d:=⟨1,1,1⟩) (from_:=0) (to:=AT (AM aA).aF) G D.x.ok;have L:=Zkb (K:=kfP x u r v k y aA closed) M CR hB hR (Zdw G.ok) Y;have hO:QJ []=some [I 100,I 100,B false,B false,B false]:=by show Qio []=_;rw[Ydl]
  have hG:J2 []=some [I 0,I 0,I (-1)]:=by show Xc []=_;rw[Zn8]
  have U:Jy [I 0]=some [I 0,I 0,I 0,I 0,I 0,I 0]:=Q4x 0;exact Z14 (K:=kfP x u r v k y aA closed) (Z8a D.x D.plan D.bF D.lag) (Ybm D.x ..) hO hG L hT U
 ·refine⟨⟨G,D.x,Zvi _ _ _ D.x.ok G⟩,D.plan,λg h=>(V g h).2,X,?_,?_,?_,Zwv M N⟩
  ·show(AM aA).aD.length<=1000000;omega
  ·exact T
  ·show i64 (AT (AM aA).aF);unfold i64;omega
theorem Zhc {x:Ax3} (D:MachOK x u d r v k) {aA:List Itm} (M:aA.length<=15) {N:Pt} (G:Items 4084 N aA) (closed:Bool):
  I2 (AK x++[I u,I d,I r,I v,I k]++[.vC Ae (aA.map Af),B closed])=some (I 0::Aj (kfP x u d r v k aA closed) CR)/\KOK (kfP x u d r v k aA closed):=
 Zgh D M (Za4 (by omega) G (show aA.length <= 20000 by omega)) (λj O D => by
  rcases G.made _ (Zjd O)with⟨-,g2,-,S,-⟩|g
  ·exact Z5j g2 S
  ·exact absurd D (Q18 g)) (λit L T=>by
  rcases G.made it L with⟨-,-,g,-⟩|g
  ·rw[g.2.2.2.1];unfold i64;omega
  ·have:=g.spin T;unfold i64;omega) closed
end Go.Bm
namespace Go.Bm
structure Evn where
 (cycle aP n:Int)
abbrev evR (e:Evn):List AC:=[I e.cycle,I e.aP,I e.n]
theorem Q8y (E:List Evn) {i:Nat} (h:i<E.length):nth [] (E.map evR) (i:Int).toNat=evR E[i]:=by
 rw[af,Fs [] _ i (by rw[ac];exact h),gh]
theorem Zpu {α:Type} (P:α->Bool) (E:List α) {i:Nat} (h:i<E.length):(E.take (i+1)).filter P=(E.take i).filter P++(if P E[i]=true then [E[i]]else []):=by
 rw[ig,List.filter_append,ai h];congr 1;by_cases c:P E[i]=true
 ·rw[aa c];simp[c]
 ·rw[ab c];simp[c]
theorem Zuu {P:Evn->Bool} {E:List Evn} (L:E.length<=1000000) {D:Lp} {enc:Rw->Nat->List AC}
  (G:∀(l:Rw) (i:Nat),i<=E.length->l.length<=i->D (enc l i)=if h:i<E.length then some (0,enc (l++(if P E[i]=true then [evR E[i]]else [])) (i+1))else some (1,[.vC kPt l])):
  Al D (enc [] 0)=some (1,[.vC kPt ((E.filter P).map evR)]):=by
 have key:Out (λo=>o=(1,[.vC kPt ((E.filter P).map evR)])) (Al D (enc [] 0)):=by
  refine DD (λi:Nat=>enc (((E.take i).filter P).map evR) i) (λi=>i<=E.length) (λi=>E.length-i) _ ?_ 0 (by simp);intro i I;rw[G _ _ I (by rw[ac];exact bj (List.length_filter_le _ _) (by simp;omega))];by_cases h:i<E.length
  ·rw[jb h];refine .some (.inl ⟨rfl,i+1,?_,by omega,by omega⟩);rw[Zpu P E h];by_cases c:P E[i]=true
   ·rw[aa c,aa c,bp];rfl
   ·rw[ab c,ab c,gr,gr]
  ·rw[dif_neg h];refine .some (.inr ⟨by simp,?_⟩);rw[ia (by omega)]
 obtain⟨o,h,rfl⟩:=key;exact h
theorem Ztc {D MF:Fn} (G:Je l D) (N:MF [.vC Aa l]=some [.vC Aa l,I 0]):
  ∃a b c:Int,V2 D MF [.vC Aa l]=some [I a,I b,I c]/\(1<=a/\a<=900)/\(2<=b/\b<=201)/\(1<=c/\c<=16000):=by
 obtain⟨v,M,g1,T,U,-⟩:=G 0 (n:=900) (by omega);obtain⟨w,O,g2,w0,V,-⟩:=G M (n:=200) (by omega);obtain⟨y,X,S,y0,y1,-⟩:=G O (n:=16000) (by omega);have L:D [I 900, .vC Aa l,I 0]=some [I v, .vC Aa l,I M]:=g1;refine⟨1+v,2+w,1+y,?_,by omega,by omega,by omega⟩;rw[Z8f,N];simp only[am,gA,wA,bA,jA,Gk,LT,JL,AX];rw[L];simp only[am,Gk,LT,JL];rw[g2];simp only[am,Gk,LT,JL];rw[S];simp only[am,Gk,LT,JL];rw[Ad (x:=1+v),Ad (x:=2+w),Ad (x:=1+y)]
theorem Zqi {D MP G MF:Fn} {l m:Rw} (L:Je m D) (M:MF [.vC Aa m]=some [.vC Aa m,I 0]) {x:Ax3} (N:G [.vC Aa l]=some (AK x)) (O:Ax3M x) {a b c:Int} (S:MP [.vC Aa m]=some [I a,I b,I c]) (V:1<=a/\a<=900) (X:2<=b/\b<=201) (Y:1<=c/\c<=16000) (T:m.length<=100000):
  ∃bF lag:Int,YT D MP G MF [.vC Aa l, .vC Aa m]=some (AK x++[I a,I b,I c,I bF,I lag])/\MachOK x a b c bF lag:=by
 obtain⟨k0,hk0⟩:∃k0:Nat,mn 3 (m.length:Int)=k0:=⟨(mn 3 (m.length:Int)).toNat,by unfold mn;split<;>omega⟩;obtain⟨v,U,g1,v0,v1,-⟩:=L k0 (n:=60000) (by omega);obtain⟨w,k2,g2,w0,w1,-⟩:=L U (n:=40) (by omega);refine⟨1+v,w,?_,⟨O,⟨by omega,by omega,by omega⟩,by omega,by omega⟩⟩;rw[Z72,M,N,S];simp only[am,gA,wA,bA,jA,Gk,LT,JL,AX];rw[hk0,g1];simp only[am,Gk,LT,JL];rw[g2];simp only[am,Gk,LT,JL];rw[Ad (x:=1+v)];rfl
theorem Ydt (L:List (Rw)) (D:L.length<=1000):Out (λo=>o.1=1/\o.2=[B false]\/o.1=2/\∀l∈L,l.length<=60) (Al TW [.vC [Kd.sl Aa] (L.map λl=>[.vC Aa l]),I L.length,I ((0:Nat):Int)]):=by
 refine DD (λi:Nat=>[.vC [Kd.sl Aa] (L.map λl=>[.vC Aa l]),I L.length,I (i:Int)]) (λi=>i<=L.length/\∀l∈L.take i,l.length<=60) (λi=>L.length-i) _ ?_ 0 (by simp);rintro i ⟨N,G⟩;rw[Z82];refine .cond (λc=> ?_) λc=> .some (.inr ⟨by simp, .inr ⟨rfl,?_⟩⟩)
 ·have c:(i:Int)<(L.length:Int):=Cs c;have M:i<L.length:=by omega
  refine .cond (λ_=> ?_) λe=>(inB (by omega) (by rw[ac];exact c) e).elim;rw[af,Fs [] _ i (by rw[ac];exact M),gh];refine .cond (λ_=> .some (.inr ⟨by simp, .inl ⟨rfl,rfl⟩⟩)) λq=> ?_;have q: ¬(L[i].length:Int)>60:=B3 q;rw[Ad (x:=(i:Int)+1)];refine .some (.inl ⟨rfl,i+1,rfl,⟨by omega,?_⟩,by omega⟩);intro l D;rw[ig,ai M]at D;rcases bq.1 D with D|D
  ·exact G l D
  ·simp at D;subst D;omega
 ·have c: ¬(i:Int)<(L.length:Int):=B3 c;rw[ia (by omega)]at G;exact G
theorem Ydb {L:List (Rw)} (I:L.length<=1000):∃b:Bool,KK [.vC [Kd.sl Aa] (L.map λl=>[.vC Aa l])]=some [B b]/\(b=true->∀l∈L,l.length<=60):=by
 obtain⟨o,M,N⟩:=Ydt L I;have e:KK [.vC [Kd.sl Aa] (L.map λl=>[.vC Aa l])]=WL (Al TW) [.vC [Kd.sl Aa] (L.map λl=>[.vC Aa l])]:=rfl;rw[e,Z71,ac];rw[show(0:Int)=((0:Nat):Int)from rfl,M];obtain⟨o1,o2⟩:=o;rcases N with⟨D,G⟩|⟨D,G⟩
 ·dsimp only at D G;subst D G;exact⟨false,rfl,λh=>by cases h⟩
 ·dsimp only at D G;subst D;exact⟨true,rfl,λ_=>G⟩
abbrev Zvp:Itm:=⟨0,0,⟨0,0,0⟩,⟨0,0,0⟩,0,⟨0,0,0⟩,0,false,0,false,0,0,0,0,0,false⟩
def itK (K:Kf) (i:Int):Itm:=K.aA.getD i.toNat Zvp
def mkK (K:Kf) (i:Int):Mrk:=K.p.aD.getD i.toNat ⟨0,0,0⟩
theorem Zfm (D:0<=u) (G:u<K.aA.length):nth [] (K.aA.map Af) u.toNat=Af (itK K u):=by
 have h:u.toNat<K.aA.length:=by omega
 rw[Zyw K h];unfold itK;rw[List.getD,ai h];rfl
theorem NI (D:0<=u) (G:u<K.p.aD.length):nth [] (K.p.aD.map Aq) u.toNat=Aq (mkK K u):=by
 have h:u.toNat<K.p.aD.length:=by omega
 rw[Ydk K h];unfold mkK;rw[List.getD,ai h];rfl
theorem Zet (h:KOK K) {i:Int} (G:0<=i) (I:i<K.p.aD.length):0<=(mkK K i).aU/\(mkK K i).aU<K.aA.length/\i64 (mkK K i).at_:=by
 have D:i.toNat<K.p.aD.length:=by omega
 unfold mkK;rw[List.getD,ai D];exact h.aD _ (bh D)
theorem inR {n:Nat} (D:0<=u) (G:u<(n:Int)):(decide (0<=u)&&decide (u<(n:Int)))=true:=by
 rw[ah D,ah G];rfl
theorem inM {β:Type} {f:β->List AC} {i:Int} {l:List β} (D:0<=i) (G:i<(l.length:Int)):(decide (0<=i)&&decide (i<((l.map f).length:Int)))=true:=inR D (by rw[ac];exact G)
def HW (K:Kf) (c:Cv):Option Sgm:=K.p.aF[(Bh K.p.aF (max (Do K c) 0)).1]?
def vF (K:Kf) (c:Cv):Sgm:=(HW K c).getD sg0
theorem Qwg {c:Cv} {g:Sgm} (h:HW K c=some g):g∈K.p.aF:=bz h
theorem Ydn {c:Cv} (G:Z (Aj K c)=some [I (Do K c)])
  (L:M (Bj K.p++[I (Do K c)])=if K.p.aF=[]then some [I (-1),I 0]else some [I (Bh K.p.aF (max (Do K c) 0)).1,I (Bh K.p.aF (max (Do K c) 0)).2]):
  Qua M Z (Aj K c)=some (Az (vF K c)++[B (HW K c).isSome]):=by
 rw[Zre];refine eB G (cy (ie (λz=>Option.bind z _) (show M (Bj K.p++[I (Do K c)])=_ from L)) ?_);by_cases e:K.p.aF=[]
 ·have e2:HW K c=none:=by unfold HW;rw[e];rfl
  unfold vF;rw[aa e,e2];rfl
 ·have D:=Qc8 K.p.aF (max (Do K c) 0) e;have e2:HW K c=some K.p.aF[(Bh K.p.aF (max (Do K c) 0)).1]:=ai D;unfold vF;rw[ab e,e2];refine eB rfl (eF (al (show¬((Bh K.p.aF (max (Do K c) 0)).1:Int)<0 by omega)) (eT (inM (f:=Az) (l:=K.p.aF) (i:=((Bh K.p.aF (max (Do K c) 0)).1:Int)) (by omega) (by omega)) ?_));have N:nth [] (K.p.aF.map Az) ((Bh K.p.aF (max (Do K c) 0)).1:Int).toNat=Az K.p.aF[(Bh K.p.aF (max (Do K c) 0)).1]:=by
   rw[af,Fs [] _ _ (by rw[ac];exact D),gh]
  show some (AE Ag (nth [] (K.p.aF.map Az) ((Bh K.p.aF (max (Do K c) 0)).1:Int).toNat)++[B true])=_;rw[N];rfl
theorem Zfw (h:KOK K) (c:Cv):HY (Aj K c)=some (Az (vF K c)++[B (HW K c).isSome]):=
 Ydn (Zfl h c) (VX h.f.p.ok (Qs8 h.f _))
def Nu (K:Kf) (c:Cv):Bool:=(HW K c).isSome&&((itK K (vF K c).aU).aP==6&&c.y0==(vF K c).aU)
theorem Zkx {c:Cv} (h:KOK K) (I:M (Aj K c)=some (Az (vF K c)++[B (HW K c).isSome])):VI M (Aj K c)=some [B (Nu K c)]:=by
 rw[Zke,I];unfold Nu vF;cases e:HW K c with
 |none=>rfl
 |some g=>
  obtain⟨D,G,-⟩:=h.aF g (Qwg e);refine eB rfl (eT rfl (eT (inM (f:=Af) D G) ?_));show cond (gA (nth [] (K.aA.map Af) g.aU.toNat) 0==6) (some [B (c.y0==g.aU)]) (some [B false])=some [B (true&&((itK K g.aU).aP==6&&c.y0==g.aU))];rw[Zfm D G];show cond ((itK K g.aU).aP==6) (some [B (c.y0==g.aU)]) (some [B false])=_;cases((itK K g.aU).aP==6)<;>rfl
theorem Z75 (h:KOK K) (c:Cv):Mp (Aj K c)=some [B (Nu K c)]:=Zkx h (Zfw h c)
def spV (c:Cv) (bF:Int):Int:=if c.s1<c.s2 then mn (O (c.s1+bF)) c.s2 else mx (O (c.s1-bF)) c.s2
def spS (c:Cv) (bF:Int):Cv:={c with s1:=spV c bF,s3:=O (c.s3+O (c.s0*spV c bF))}
theorem Z9h (c:Cv) (bF:Int):Ll [I c.s0,I c.s1,I c.s2,I c.s3,I bF]=some [I (spS c bF).s0,I (spS c bF).s1,I (spS c bF).s2,I (spS c bF).s3]:=by
 show YG _=_;rw[Z1f];show _=some [I c.s0,I (spV c bF),I c.s2,I (O (c.s3+O (c.s0*spV c bF)))];unfold spV;by_cases h:c.s1<c.s2
 ·rw[BO (ah h),aa h]
 ·rw[BZ (al h),ab h]
def FA (c:Cv):Bool:=c.m1==0&&(c.m2==0&&(c.m3==c.m0&&c.m4==c.m0))
theorem Z83 (c:Cv):Lu [I c.m0,I c.m1,I c.m2,I c.m3,I c.m4,I c.m5]=some [B (FA c)]:=by
 show Qef _=_;rw[Z9v];unfold FA;cases(c.m1==0)<;>cases(c.m2==0)<;>cases(c.m3==c.m0)<;>rfl
def Qvz (b:Bool) (n:Int):Bool:=if n=0 then false else if n=1 then true else b
def YX (k n:Int):Bool:=k==9||(k==8&&(decide (0<=n)&&decide (n<=2)))
def evC (c:Cv) (k n:Int):Cv:={c with
 o0:=if k=1/\0<=n/\n<=200 then n else c.o0
 o1:=if k=2/\0<=n/\n<=100 then n else c.o1
 o2:=if k=3\/k=11 then true else if k=4 then false else c.o2
 o3:=if k=5 then Qvz c.o3 n else c.o3
 o4:=if k=6 then Qvz c.o4 n else c.o4
 g0:=if k=10 then 2 else if k=11 then 0 else if YX k n=true then(if c.g0=2 then 2 else 1)else c.g0
 g1:=if k=10 then 22 else if k=11 then 0 else if YX k n=true/\c.g0≠2/\c.g1=0 then(if k=9 then 21 else 20)else c.g1
 g2:=if k=10 then-1 else if k=11 then-1 else if YX k n=true/\c.g0≠2/\c.g1=0 then(if k=9 then-1 else n)else c.g2
 aJ:=if k=4 then true else c.aJ}
end Go.Bm
noncomputable section
namespace Go.Bm
def one (M:Fn) (l:List AC):Int:=gA ((M l).getD []) 0
theorem Ybe {l:List AC} (h:M l=some [I v]):M l=some [I (one M l)]:=by
 unfold one;rw[h];rfl
def HV (k:Int) (c:Cv):Bool:=k==1||(k==3||(k==6||(k==4&&(c.o4||c.o3)||k==2&&c.o3)))
theorem Q0c (at_ k it:Int) (c:Cv):IA [I at_,I k,I it,I c.o0,I c.o1,B c.o2,B c.o3,B c.o4]=some [B (HV k c)]:=by
 show Qpq _=_;rw[Yhr];unfold HV;by_cases D:k=1
 ·subst D;rfl
 by_cases G:k=3
 ·subst G;rfl
 by_cases L:k=6
 ·subst L;rfl
 by_cases M:k=4
 ·subst M;cases c.o4<;>cases c.o3<;>rfl
 by_cases N:k=2
 ·subst N;cases c.o3<;>rfl
 simp[beF D,beF G,beF L,beF M,beF N]
def Fq (c:Cv) (known frm:Int):List Mrk->Nat->Int×Int
 |[],_=>(known,-1)
 |m::l,i=>if HV m.aP c=true/\frm<=m.at_/\m.at_<=known then(m.at_,i)else Fq c known frm l (i+1)
def BJ (K:Kf) (c:Cv) (known frm:Int):Int×Int:=Fq c known frm (K.p.aD.drop (max c.next 0).toNat) (max c.next 0).toNat
theorem Z4w (U:K.p.aD.length<=1000000) (c:Cv) (V:∀at_ k it:Int,M [I at_,I k,I it,I c.o0,I c.o1,B c.o2,B c.o3,B c.o4]=some [B (HV k c)]) (known frm:Int):
  Qif M (Al (Sc M)) [.vC kPt (K.p.aD.map Aq),I c.next,I c.o0,I c.o1,B c.o2,B c.o3,B c.o4,I known,I frm]=some [I (BJ K c known frm).1,I (BJ K c known frm).2]:=by
 rw[Zoh];have N:mx c.next 0=max c.next 0:=by unfold mx;split<;>omega
 have key:Out (λo=>(if o.1=1 then o.2=[I (BJ K c known frm).1,I (BJ K c known frm).2]else o.1=2/\o.2=[I (BJ K c known frm).1]/\(BJ K c known frm).2= -1)) (Al (Sc M) [.vC kPt (K.p.aD.map Aq),I known,I frm,I (max c.next 0),I c.o0,I c.o1,B c.o2,B c.o3,B c.o4]):=by
  refine DD (λs:Int=>[.vC kPt (K.p.aD.map Aq),I known,I frm,I s,I c.o0,I c.o1,B c.o2,B c.o3,B c.o4]) (λs=>0<=s/\BJ K c known frm=Fq c known frm (K.p.aD.drop s.toNat) s.toNat) (λs=>(K.p.aD.length-s).toNat) _ ?_ (max c.next 0) ⟨by omega,rfl⟩;rintro i ⟨g,D⟩;rw[Zvt];refine .cond (λk=> ?_) λk=> ?_
  ·have k:i<((K.p.aD.map Aq).length:Int):=Cs k;rw[ac]at k;have O:i.toNat<K.p.aD.length:=by omega
   rw[Ad (x:=i+1) (by have:=U;omega)];have em:mkK K i=K.p.aD[i.toNat]:=by unfold mkK;rw[List.getD,ai O];rfl
   rw[gp O,<-em]at D;unfold Fq at D;refine .cond (λ_=> ?_) λe=>(inB g (by rw[ac];exact k) e).elim;rw[NI g k];refine .bind (p:=λo=>o=_) ⟨_,V _ _ _,rfl⟩ λo e=> ?_;subst e;have next:BJ K c known frm=Fq c known frm (K.p.aD.drop (i.toNat+1)) (i.toNat+1)->Out (λo:Nat×List AC=>(o.1=0/\∃G:Int,o.2=[.vC kPt (K.p.aD.map Aq),I known,I frm,I G,I c.o0,I c.o1,B c.o2,B c.o3,B c.o4]/\(0<=G/\BJ K c known frm=Fq c known frm (K.p.aD.drop G.toNat) G.toNat)/\(K.p.aD.length-G).toNat<(K.p.aD.length-i).toNat)\/(o.1≠0/\(if o.1=1 then o.2=[I (BJ K c known frm).1,I (BJ K c known frm).2]else o.1=2/\o.2=[I (BJ K c known frm).1]/\(BJ K c known frm).2= -1))) (some (0,[.vC kPt (K.p.aD.map Aq),I known,I frm,I (i+1),I c.o0,I c.o1,B c.o2,B c.o3,B c.o4])):=λe=>
    .some (.inl ⟨rfl,i+1,rfl,⟨by omega,by rw[e,show(i+1).toNat=i.toNat+1 by omega]⟩,by omega⟩)
   refine .cond (λa=> .cond (λb=> .cond (λd=> ?_) λd=> ?_) λb=> ?_) λa=> ?_
   ·have a:HV (mkK K i).aP c=true:=a;have b:frm<=(mkK K i).at_:=Cs b;have d:(mkK K i).at_<=known:=Cs d;rw[aa ⟨a,b,d⟩]at D;refine .some (.inr ⟨by simp,?_⟩);rw[aa rfl,D];show [I (mkK K i).at_,I i]=[I (mkK K i).at_,I (i.toNat:Int)];rw[Int.toNat_of_nonneg g]
   ·have d: ¬(mkK K i).at_<=known:=B3 d;rw[ab (λh=>d h.2.2)]at D;exact next D
   ·have b: ¬frm<=(mkK K i).at_:=B3 b;rw[ab (λh=>b h.2.1)]at D;exact next D
   ·have a:HV (mkK K i).aP c=false:=a;rw[ab (λh=>by rw[a]at h;cases h.1)]at D;exact next D
  ·have k: ¬i<((K.p.aD.map Aq).length:Int):=B3 k;rw[ac]at k;rw[cz (by omega)]at D;refine .some (.inr ⟨by simp,?_⟩);rw[ab (by simp),D];exact⟨rfl,rfl,rfl⟩
 obtain⟨⟨o1,o2⟩,X,L⟩:=key;rw[N];refine eB X ?_;by_cases e:o1=1
 ·subst e;have L:o2=_:=L;subst L;rfl
 ·rw[ab e]at L;obtain⟨S,T,Y⟩:=L;dsimp only at S T;subst S T;rw[Y];rfl
theorem Yca (h:KOK K) (c:Cv) (known frm:Int):QA [.vC kPt (K.p.aD.map Aq),I c.next,I c.o0,I c.o1,B c.o2,B c.o3,B c.o4,I known,I frm]=some [I (BJ K c known frm).1,I (BJ K c known frm).2]:=
 Z4w h.count c (λat_ k it=>Q0c at_ k it c) known frm
theorem Q81 {c:Cv} {known frm:Int} (D:i64 known):∀{l:List Mrk} {i:Nat},(∀m∈l,i64 m.at_)->i64 (Fq c known frm l i).1
 |[],_,_=>D
 |m::l,i,h=>by
  unfold Fq;split
  ·exact h m (by simp)
  ·exact Q81 D λq G=>h q (by simp[G])
theorem Zb6 {c:Cv} {known frm:Int}:∀{l:List Mrk} {i:Nat},(Fq c known frm l i).2= -1\/((i:Int)<=(Fq c known frm l i).2/\(Fq c known frm l i).2<(i+l.length:Nat))
 |[],_=> .inl rfl
 |m::l,i=>by
  unfold Fq;split
  ·exact .inr ⟨f6 _,by simp only[bf];omega⟩
  ·rcases Zb6 (l:=l) (i:=i+1) (c:=c) (known:=known) (frm:=frm)with h|⟨D,G⟩
   ·exact .inl h
   ·exact .inr ⟨by omega,by simp only[bf];omega⟩
theorem Z2q {c:Cv} {known frm:Int}:(BJ K c known frm).2= -1\/(0<=(BJ K c known frm).2/\c.next<=(BJ K c known frm).2/\(BJ K c known frm).2<K.p.aD.length):=by
 unfold BJ;rcases Zb6 (c:=c) (known:=known) (frm:=frm) (l:=K.p.aD.drop (max c.next 0).toNat) (i:=(max c.next 0).toNat)with h|⟨G,D⟩
 ·exact .inl h
 ·rw[dc]at D;exact .inr ⟨by omega,by omega,by omega⟩
def Qy (K:Kf) (c:Cv):Int:=one J8 [I K.pa,I K.pb,I K.pc,I c.m0,I c.m1,I c.m2,I c.m3,I c.m4,I c.m5]
def D_ (K:Kf):Int:=if K.closed=true then K.len else K.set
def F7 (r:Int):Int:=O ((O (O (r+256)-1)).tdiv 256)
def Ie (K:Kf) (r:Int):Int:=if Cr K.t (A7 K.t (F7 r))≠F7 r then O (A7 K.t (F7 r)+1)else A7 K.t (F7 r)
def BS (K:Kf) (c:Cv):Int×Int:=(Cr K.t (BJ K c (D_ K) (Ie K (Qy K c))).1,(BJ K c (D_ K) (Ie K (Qy K c))).2)
theorem Zox (K:Kf) (c:Cv):(BS K c).2= -1\/(0<=(BS K c).2/\c.next<=(BS K c).2/\(BS K c).2<K.p.aD.length):=Z2q
theorem Yei (h:KOK K):i64 (D_ K):=by unfold D_;split;exact h.len;exact h.set
theorem Qym (h:KOK K) {c:Cv} {frm:Int}:i64 (BJ K c (D_ K) frm).1:=by
 unfold BJ;exact Q81 (Yei h) λm D=>(h.aD m (dl D)).2.2
theorem Zoi {c:Cv} {b:Bool} (h:KOK K)
  (N:V [I K.pa,I K.pb,I K.pc,I c.m0,I c.m1,I c.m2,I c.m3,I c.m4,I c.m5]=some [I r,B b])
  (S:∀u,W (Bt K.t++[I u])=some [I (A7 K.t u)]) (G:∀{z:Int},i64 z->Z (Bt K.t++[I z])=some [I (Cr K.t z)])
  (L:∀known frm,M [.vC kPt (K.p.aD.map Aq),I c.next,I c.o0,I c.o1,B c.o2,B c.o3,B c.o4,I known,I frm]=some [I (BJ K c known frm).1,I (BJ K c known frm).2]):
  Qbh M Z W V (Aj K c)=some (I (Cr K.t (BJ K c (D_ K) (Ie K r)).1)::I (BJ K c (D_ K) (Ie K r)).2::Aj K c):=by
 have key:∀known:Int,known=D_ K->UP V K c W Z M (I known)=some (I (Cr K.t (BJ K c (D_ K) (Ie K r)).1)::I (BJ K c (D_ K) (Ie K r)).2::Aj K c):=λknown T=>by
  subst T;refine eB N (eB (S (F7 r)) (eB (G (Qs8 h.f _)) ?_));have e1:Ie K r=if Cr K.t (A7 K.t (F7 r))≠F7 r then O (A7 K.t (F7 r)+1)else A7 K.t (F7 r):=rfl;by_cases D:Cr K.t (A7 K.t (F7 r))=F7 r
  ·rw[ab (by simpa using D)]at e1;refine eF (bnF D) ?_;exact eB (L (D_ K) (A7 K.t (F7 r))) (by rw[<-e1];exact eB (G (Qym h)) rfl)
  ·rw[aa D]at e1;refine eT (bnT D) ?_;exact eB (L (D_ K) (O (A7 K.t (F7 r)+1))) (by rw[<-e1];exact eB (G (Qym h)) rfl)
 rw[Yi6];refine eC (λe=>key _ ?_) λe=>key _ ?_
 ·unfold D_;rw[aa e]
 ·unfold D_;rw[ab (by rw[e];simp)]
theorem Ych {l:List AC} (h:Out (λo=>(wA o 0).length<=4096) (M l)) {G L N D O S T U V:Int} (e:l=[I G,I L,I N,I D,I O,I S,I T,I U,I V]):∃(r:Int) (b:Bool),Sq M l=some [I r,B b]:=by
 subst e;have key:Out (λo=>∃(r:Int) (b:Bool),o=[I r,B b]) (Sq M [I G,I L,I N,I D,I O,I S,I T,I U,I V]):=by
  rw[Yhb];refine .bind h λo g=> .cond (λ_=> .some ⟨0,false,rfl⟩) λ_=> ?_;generalize wA o 0=X at*;refine .cond (λ_=> .some ⟨D,true,rfl⟩) λc=> .cond (λ_=> .some ⟨_,true,rfl⟩) λd=> ?_;have c: ¬((X.length:Int)=0):=by simpa using c
  rw[Ad]at d;simp at d;omega
 obtain⟨o,Y,r,b,rfl⟩:=key;exact⟨r,b,Y⟩
theorem Z3v (D G L N O S T U V:Int):∃b:Bool,J8 [I D,I G,I L,I N,I O,I S,I T,I U,I V]=some [I (one J8 [I D,I G,I L,I N,I O,I S,I T,I U,I V]),B b]:=by
 obtain⟨r,b,h⟩:=Ych (M:=Gx) (Qtu D G L N O S T U V) rfl;have h:J8 [I D,I G,I L,I N,I O,I S,I T,I U,I V]=some [I r,B b]:=h;refine⟨b,?_⟩;unfold one;rw[h];rfl
theorem Z34 (h:KOK K) (c:Cv):Rn (Aj K c)=some (I (BS K c).1::I (BS K c).2::Aj K c):=by
 obtain⟨b,hb⟩:=Z3v K.pa K.pb K.pc c.m0 c.m1 c.m2 c.m3 c.m4 c.m5;exact Zoi h hb (VC h.f.t.q) (λD=>Zo2 h.f.t.q D) (Yca h c)
def O2 (c:Cv) (v:Int):Cv:={c with m0:=O (c.m0+v),m1:=v,m2:=O (v-c.m1),m3:=c.m0,m4:=c.m3,m5:=c.m4}
theorem Zkf {c:Cv} (h:M (nxL K c u)=some (K_ c.m0 c.m1 c.m3 c.m4 v)):Qum M (I u::Aj K c)=some (Aj K (O2 c v)):=by
 rw[Zpp];exact eB h rfl
def U6 (c:Cv):Cv:={c with next:=O (c.idx+1),on:=false,idx:=0,aN:=false,cnt:=0}
def Nc (c:Cv):Cv:={c with cnt:=O (c.cnt+1)}
theorem Z40 {l:Option (List AC)} (h:l.isSome=true):l=some (l.getD []):=by
 cases l with
 |none=>cases h
 |some o=>rfl
def swI (s:Int) (it:Itm):Int:=one Kz (I s::Af it)
theorem Z6e (s:Int) (it:Itm):Kz (I s::Af it)=some [I (swI s it)]:=by
 have key:∃v,Kz (I s::Af it)=some [I v]:=by
  show∃v,Qpz (I s::Af it)=some [I v];rw[Yji];by_cases D:it.aP=10
  ·rw[BZ (bnF D)];by_cases G:it.n<0
   ·rw[BO (ah G)];exact⟨_,rfl⟩
   ·rw[BZ (al G)];by_cases L:it.n>=16
    ·rw[BO (ah L)];exact⟨_,rfl⟩
    ·rw[BZ (al L),BZ (al (by simp[O,IntKind.wrap,IntKind.signed,IntKind.bits];omega))];cases it.on<;>exact⟨_,rfl⟩
  ·rw[BO (bnT D)];exact⟨_,rfl⟩
 obtain⟨v,h⟩:=key;exact Ybe h
def El (K:Kf) (s:Int):List Mrk->Cv->List Int×Cv
 |[],c=>([],c)
 |m::l,c=>if m.at_>s\/(m.at_=s/\c.next<=c.aK/\HV m.aP c=true)then([],c)
  else if m.aP=5 then(m.aU::(El K s l {c with outs:=swI c.outs (itK K m.aU),aK:=c.aK+1}).1,(El K s l {c with outs:=swI c.outs (itK K m.aU),aK:=c.aK+1}).2)
  else El K s l {c with aK:=c.aK+1}
def Cl (K:Kf) (c:Cv) (s:Int):List Int×Cv:=El K s (K.p.aD.drop c.aK.toNat) c
theorem Yfk {c:Cv} (h:KOK K) (X:0<=c.aK/\c.aK<=K.p.aD.length) (s:Int)
  (hA:∀(c:Cv) (at_ k it:Int),Z [I at_,I k,I it,I c.o0,I c.o1,B c.o2,B c.o3,B c.o4]=some [B (HV k c)]) (hS:∀(s:Int) (it:Itm),M (I s::Af it)=some [I (swI s it)]):
  Qtl M Z (Al (Sw M Z)) (I s::Aj K c)=some (.vC Aa ((Cl K c s).1.map At)::Aj K (Cl K c s).2):=by
 rw[Ykk];have key:Out (λo=>o=(1, .vC Aa ((Cl K c s).1.map At)::Aj K (Cl K c s).2)) (Al (Sw M Z) (.vC Aa (([]:List Int).map At)::I s::Aj K c)):=by
  have hc:=h.count;refine DD (λz:List Int×Cv=> .vC Aa (z.1.map At)::I s::Aj K z.2)
   (λz=>0<=z.2.aK/\z.2.aK<=K.p.aD.length/\(z.1.length:Int)<=z.2.aK/\(Cl K c s).1=z.1++(El K s (K.p.aD.drop z.2.aK.toNat) z.2).1/\(Cl K c s).2=(El K s (K.p.aD.drop z.2.aK.toNat) z.2).2)
   (λz=>(K.p.aD.length-z.2.aK).toNat) _ ?_ ([],c) ⟨X.1,X.2,by simp;omega,rfl,rfl⟩
  rintro⟨l,d⟩ ⟨g1,g2,g3,G,L⟩;dsimp only at g1 g2 g3 G L;refine Out.eqv (Zw8 M Z _ _ K d) ?_;refine .cond (λk=> ?_) λk=> ?_
  ·have k:d.aK<((K.p.aD.map Aq).length:Int):=Cs k;rw[ac]at k;have Y:d.aK.toNat<K.p.aD.length:=by omega
   have em:mkK K d.aK=K.p.aD[d.aK.toNat]:=by unfold mkK;rw[List.getD,ai Y];rfl
   have N:=Zet h g1 k;rw[gp Y,<-em]at G L;unfold El at G L;refine .cond (λ_=> ?_) λe=>(inB g1 (by rw[ac];exact k) e).elim;rw[NI g1 k];generalize T:mkK K d.aK=m at*;have wp:O (d.aK+1)=d.aK+1:=Ad;have S:(d.aK+1).toNat=d.aK.toNat+1:=by omega
   have stop:(m.at_>s\/(m.at_=s/\d.next<=d.aK/\HV m.aP d=true))->∀{x:List AC},x= .vC Aa (l.map At)::Aj K d->Out (λo:Nat×List AC=>(o.1=0/\∃D:List Int×Cv,o.2= .vC Aa (D.1.map At)::I s::Aj K D.2/\(0<=D.2.aK/\D.2.aK<=K.p.aD.length/\(D.1.length:Int)<=D.2.aK/\(Cl K c s).1=D.1++(El K s (K.p.aD.drop D.2.aK.toNat) D.2).1/\(Cl K c s).2=(El K s (K.p.aD.drop D.2.aK.toNat) D.2).2)/\(K.p.aD.length-D.2.aK).toNat<(K.p.aD.length-d.aK).toNat)\/(o.1≠0/\o=(1, .vC Aa ((Cl K c s).1.map At)::Aj K (Cl K c s).2))) (some (1,x)):=λU _ hx=>by
    rw[aa U]at G L;subst hx;refine .some (.inr ⟨by simp,?_⟩);rw[G,L,gr]
   have V: ¬(m.at_>s\/(m.at_=s/\d.next<=d.aK/\HV m.aP d=true))->Out (λo:Nat×List AC=>(o.1=0/\∃D:List Int×Cv,o.2= .vC Aa (D.1.map At)::I s::Aj K D.2/\(0<=D.2.aK/\D.2.aK<=K.p.aD.length/\(D.1.length:Int)<=D.2.aK/\(Cl K c s).1=D.1++(El K s (K.p.aD.drop D.2.aK.toNat) D.2).1/\(Cl K c s).2=(El K s (K.p.aD.drop D.2.aK.toNat) D.2).2)/\(K.p.aD.length-D.2.aK).toNat<(K.p.aD.length-d.aK).toNat)\/(o.1≠0/\o=(1, .vC Aa ((Cl K c s).1.map At)::Aj K (Cl K c s).2))) (PI K d (l.map At) M s):=λU=>by
    rw[ab U]at G L;unfold PI;rw[NI g1 k,T,wp];refine .cond (λq=> ?_) λq=> ?_
    ·have q:m.aP=5:=eq_of_beq q;rw[aa q]at G L;refine .cond (λ_=> ?_) λe=>by rw[Dp (by simp;omega)]at e;cases e
     refine .cond (λ_=> ?_) λe=>(inB (show 0<=gA (Aq m) 2 from N.1) (show gA (Aq m) 2<((K.aA.map Af).length:Int) by rw[ac];exact N.2.1) e).elim;rw[show nth [] (K.aA.map Af) (gA (Aq m) 2).toNat=Af (itK K m.aU)from Zfm N.1 N.2.1];refine .bind (p:=λo=>o=_) ⟨_,hS d.outs (itK K m.aU),rfl⟩ λo e=> ?_;subst e;refine .some (.inl ⟨rfl,(l++[m.aU],{d with outs:=swI d.outs (itK K m.aU),aK:=d.aK+1}),?_,⟨by dsimp only;omega,by dsimp only;omega,by simp;omega,?_,?_⟩,by dsimp only;omega⟩)
     ·rw[bp];rfl
     ·dsimp only;rw[G,S];simp
     ·dsimp only;rw[L,S]
    ·have q:m.aP≠5:=by simpa [gA,nth,Ah]using q
     rw[ab q]at G L;refine .some (.inl ⟨rfl,(l,{d with aK:=d.aK+1}),rfl,⟨by dsimp only;omega,by dsimp only;omega,by dsimp only;omega,?_,?_⟩,by dsimp only;omega⟩)
     ·dsimp only;rw[G,S]
     ·dsimp only;rw[L,S]
   refine .cond (λa=>stop (.inl (Cs a)) rfl) λa=> ?_;have a: ¬m.at_>s:=B3 a;refine .cond (λb=> .cond (λe=> ?_) λe=>V λw=> ?_) λb=>V λw=> ?_
   ·refine .bind (p:=λo=>o=_) ⟨_,hA d _ _ _,rfl⟩ λo q=> ?_;subst q;refine .cond (λq=>stop (.inr ⟨eq_of_beq b,Cs e,q⟩) rfl) λq=>V λw=> ?_;have q:HV m.aP d=false:=q;rcases w with w|w
    ·exact a w
    ·rw[q]at w;cases w.2.2
   ·rcases w with w|w
    ·exact a w
    ·exact B3 e w.2.1
   ·rcases w with w|w
    ·exact a w
    ·have:(m.at_==s)=false:=b;rw[beT w.1]at this;cases this
  ·have k: ¬d.aK<((K.p.aD.map Aq).length:Int):=B3 k;rw[ac]at k;rw[cz (by omega)]at G L;refine .some (.inr ⟨by simp,?_⟩);rw[G,L];simp[El]
 obtain⟨o,h1,rfl⟩:=key;exact eB h1 rfl
theorem Zuz {c:Cv} (h:KOK K) (D:0<=c.aK/\c.aK<=K.p.aD.length) (s:Int):Nm (I s::Aj K c)=some (.vC Aa ((Cl K c s).1.map At)::Aj K (Cl K c s).2):=
 Yfk h D s (λc at_ k it=>Q0c at_ k it c) Z6e
abbrev GN (K:Kf) (frm i:Int) (c:Cv):List AC:=I frm::I 5::I i::(FD++(FD++Aj K c))
abbrev Q0n (K:Kf) (frm mode:Int) (c:Cv):List AC:=I frm::(FD++([.vC kPt [], .vC Aa [],I mode,I 0,I 0,I 0,I 0,I 0,I 0]++Aj K c))
abbrev Ir (c:Cv):Cv:={c with aJ:=false,aL:=false}
def Ii (c:Cv) (E:List Evn):Cv:=E.foldl (λc e=>evC c e.aP e.n) (Ir c)
def U_ (K:Kf) (frm u:Int):Rw:=wA ((Lg (pxt K.p K.x K.t [I frm,I u])).getD []) 0
abbrev Th (K:Kf) (c:Cv):Pt:=KV K.p K.x K.t (Cw c)
theorem Yjm {MM MP MB MO MU:Fn} {c:Cv} (G:c.way=0) (L:c.aL=false) {frm mode:Int}
  (M:MU (Aj K c)=some [I (Cw c)]) (N:MO (Aj K c)=some [I (Do K c)]) (hB:Out (λo=>wA o 0=U_ K frm (Cw c)) (MB (pxt K.p K.x K.t [I frm,I (Cw c)])))
  (D:∀s,MP (I s::Aj K c)=some (.vC Aa ((Cl K c s).1.map At)::Aj K (Cl K c s).2)) (O:∀s,∃n q:Int,(Cl K c s).2={c with aK:=n,outs:=q}) (S:∀u,MM (pxt K.p K.x K.t [I u])=some (ptR (KV K.p K.x K.t u))):
  WN MM MP MB MO MU (I frm::(Aj K c++[.vC kPt [], .vC Aa [],I mode,I 0,I 0,I 0,I 0,I 0,I 0]))=
   some (Aj K (Cl K c (Do K c)).2++ST (U_ K frm (Cw c)) ((Cl K c (Do K c)).1.map At) mode (Do K c) (Th K c) c.s3 c.g1):=by
 refine cy (Z7s MM MP MB MO MU frm [] [] mode 0 0 0 0 0 0 K c) ?_;obtain⟨o,hB,T⟩:=hB;rw[<-T];refine eB M (eB N (eT (show(!c.aL)=true by rw[L];rfl) (eB hB (eT (show(c.way==0)=true from beT G) ?_))));have D:=D (Do K c);obtain⟨n,q,U⟩:=O (Do K c);generalize Cl K c (Do K c)=ps at*;refine eB D ?_;rw[U];refine eB (S (Cw c)) ?_;rw[show Th K c=KV K.p K.x K.t (Cw c)from rfl];generalize KV K.p K.x K.t (Cw c)=mt;rfl
theorem Qkl (K:Kf) (s:Int):∀(l:List Mrk) (c:Cv),∃n q:Int,(El K s l c).2={c with aK:=n,outs:=q}
 |[],c=>⟨c.aK,c.outs,rfl⟩
 |m::l,c=>by
  unfold El;split
  ·exact⟨c.aK,c.outs,rfl⟩
  ·split
   ·obtain⟨n,q,h⟩:=Qkl K s l {c with outs:=swI c.outs (itK K m.aU),aK:=c.aK+1};exact⟨n,q,h⟩
   ·obtain⟨n,q,h⟩:=Qkl K s l {c with aK:=c.aK+1};exact⟨n,q,h⟩
theorem Qpv (K:Kf) (c:Cv) (s:Int):∃n q:Int,(Cl K c s).2={c with aK:=n,outs:=q}:=Qkl K s _ c
def Ms (c:Cv):Cv:=if c.aH=true\/c.g0≠0 then{c with o2:=true}else c
def C_ (c:Cv):Cv:={c with before:=c.s3}
def Ok (K:Kf) (c:Cv):Cv:=if Nu K c=true then c else spS c K.bF
def Ri (c:Cv):Cv:={c with aM:=FA c}
def FM (K:Kf) (c:Cv) (E:List Evn):Cv:=Ri (Ok K (C_ (Ms (Ii c E))))
theorem Ykj {L M N Y MP MO MU MS O S T MV:Fn} {U D:Lp} {c:Cv} {E:List Evn} {V:List AC} {X:Cv}
  (h3:U (.vC kPt (E.map evR)::I (E.map evR).length::I 0::(FD++Aj K (Ir c)))=some (1,FD++Aj K (Ii c E)))
  (hT:∀c,T (Aj K c)=some [B (Nu K c)]) (hX:∀(c:Cv) (bF:Int),S [I c.s0,I c.s1,I c.s2,I c.s3,I bF]=some [I (spS c bF).s0,I (spS c bF).s1,I (spS c bF).s2,I (spS c bF).s3])
  (hN:∀c,O (Aj K c)=some [I (Cw c)]) (hS:∀c:Cv,MS [I c.m0,I c.m1,I c.m2,I c.m3,I c.m4,I c.m5]=some [B (FA c)])
  (G:∀o:Nat×List AC,(∃e,o.2=FD++Aj K e)->JN D o M L (I (Cw (Ii c E))) (Aj K (FM K c E))=some (V++Aj K X)):
  Qq4 L M N Y MP MO MU MS O S T MV U D (.vC kPt (E.map evR)::Aj K c)=some (V++Aj K X):=by
 refine cy (Zzl L M N Y MP MO MU MS O S T MV U D (E.map evR) K c) ?_;refine eB h3 (eT rfl ?_);unfold FM at G;generalize Ii c E=d at*
 have rest:∀b:Cv,Ms d=b->Cw b=Cw d->FA b=FA d->
   ((T (Aj K (C_ b))).bind λo => bif !bA o 0 then (S [I b.s0, I b.s1, I b.s2, I b.s3, I K.bF]).bind λo2 => (O (Aj K { C_ b with s0 := gA o2 0, s1 := gA o2 1, s2 := gA o2 2, s3 := gA o2 3 })).bind λo3 => (MS [I d.m0, I d.m1, I d.m2, I d.m3, I d.m4, I d.m5]).bind λo4 => JN D (1, FD ++ Aj K d) M L (jA o3 0) (Aj K { C_ b with s0 := gA o2 0, s1 := gA o2 1, s2 := gA o2 2, s3 := gA o2 3, aM := bA o4 0 })
    else(O (Aj K (C_ b))).bind λo3=>(MS [I d.m0,I d.m1,I d.m2,I d.m3,I d.m4,I d.m5]).bind λo4=>JN D (1,FD++Aj K d) M L (jA o3 0) (Aj K {C_ b with aM:=bA o4 0}))=some (V++Aj K X):=λb hb hu hs=>by
  have G:=G (1,FD++Aj K d) ⟨d,rfl⟩;rw[hb]at G;refine eB (hT (C_ b)) ?_;cases ht:Nu K (C_ b)
  ·have e1:Ok K (C_ b)=spS (C_ b) K.bF:=by unfold Ok;rw[ab (by rw[ht];simp)]
   rw[e1]at G;refine eT rfl (eB (hX b K.bF) ?_);refine cy (ie (λz=>Option.bind z _) (hN (spS (C_ b) K.bF))) (eB rfl (eB (hS d) ?_));have e2:Cw (spS (C_ b) K.bF)=Cw d:=hu;have e3:({spS (C_ b) K.bF with aM:=FA d}:Cv)=Ri (spS (C_ b) K.bF):=by
    unfold Ri;rw[show FA (spS (C_ b) K.bF)=FA b from rfl,hs]
   rw[<-e3,<-e2]at G;exact G
  ·have e1:Ok K (C_ b)=C_ b:=by unfold Ok;rw[aa ht]
   rw[e1]at G;refine eF rfl ?_;refine cy (ie (λz=>Option.bind z _) (hN (C_ b))) (eB rfl (eB (hS d) ?_));have e2:Cw (C_ b)=Cw d:=hu;have e3:({C_ b with aM:=FA d}:Cv)=Ri (C_ b):=by
    unfold Ri;rw[show FA (C_ b)=FA b from rfl,hs]
   rw[<-e3,<-e2]at G;exact G
 refine eC (λt=> ?_) λt=>eC (λq=> ?_) λq=> ?_
 ·have t:d.aH=true:=t;exact rest {d with o2:=true} (by unfold Ms;rw[aa (.inl t)]) rfl rfl
 ·have q:d.g0≠0:=λe=>by
   have:(d.g0 !=0)=true:=q;rw[bnF e]at this;cases this
  exact rest {d with o2:=true} (by unfold Ms;rw[aa (.inr q)]) rfl rfl
 ·have t:d.aH=false:=t;have q:d.g0=0:=Decidable.byContradiction λe=>by
   have:(d.g0 !=0)=false:=q;rw[bnT e]at this;cases this
  exact rest d (by unfold Ms;rw[ab (λw=>by rcases w with w|w;rw[t]at w;cases w;exact w q)]) rfl rfl
theorem Z0s (a b c:Int) {d:Int} (h:d<=0):GW [I a,I b,I c,I d]=some [I 0]:=by
 show UY _=_;rw[Qfx,BO (ah h)]
abbrev Vn:Axs:=⟨8,10,10,10,-16777216,16777216,0,0,0,[]⟩
theorem Qma:AxOK Vn:=⟨by decide,by decide,by decide,λh=>absurd rfl h,⟨λx h=>(by cases h),λi h=>(by simp at h)⟩,by decide,by decide⟩
abbrev Zz:Ax3:=⟨Vn,Vn,Vn⟩
theorem machX:MachOK Zz 9 3 100 1 0:=⟨⟨Qma,Qma,Qma⟩,⟨by decide,by decide,by decide⟩,by decide,by decide⟩
theorem Q78:Items 4084 ⟨0,0,0⟩ []:=⟨trivial,λit h=>by cases h⟩
abbrev kX (l:List Itm):Kf:=kfP Zz 9 3 100 1 0 l true
theorem So:AM []=⟨⟨0,0,0⟩,[],[]⟩:=rfl
end Go.Bm
namespace Go.Bm
open Classical
theorem Q4r {x:Ax3} {Q:Int->Pt->Prop}:∀{a s:Int} {d:Pt} {l:List Pce} {u:Int},chain x 1 Q a s d l->l≠[]->u<=CX a l->plL l u<=C7 s l
 |_,_,_,[],_,_,h,_=>absurd rfl h
 |a,s,d,c::l,u,h,_,L=>by
  obtain⟨O,S,T,D,M⟩:=h;have G:c.bC=1\/c.bC=0:=by rcases D with D|D<;>simp[D.1]
  have he:=Ql8 (.inl rfl) M;unfold plL;by_cases N:u<=c.at_+c.aR
  ·rw[aa N];unfold C7;generalize C7 (s+c.bC*c.aR) l=E at*;rcases G with G|G<;>rw[G]at he⊢<;>omega
  ·rw[ab N];have I:l≠[]:=by
    intro e;subst e;simp only[CX]at L;omega
   exact Q4r M I L
theorem Tm {x:Ax3} {Q:Int->Pt->Prop}:∀{a s:Int} {d:Pt} {l:List Pce},chain x 1 Q a s d l->l≠[]->∀v w:Int,a<=v->v<=w->w<=CX a l->s<=plL l v/\plL l v<=plL l w
 |_,_,_,[],_,h,_,_,_,_,_=>absurd rfl h
 |a,s,d,c::l,h,_,v,w,T,S,G=>by
  obtain⟨g1,g2,U,I,N⟩:=h;have D:c.bC=1\/c.bC=0:=by rcases I with I|I<;>simp[I.1]
  have more: ¬w<=a+c.aR->l≠[]:=λV e=>by
   subst e;simp only[CX]at G;omega
  simp only[CX]at G;unfold plL;rw[g1,g2];by_cases O:v<=a+c.aR
  ·rw[aa O];by_cases L:w<=a+c.aR
   ·rw[aa L];rcases D with D|D<;>rw[D]<;>omega
   ·rw[ab L];have M:=Tm N (more L) w w (by omega) (f6 _) G;rcases D with D|D<;>rw[D]at M⊢<;>omega
  ·rw[ab O,ab];have M:=Tm N (more (by omega)) v w (by omega) S G;rcases D with D|D<;>rw[D]at M<;>omega
structure Fw (t : Trk) (n : Int) : Prop where
 wh:∀z,0<=z->z<=n->0<=Cr t z/\Cr t z<=t.length/\A7 t (Cr t z)=z/\∀v,0<=v->v<Cr t z->A7 t v<z
 up:∀u v,u<=v->A7 t u<=A7 t v
 rg:∀u,0<=A7 t u/\A7 t u<=n
 zero:A7 t 0=0
 len:0<=t.length/\t.length<=900000000000000
theorem Z6p {x:Ax3} (hx:Ax3OK x) (V:GoodPath p) (hm:0<=m/\m<=AT p.aF):Fw (EK p x q 0 m) m:=by
 have hn:=UX V;obtain⟨d',I,N,-⟩:=Qln (d:=q) (a:=0) (b:=m) (Q:=λ_ _=>True) hx V (λ_ _ _ _ _ _ _ _=>trivial);have G:=Qxt q 0 m hx V;have c1:BB 0 (AT p.aF)=0:=by unfold BB;omega
 have c2:BB m (AT p.aF)=m:=by unfold BB;omega
 have X:mvP p 0 m=1:=by unfold mvP;rw[c1,c2,ab]
 rw[X,c2]at I;rw[c1]at N;generalize EK p x q 0 m=t at*;obtain⟨ch,O,S,-⟩:=I;rw[N]at ch S;by_cases D:t.aE=[]
 ·have a0:m=0:=by rw[D]at S;exact S.symm
  have a5:t.length=0:=by rw[D]at O;exact O.symm
  have pl:∀u,A7 t u=0:=λu=>by unfold A7;rw[aa D,N]
  refine⟨λz z0 z1=> ?_,λu v _=>by rw[pl,pl];omega,λu=>by rw[pl];omega,pl 0,G.len⟩;have T:Cr t z=0:=by unfold Cr;rw[aa (by rw[N];omega)]
  rw[T];exact⟨by omega,by omega,by rw[pl];omega,λv U I=>by omega⟩
 ·have cl:∀u,0<=clT t u/\clT t u<=t.length:=ON G;have L:∀u,0<=u->u<=t.length->clT t u=u:=λu U I=>by unfold clT BB;omega
  have M:∀u v,u<=v->clT t u<=clT t v:=λu v h=>by unfold clT BB;omega
  have up:∀u v,u<=v->A7 t u<=A7 t v:=λu v h=>by
   rw[Mo G u D,Mo G v D];exact(Tm ch D _ _ (cl u).1 (M u v h) (by rw[O];exact(cl v).2)).2
  have lo:∀u,0<=A7 t u:=λu=>by
   rw[Mo G u D];exact(Tm ch D _ _ (cl u).1 (f6 _) (by rw[O];exact(cl u).2)).1
  have hi:∀u,A7 t u<=m:=λu=>by
   rw[Mo G u D];have:=Q4r ch D (u:=clT t u) (by rw[O];exact(cl u).2);rw[S]at this;exact this
  have zero:A7 t 0=0:=by
   rw[Mo G 0 D,L 0 (by omega) G.len.1];obtain⟨c,l,e⟩:=List.exists_cons_of_ne_nil D;rw[e]at ch⊢;obtain⟨g1,g2,g3,-⟩:=ch;unfold plL;rw[aa,g1,g2];simp
  refine⟨λz z0 z1=> ?_,up,λu=>⟨lo u,hi u⟩,zero,G.len⟩;by_cases Y:z=0
  ·have T:Cr t z=0:=by unfold Cr;rw[aa (by rw[N];exact Y)]
   rw[T];exact⟨by omega,G.len.1,by rw[zero,Y],λv U I=>by omega⟩
  ·have T:Cr t z=wF z t.aE:=by unfold Cr;rw[ab (by rw[N];exact Y)]
   obtain⟨a1,a2,a3,a4⟩:=(Q1p (.inl rfl) z ch).2.2 (by omega) (by rw[S];omega);rw[O]at a2;rw[T];refine⟨by omega,a2,?_,λv U I=> ?_⟩
   ·rw[Mo G _ D,L _ (by omega) a2,a3]
   ·rw[Mo G _ D,L v U (by omega)];have:=a4 v U I;omega
theorem Zcm {x:Ax3} (G:Ax3OK x) (D:GoodPath p):Fw (EK p x a 0 (AT p.aF)) (AT p.aF):=
 Z6p G D ⟨(UX D).1,f6 _⟩
end Go.Bm
