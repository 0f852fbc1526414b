/- laid together -/
import Derived.Test.YtnnpdlgenmnekaaGreatDoorPrHi
import Derived.Test.YtnnpdlgenmnekaaGreatDoorPrTf
import Derived.Test.YtnnpdlgenmnekaaGreatDoorMx3
import Derived.Test.YtnnpdlgenmnekaaGreatDoorBmTy
import Derived.Lib.ItoaNum
set_option linter.unusedVariables false
set_option linter.defProp false
set_option linter.unusedSimpArgs false
set_option maxRecDepth 100000
open Go.IntKind (wrap)
variable {K:Go.Bm.Kf} {a u b k v y e r R m:Int} {p:Go.Bm.Pth} {i A j X J C:Nat} {t:Go.Bm.Trk} {M Z V P H G F z:Go.Bm.Fn} {l:Go.Bm.Rw} {d:Go.Bm.Pt} {Q:Int->Go.Bm.Pt->Prop} {N:Go.Bm.Lp} {o:List Go.Bm.AC}
namespace Go.Bm
open Classical
def Yn {L u w:Int} (D:0<L) (G: -L<=2*u/\2*u<=L) (I: -L<=2*w/\2*w<=L):2*sq2 u w<=L*L:=by
 have k:∀x:Int,-L<=2*x/\2*x<=L->4*(x*x)<=L*L:=λx h=>by
  have:0<=(L-2*x)*(L+2*x):=al
  grind
 grind [sq2]
def Z45 {A B d D p M s V L:Int} (O:D=A+B-2*d) (X:0<L) (G:0<=s/\s<=L) (hV:V=(L-s)*(L-s)*A+s*s*B+2*(s*(L-s))*d) (I:(p-1)*(p-1)<=A/\A<=M*M) (hB:(p-1)*(p-1)<=B/\B<=M*M)
  (Y:128<=p) (N:0<=D) (U:D<=32*p-64):(L*(p-6))*(L*(p-6))<=V/\V<=(L*M)*(L*M):=by
 have e1:V=L*((L-s)*A)+L*(s*B)-s*(L-s)*D:=by rw[hV,O];grind
 have m0:0<=s*(L-s):=al G.1;have m1:4*(s*(L-s))<=L*L:=by
  have:=Bj (2*s-L);have e:(2*s-L)*(2*s-L)=L*L-4*(s*(L-s)):=by grind
  omega
 have q0:0<=s*(L-s)*D:=al m0 N;have q1:=cv m1 U N (Bj L);have q2:4*(s*(L-s))*D=4*(s*(L-s)*D):=by grind
 have q3:L*L*(32*p-64)=4*(L*L*(8*p-16)):=by grind
 have a1:L*((L-s)*((p-1)*(p-1)))<=L*((L-s)*A):=af (af I.1);have a2:L*(s*((p-1)*(p-1)))<=L*(s*B):=af (af hB.1 G.1);have a3:L*((L-s)*A)<=L*((L-s)*(M*M)):=af (af I.2);have a4:L*(s*B)<=L*(s*(M*M)):=af (af hB.2 G.1);have e2:L*((L-s)*((p-1)*(p-1)))+L*(s*((p-1)*(p-1)))=L*L*((p-1)*(p-1)):=by grind
 have e3:L*((L-s)*(M*M))+L*(s*(M*M))=(L*M)*(L*M):=by grind
 constructor
 ·have e4:L*L*((p-1)*(p-1))-L*L*(8*p-16)-(L*(p-6))*(L*(p-6))=L*L*(2*p-19):=by grind
  have e5:0<=L*L*(2*p-19):=al (Bj L);omega
 omega
def Z25 {R0 R1 p M V Q D G I N L:Int} (O:0<L) (hV:V=sq2 D G) (hQ:Q=sq2 I N) (h0:128<=R0/\R0<=R1) (hp:R0<=p) (hM:M=R1+1) (hv:(L*(p-6))*(L*(p-6))<=V/\V<=(L*M)*(L*M))
  (hu: -L<=2*(L*I-D)/\2*(L*I-D)<=L) (hw: -L<=2*(L*N-G)/\2*(L*N-G)<=L):(R0-7)*(R0-7)<=Q/\Gr (R0*R0) Q 7/\Gr Q (R1*R1) 7:=by
 have he:=Yn O hu hw;have U:=Yn (u:=D-L*I) (w:=G-L*N) O (by omega) (by omega);have X:0<L*L:=dk O O;have b3:∀u w:Int,2*sq2 u w<=L*L->sq2 (4*u) (4*w)<=(3*L)*(3*L):=λu w h=>by grind [Yv]
 have k1:(R0-7)*(R0-7)<=Q:=by
  by_cases c:(R0-7)*(R0-7)<=Q
  ·exact c
  exfalso;have Y:sq2 (4*(L*I)) (4*(L*N))<=(4*L*(p-7))*(4*L*(p-7)):=by
   have h3:(R0-7)*(R0-7)<=(p-7)*(p-7):=ai;have e:(4*L*(p-7))*(4*L*(p-7))=16*(L*L)*((p-7)*(p-7)):=by grind
   have e2:sq2 (4*(L*I)) (4*(L*N))=16*(L*L)*Q:=by rw[hQ];unfold sq2;grind
   rw[e,e2];exact af
  have t:=tri (x:=4*(D-L*I)) (y:=4*(G-L*N)) (b:=3*L) (al) (by omega) Y (b3 _ _ U);rw[show 4*(L*I)+4*(D-L*I)=4*D by omega,show 4*(L*N)+4*(G-L*N)=4*G by omega,Yv,<-hV]at t;have e3:4*L*(p-7)+3*L=L*(4*p-25):=by grind
  rw[e3]at t;have k2:L*(4*p-25)<L*(4*p-24):=Int.mul_lt_mul_of_pos_left (by omega) O;have t2:(L*(4*p-25))*(L*(4*p-25))<(L*(4*p-24))*(L*(4*p-24)):=Int.mul_self_lt_mul_self (al) k2
  grind
 have k2:Q<=(R1+3)*(R1+3):=by
  have Y:sq2 (4*D) (4*G)<=(4*L*M)*(4*L*M):=by
   rw[Yv,<-hV];have e:(4*L*M)*(4*L*M)=4*4*((L*M)*(L*M)):=by grind
   omega
  have t:=tri (x:=4*(L*I-D)) (y:=4*(L*N-G)) (b:=3*L) (al) (by omega) Y (b3 _ _ he);have e2:sq2 (4*D+4*(L*I-D)) (4*G+4*(L*N-G))=L*L*(16*Q):=by rw[hQ];unfold sq2;grind
  have e3:(4*L*M+3*L)*(4*L*M+3*L)=L*L*((4*M+3)*(4*M+3)):=by grind
  rw[e2,e3]at t;have t3:=dq t X;have t4:(4*M+3)*(4*M+3)<=(4*(R1+3))*(4*(R1+3)):=ai;have e5:(4*(R1+3))*(4*(R1+3))=16*((R1+3)*(R1+3)):=by grind
  omega
 have e1:(R0-7)*(R0-7)=R0*R0-14*R0+49:=by grind
 have e2:(R1+3)*(R1+3)=R1*R1+6*R1+9:=by grind
 refine⟨k1,?_,?_⟩
 ·unfold Gr;by_cases c:R0*R0-Q-7*7<=0
  ·omega
  right;have:=ai (show 0<=R0*R0-Q-7*7 by omega) (show R0*R0-Q-7*7<=14*(R0-7) by omega)
  grind
 unfold Gr;by_cases c:Q-R1*R1-7*7<=0
 ·omega
 right;have:=ai (show 0<=Q-R1*R1-7*7 by omega) (show Q-R1*R1-7*7<=14*R1 by omega)
 grind
def Zdn {D G N O I M dir L:Int} (U:0<L) (hd:dir=1\/dir= -1) (hu: -L<=2*(L*I-N)/\2*(L*I-N)<=L) (hw: -L<=2*(L*M-O)/\2*(L*M-O)<=L) (h1:0<=crs D G N O*dir) (h2:crs D G I M*dir<0):
  crs D G I M*crs D G I M<=2*sq2 D G:=by
 have he:=Yn U hu hw;have hl:=Vf D G (L*I-N) (L*M-O);have hn:=Bj (dt2 D G (L*I-N) (L*M-O));have X:=IG D G;have e1:crs D G (L*I-N) (L*M-O)*dir=L*(crs D G I M*dir)-crs D G N O*dir:=by unfold crs;grind
 have hle:=af he X;have e2:∀c:Int,c*c=(c*dir)*(c*dir):=λc=>by grind
 have Y:=Int.mul_neg_of_pos_of_neg U h2;have k:=ai (by omega) (show-(L*(crs D G I M*dir))<= -(crs D G (L*I-N) (L*M-O)*dir) by omega);have e3: -(L*(crs D G I M*dir))* -(L*(crs D G I M*dir))=L*L*((crs D G I M*dir)*(crs D G I M*dir)):=by grind
 have e4: -(crs D G (L*I-N) (L*M-O)*dir)* -(crs D G (L*I-N) (L*M-O)*dir)=(crs D G (L*I-N) (L*M-O)*dir)*(crs D G (L*I-N) (L*M-O)*dir):=by grind
 rw[e3,e4,<-e2,<-e2]at k;have V:0<L*L:=dk U U;have e5:sq2 D G*(2*sq2 (L*I-N) (L*M-O))=2*(sq2 D G*sq2 (L*I-N) (L*M-O)):=by grind
 have e6:L*L*(2*sq2 D G)=2*(sq2 D G*(L*L)):=by grind
 have a0:=al X (Bj L);exact dq (by omega) V
def Zvy (hd:R=1\/R= -1) (M:0<sq2 a u) (hB:0<sq2 b k) (G:dt2 a u b k=0\/(crs a u b k=0/\dt2 a u b k<0))
  (oa:0<=crs a u v y*R->crs a u e r*R<0->crs a u e r*crs a u e r<=2*sq2 a u) (ob:0<=crs v y b k*R->crs e r b k*R<0->crs b k e r*crs b k e r<=2*sq2 b k) (D:So a u b k v y R) (hQ:4<sq2 e r):
  FP a u b k e r R\/Ho a u e r 7\/Ho b k e r 7:=by
 have Y:0<=dt2 a u e r->crs a u e r*crs a u e r<=2*sq2 a u->Ho a u e r 7:=λh1 h2=>⟨h1,by omega⟩;have L:0<=dt2 b k e r->crs b k e r*crs b k e r<=2*sq2 b k->Ho b k e r 7:=λh1 h2=>⟨h1,by omega⟩;have e1:crs b k e r= -crs e r b k:=Lj _ _ _ _;have e2:crs e r a u= -crs a u e r:=Lj _ _ _ _;have I:=Vf a u b k;have N:0<sq2 a u*sq2 b k:=dk M hB;rcases G with G|⟨G,a0⟩
 ·
  have i1:=Qgf a u b k e r;have U:=Znk a u b k e r;have O:=Zgk a u b k e r;rw[G,i9,Int.sub_zero]at i1;rw[G,Int.zero_mul,Int.zero_add]at O;have p1:dt2 a u e r*(crs a u b k*R)=sq2 a u*(crs e r b k*R):=by
   rw[<-jr,i1,jr]
  have p2:sq2 a u*(dt2 b k e r*(crs a u b k*R))=sq2 a u*(sq2 b k*(crs a u e r*R)):=by
   have a2:=OS hd;have e3:sq2 a u*(dt2 b k e r*(crs a u b k*R))=(sq2 a u*dt2 b k e r)*(crs a u b k*R):=by grind
   have V:crs a u b k*crs a u b k=sq2 a u*sq2 b k:=by rw[G]at I;omega
   rw[e3,O];have e5:crs a u b k*crs a u e r*(crs a u b k*R)=(crs a u b k*crs a u b k)*(crs a u e r*R):=by grind
   rw[e5,V];grind
  have p3:=Int.eq_of_mul_eq_mul_left (show sq2 a u≠0 by omega) p2;have a3:crs a u b k*R≠0:=by
   intro h;have h0:crs a u b k=0:=by rcases hd with rfl|rfl<;>omega
   rw[G,h0]at I;omega
  by_cases X:0<crs a u b k*R
  ·unfold So at D;rw[ac X]at D;by_cases ca:0<=crs a u e r*R
   ·by_cases cb:0<=crs e r b k*R
    ·simp_all [FP]
    grind [Qj,Int.mul_nonneg]
   have ra:=oa D.1 (show crs a u e r*R<0 by omega);by_cases cb:0<=crs e r b k*R
   ·grind [Qj,Int.mul_nonneg]
   
   exfalso;have rb:=ob D.2 (show crs e r b k*R<0 by omega);rw[e1]at rb;have a4:=Vf a u e r;have V:crs a u b k*crs a u b k=sq2 a u*sq2 b k:=by rw[G]at I;omega
   have k1:dt2 a u e r*dt2 a u e r<=2*sq2 a u:=by
    have e6:dt2 a u e r*dt2 a u e r*(sq2 a u*sq2 b k)=sq2 a u*sq2 a u*(crs e r b k*crs e r b k):=by
     rw[<-V];have:dt2 a u e r*dt2 a u e r*(crs a u b k*crs a u b k)=(dt2 a u e r*crs a u b k)*(dt2 a u e r*crs a u b k):=by grind
     rw[this,i1];grind
    have e7:crs e r b k*crs e r b k<=2*sq2 b k:=by
     have: -crs e r b k* -crs e r b k=crs e r b k*crs e r b k:=by grind
     omega
    have e8:sq2 a u*sq2 a u*(crs e r b k*crs e r b k)<=sq2 a u*sq2 a u*(2*sq2 b k):=af e7 (Bj _);have e9:sq2 a u*sq2 a u*(2*sq2 b k)=(2*sq2 a u)*(sq2 a u*sq2 b k):=by grind
    exact dw (show dt2 a u e r*dt2 a u e r*(sq2 a u*sq2 b k)<=(2*sq2 a u)*(sq2 a u*sq2 b k) by omega) N
   have k2:sq2 a u*sq2 e r<=sq2 a u*4:=by omega
   have:=dq k2 M;omega
  have a5:crs a u b k*R<0:=by omega
  unfold So at D;rw[ab X]at D;by_cases ca:0<=crs a u e r*R
  ·simp_all [FP,ab,j9]
  by_cases cb:0<=crs e r b k*R
  ·simp_all [FP,ab,j9]
  grind [Yci,Int.mul_nonpos_of_nonneg_of_nonpos]
 
 have X: ¬0<crs a u b k*R:=by rw[G];simp
 unfold So at D;rw[ab X]at D;have hv:0<=crs a u v y*R:=by
  rcases D with h|h
  ·exact h
  have U:=Qgf b k a u v y;rw[Lj a u b k,G]at U;have e3:dt2 b k a u=dt2 a u b k:=by unfold dt2;grind
  have e5:crs b k v y= -crs v y b k:=Lj _ _ _ _;have e6:crs v y a u= -crs a u v y:=Lj _ _ _ _;rw[e3,e5,e6]at U;refine Qj hB ?_;have V:crs a u v y*R*sq2 b k= -((crs v y b k*R)*dt2 a u b k):=by
   have:crs a u v y*R*sq2 b k= -(sq2 b k* -crs a u v y*R):=by grind
   rw[this,<-U];grind
  simp_all [fd,f7]
 by_cases ca:0<=crs a u e r*R
 ·simp_all [FP]
 right;have ra:=oa hv (show crs a u e r*R<0 by omega);by_cases cd:0<=dt2 a u e r
 ·grind
 right;have O:=Zgk a u b k e r;have i4:=Znk a u b k e r;rw[G,Int.zero_mul,ie]at O;rw[G,Int.zero_mul,Int.sub_zero]at i4;have a1:dt2 a u b k*dt2 a u b k=sq2 a u*sq2 b k:=by rw[G]at I;omega
 refine L ?_ ?_
 ·have:0<sq2 a u*dt2 b k e r:=by rw[O];exact Int.mul_pos_of_neg_of_neg a0 (by omega)
  have:0<dt2 b k e r:=Zpi M (by grind);omega
 have k1:(crs b k e r*crs b k e r)*(sq2 a u*sq2 a u)=(sq2 a u*sq2 b k)*(crs a u e r*crs a u e r):=by
  have:(crs b k e r*crs b k e r)*(sq2 a u*sq2 a u)=(sq2 a u*crs b k e r)*(sq2 a u*crs b k e r):=by grind
  rw[this,i4,<-a1];grind
 have k2:(sq2 a u*sq2 b k)*(crs a u e r*crs a u e r)<=(sq2 a u*sq2 b k)*(2*sq2 a u):=af ra (f7 N);have k3:(sq2 a u*sq2 b k)*(2*sq2 a u)=(2*sq2 b k)*(sq2 a u*sq2 a u):=by grind
 exact dw (show(crs b k e r*crs b k e r)*(sq2 a u*sq2 a u)<=(2*sq2 b k)*(sq2 a u*sq2 a u) by omega) (dk M M)
def Z03 {it:Itm} (hp:CU it.aG) (hd:it.dir=1\/it.dir= -1) (h:ArcEnds it k R) (hm:ArcMore it k) {x y:Spk} (a3:Vz it x y) {s L:Int} (V:0<L) (hs:0<=s/\s<=L) {q:Pt}
  (hu: -L<=2*(L*(pU it q-x.u)-(y.u-x.u)*s)/\2*(L*(pU it q-x.u)-(y.u-x.u)*s)<=L) (hw: -L<=2*(L*(pW it q-x.w)-(y.w-x.w)*s)/\2*(L*(pW it q-x.w)-(y.w-x.w)*s)<=L)
  (hh: -L<=2*(L*(plH it.aG q-x.h)-(y.h-x.h)*s)/\2*(L*(plH it.aG q-x.h)-(y.h-x.h)*s)<=L):Nj it q 7:=by
 obtain⟨⟨sx,sy,hX,a4⟩,⟨bx,X⟩,Y⟩:=a3;have hle:=h.le;have M:=h.ra;have N:=h.rb;obtain⟨vu,D⟩:∃v,v=(L-s)*x.u+s*y.u:=⟨_,rfl⟩;obtain⟨vw,G⟩:∃v,v=(L-s)*x.w+s*y.w:=⟨_,rfl⟩;have eu:L*pU it q-vu=L*(pU it q-x.u)-(y.u-x.u)*s:=by rw[D];grind
 have ew:L*pW it q-vw=L*(pW it q-x.w)-(y.w-x.w)*s:=by rw[G];grind
 have eh:L*plH it.aG q=(L-s)*x.h+s*y.h+(L*(plH it.aG q-x.h)-(y.h-x.h)*s):=by grind
 rw[<-eu]at hu;rw[<-ew]at hw;have rx:=bx.r;have ry:=X.r;have O:=bx.h;have U:=X.h;rw[M.1,N.1]at rx ry;have a0:mn k R=k:=by unfold mn;split<;>omega
 have a1:mx k R=R:=by unfold mx;split<;>omega
 rw[a0,a1]at rx ry;have b4:=Qh0 x.r y.r;have b5:=sx.r;have b6:=sy.r;have q1:(mn x.r y.r-1)*(mn x.r y.r-1)<=sq2 x.u x.w:=dh (ai) sx.norm.1;have q2:(mn x.r y.r-1)*(mn x.r y.r-1)<=sq2 y.u y.w:=dh (ai) sy.norm.1;have q3:sq2 x.u x.w<=(R+1)*(R+1):=dh sx.norm.2 (ai);have q4:sq2 y.u y.w<=(R+1)*(R+1):=dh sy.norm.2 (ai);have hV:sq2 vu vw=(L-s)*(L-s)*sq2 x.u x.w+s*s*sq2 y.u y.w+2*(s*(L-s))*dt2 x.u x.w y.u y.w:=by rw[D,G];unfold sq2 dt2;grind
 have hn:=Z45 (FO x y) V hs hV ⟨q1,q3⟩ ⟨q2,q4⟩ (by omega) (IG _ _) a4;obtain⟨b1,b2,b3⟩:=Z25 V rfl rfl ⟨hle.1,hle.2.1⟩ (show k<=mn x.r y.r by omega) rfl hn hu hw;have a5:pU it (Am it.fr)=(Av it it.fr).u:=by show _=dU it it.fr*16;unfold pU dU;rw[(FK _ _).1,(FK _ _).1];omega
 have a6:pW it (Am it.fr)=(Av it it.fr).w:=by show _=dW it it.fr*16;unfold pW dW;rw[(FK _ _).2.1,(FK _ _).2.1];omega
 have a7:pU it (Am it.to)=(Av it it.to).u:=by show _=dU it it.to*16;unfold pU dU;rw[(FK _ _).1,(FK _ _).1];omega
 have a8:pW it (Am it.to)=(Av it it.to).w:=by show _=dW it it.to*16;unfold pW dW;rw[(FK _ _).2.1,(FK _ _).2.1];omega
 have a9:plH it.aG (Am it.fr)=(Av it it.fr).h:=(FK _ _).2.2;have b0:plH it.aG (Am it.to)=(Av it it.to).h:=(FK _ _).2.2;have a2:k*k<=R*R:=ai (by omega) hle.2.1;unfold Nj;rw[a5,a6,a7,a8,a9,b0,M.2,N.2,Int.min_eq_left a2,kf a2];rw[Q0g,Q8z]at O U;generalize min (Av it it.fr).h (Av it it.to).h=lo at*;generalize max (Av it it.fr).h (Av it it.to).h=I at*;have k1:(L-s)*lo<=(L-s)*x.h:=af O.1;have k2:s*lo<=s*y.h:=af U.1 hs.1;have k3:(L-s)*x.h<=(L-s)*I:=af O.2;have k4:s*y.h<=s*I:=af U.2 hs.1;have k5:(L-s)*lo+s*lo=L*lo:=by grind
 have k6:(L-s)*I+s*I=L*I:=by grind
 have k7:L*(lo-1)<=L*plH it.aG q:=by
  have e:L*(lo-1)=L*lo-L:=by grind
  omega
 have k8:L*plH it.aG q<=L*(I+1):=by
  have e:L*(I+1)=L*I+L:=by grind
  omega
 have k9:=dq k7 V;have b7:=dq k8 V;refine⟨b2,b3,by omega,by omega,?_⟩;rcases Y with g|g
 ·grind
 by_cases hf:it.bI=true
 ·grind
 right;have hA:0<sq2 (Av it it.fr).u (Av it it.fr).w:=by rw[M.2];exact dk
 have hB:0<sq2 (Av it it.to).u (Av it it.to).w:=by rw[N.2];exact dk
 have hQ:4<sq2 (pU it q) (pW it q):=by
  have:121*121<=(k-7)*(k-7):=ai;omega
 refine Zvy hd hA hB (hm.shape (by grind)) (Zdn V hd hu hw) (λg1 g2=>Zdn (dir:= -it.dir) V (by omega) hu hw (by grind [Xx]) (by grind [Xx])) ?_ hQ;have l1:∀a b:Int,crs a b vu vw*it.dir=(L-s)*(crs a b x.u x.w*it.dir)+s*(crs a b y.u y.w*it.dir):=λa b=>by rw[D,G];unfold crs;grind
 have l2:∀a b:Int,crs vu vw a b*it.dir=(L-s)*(crs x.u x.w a b*it.dir)+s*(crs y.u y.w a b*it.dir):=λa b=>by rw[D,G];unfold crs;grind
 have comb:∀p r:Int,0<=p->0<=r->0<=(L-s)*p+s*r:=λp r h1 h2=>by
  have:=al (show 0<=L-s by omega) h1;have:=al hs.1 h2;omega
 unfold PA at g;unfold So
 grind
abbrev nn3 (x y z:Int):Int:=x*x+y*y+z*z
def Qdm (x y z:Int):0<=nn3 x y z:=by have:=Bj x;have:=Bj y;have:=Bj z;grind
def VJ {p q r x y z a b:Int} (D:0<=a) (hb:0<=b) (G:nn3 p q r<=a*a) (I:nn3 x y z<=b*b):nn3 (p+x) (q+y) (r+z)<=(a+b)*(a+b):=by
 have M:(p*x+q*y+r*z)*(p*x+q*y+r*z)+nn3 (q*z-r*y) (r*x-p*z) (p*y-q*x)=nn3 p q r*nn3 x y z:=by unfold nn3;grind
 have N:=Qdm (q*z-r*y) (r*x-p*z) (p*y-q*x);have L:=Qdm x y z;have O:p*x+q*y+r*z<=a*b:=by
  refine FI (al D hb) ?_;have U:=cv G I L (al D D);have e:a*b*(a*b)=(a*a)*(b*b):=by grind
  omega
 grind
theorem Zci (k x y z:Int):nn3 (k*x) (k*y) (k*z)=k*k*nn3 x y z:=by grind
def Th {k x y z a:Int} (h:nn3 x y z<=a*a):nn3 (k*x) (k*y) (k*z)<=(k*a)*(k*a):=by
 rw[Zci];have e:(k*a)*(k*a)=k*k*(a*a):=by grind
 simp_all [af,Bj]
structure NearL (a b q : Pt) (m k E : Int) : Prop where
 pos:0<m
 rng:0<=k/\k<=m
 d:nn3 (m*(q.x-a.x)-k*(b.x-a.x)) (m*(q.y-a.y)-k*(b.y-a.y)) (m*(q.z-a.z)-k*(b.z-a.z))<=(m*E)*(m*E)
def Zpr {a b q:Pt} (h:NearL a b q m k u):IU a b q u:=by
 obtain⟨L,⟨k0,k1⟩,hd⟩:=h;have N:nn3 (m*(q.x-a.x)-k*(b.x-a.x)) (m*(q.y-a.y)-k*(b.y-a.y)) (m*(q.z-a.z)-k*(b.z-a.z))=
   m*m*Bf (Ax q a) (Ax q a)-2*(m*k)*Bf (Ax b a) (Ax q a)+k*k*Bf (Ax b a) (Ax b a):=by unfold nn3 Bf Ax;grind
 have O:Bf (Ax q b) (Ax q b)=Bf (Ax q a) (Ax q a)-2*Bf (Ax b a) (Ax q a)+Bf (Ax b a) (Ax b a):=by unfold Bf Ax;grind
 have G:0<=Bf (Ax b a) (Ax b a):=Qdm _ _ _;have Y:(m*u)*(m*u)=m*m*(u*u):=by grind
 rw[N,Y]at hd;have I:0<m*m:=dk L L;unfold IU;rw[O];generalize Bf (Ax q a) (Ax q a)=W at*;generalize Bf (Ax b a) (Ax q a)=A at*;generalize Bf (Ax b a) (Ax b a)=D at*;clear N O;by_cases M:A<=0
 ·rw[ac M];have U:2*(m*k)*A<=0:=fd (by have:=al (f7 L) k0;omega) M;have V:0<=k*k*D:=al (Bj k) G;exact dq (show m*m*W<=m*m*(u*u) by omega) I
 rw[ab M];by_cases X:A>=D
 ·rw[ac X];have U:0<=2*(m*(m-k))*(A-D):=al (by have:=al (f7 L) (show 0<=m-k by omega);omega);have V:0<=(m-k)*(m-k)*D:=al (Bj _) G;have e1:m*m*W-2*(m*k)*A+k*k*D-m*m*(W-2*A+D)=2*(m*(m-k))*(A-D)+(m-k)*(m-k)*D:=by grind
  exact dq (show m*m*(W-2*A+D)<=m*m*(u*u) by omega) I
 rw[ab X];have hD:0<D:=by omega
 have U:=af hd G;have e1:D*(m*m*W-2*(m*k)*A+k*k*D)=m*m*(W*D-A*A)+(k*D-m*A)*(k*D-m*A):=by grind
 have V:=Bj (k*D-m*A);have e2:D*(m*m*(u*u))=m*m*(u*u*D):=by grind
 have t3:W*D-A*A<=u*u*D:=dq (by omega) I
 grind
def Ztf {a b p D q:Pt} {m k k' E L s:Int} (U:0<=E) (h:NearL a b p m k E) (h':NearL a b D m k' E) (Y:0<L) (M:0<=s/\s<=L)
  (hx: -L<=2*(L*(q.x-p.x)-(D.x-p.x)*s)/\2*(L*(q.x-p.x)-(D.x-p.x)*s)<=L)
  (hy: -L<=2*(L*(q.y-p.y)-(D.y-p.y)*s)/\2*(L*(q.y-p.y)-(D.y-p.y)*s)<=L)
  (hz: -L<=2*(L*(q.z-p.z)-(D.z-p.z)*s)/\2*(L*(q.z-p.z)-(D.z-p.z)*s)<=L):NearL a b q (L*m) ((L-s)*k+s*k') (E+1):=by
 obtain⟨V,⟨k0,k1⟩,hd⟩:=h;obtain⟨-,⟨k2,k3⟩,N⟩:=h';have G:0<L*m:=dk Y V;have hk:0<=(L-s)*k+s*k'/\(L-s)*k+s*k'<=L*m:=by
  have a1:=al (show 0<=L-s by omega) k0;have a2:=al M.1 k2;have a3:(L-s)*k<=(L-s)*m:=af k1;have a4:s*k'<=s*m:=af k3 M.1;have e:(L-s)*m+s*m=L*m:=by grind
  omega
 have I:0<=m*E:=al (f7 V) U;have X:=VJ (al (show 0<=L-s by omega) I) (al M.1 I) (Th (k:=L-s) hd) (Th (k:=s) N);have e1:(L-s)*(m*E)+s*(m*E)=L*m*E:=by grind
 rw[e1]at X;have hε:nn3 (m*(L*(q.x-p.x)-(D.x-p.x)*s)) (m*(L*(q.y-p.y)-(D.y-p.y)*s)) (m*(L*(q.z-p.z)-(D.z-p.z)*s))<=(L*m)*(L*m):=by
  rw[Zci];have O:∀x:Int,-L<=2*x/\2*x<=L->4*(x*x)<=L*L:=λx h=>by
   have:0<=(L-2*x)*(L+2*x):=al
   grind
  have b1:=O _ hx;have b2:=O _ hy;have b3:=O _ hz;have a0:=Bj L;have b4:nn3 (L*(q.x-p.x)-(D.x-p.x)*s) (L*(q.y-p.y)-(D.y-p.y)*s) (L*(q.z-p.z)-(D.z-p.z)*s)<=L*L:=by unfold nn3;omega
  have e:(L*m)*(L*m)=m*m*(L*L):=by grind
  rw[e];exact af b4 (Bj m)
 have t2:=VJ (al (f7 G) U) (f7 G) X hε;refine⟨G,hk,?_⟩
 grind
def PL (a b:Pt) {m:Int} (D:0<m):NearL a b a m 0 0/\NearL a b b m m 0:=by
 refine⟨⟨D,by omega,?_⟩,⟨D,by omega,?_⟩⟩
 ·grind
 grind
def Jb {a b q:Pt} {m k E F:Int} (D:0<=E) (h:NearL a b q m k E) (G:E<=F):NearL a b q m k F:=by
 refine⟨h.pos,h.rng,dh h.d ?_⟩;have:=h.pos;exact ai (al (by omega) D) (af G)
def LY {s n:Int} (hn:0<n): -n<=2*(n*AA s n-s)/\2*(n*AA s n-s)<=n:=by
 obtain⟨D,G⟩:=PI (a:=s) hn
 grind
def Qdx {x y z E:Int} (D: -E<=x/\x<=E) (G: -E<=y/\y<=E) (I: -E<=z/\z<=E):nn3 x y z<=3*(E*E):=by
 have k:∀v:Int,-E<=v/\v<=E->v*v<=E*E:=λv h=>by
  have:0<=(E-v)*(E+v):=al
  grind
 have:=k x D;have:=k y G;have:=k z I
 grind
def Qxf {n i S d tol M N O D G I U V X:Int} (hn:2<=n) (hi:0<=i/\2*i<=n) (hS:d+1<=S) (hd:0<=d) (ht:0<=tol)
  (ex: -(S+2*d+1)<=2*D*S-2*(M*d)/\2*D*S-2*(M*d)<=S+2*d+1) (ey: -(S+2*d+1)<=2*G*S-2*(N*d)/\2*G*S-2*(N*d)<=S+2*d+1) (ez: -(S+2*d+1)<=2*I*S-2*(O*d)/\2*I*S-2*(O*d)<=S+2*d+1)
  (hb:nn3 (D+U) (G+V) (I+X)<=(4*tol)*(4*tol)):
  nn3 (2*S*(n*n)*AA ((n-i)*(n-i)*D+i*i*U) (n*n)-n*(n-2*i)*d*(2*M)) (2*S*(n*n)*AA ((n-i)*(n-i)*G+i*i*V) (n*n)-n*(n-2*i)*d*(2*N)) (2*S*(n*n)*AA ((n-i)*(n-i)*I+i*i*X) (n*n)-n*(n-2*i)*d*(2*O))<=
   (2*S*(n*n)*(tol+4))*(2*S*(n*n)*(tol+4)):=by
 have L:0<n*n:=dk;have rx:=LY (s:=(n-i)*(n-i)*D+i*i*U) L;have ry:=LY (s:=(n-i)*(n-i)*G+i*i*V) L;have rz:=LY (s:=(n-i)*(n-i)*I+i*i*X) L;generalize AA ((n-i)*(n-i)*D+i*i*U) (n*n)=ax at*;generalize AA ((n-i)*(n-i)*G+i*i*V) (n*n)=ay at*;generalize AA ((n-i)*(n-i)*I+i*i*X) (n*n)=az at*;have p0:nn3 (2*D*S-2*(M*d)) (2*G*S-2*(N*d)) (2*I*S-2*(O*d))<=(6*S)*(6*S):=by
  have h:=Qdx (E:=3*S) (x:=2*D*S-2*(M*d)) (y:=2*G*S-2*(N*d)) (z:=2*I*S-2*(O*d)) (by omega) (by omega) (by omega);have e1:3*S*(3*S)=9*(S*S):=by grind
  have e2:(6*S)*(6*S)=36*(S*S):=by grind
  have:=Bj S;omega
 have p1:=Th (k:=n*(n-2*i)) p0;have p2:=Th (k:=2*S*(i*i)) hb;have p3:nn3 (2*(n*n*ax-((n-i)*(n-i)*D+i*i*U))) (2*(n*n*ay-((n-i)*(n-i)*G+i*i*V))) (2*(n*n*az-((n-i)*(n-i)*I+i*i*X)))<=(2*(n*n))*(2*(n*n)):=by
  have h:=Qdx rx ry rz;have e:(2*(n*n))*(2*(n*n))=4*((n*n)*(n*n)):=by grind
  have:=Bj (n*n);omega
 have p4:=Th (k:=S) p3;have n1:0<=n*(n-2*i):=al;have n2:0<=n*(n-2*i)*(6*S):=al n1;have n3:0<=i*i:=Bj i;have n4:0<=2*S*(i*i)*(4*tol):=al (al (by omega) n3);have n5:0<=S*(2*(n*n)):=al;have t1:=VJ n2 n4 p1 p2;have Y:=VJ (by omega) n5 t1 p4;have key:∀p q u a:Int,n*(n-2*i)*(2*p*S-2*(u*d))+2*S*(i*i)*(p+q)+S*(2*(n*n*a-((n-i)*(n-i)*p+i*i*q)))=2*S*(n*n)*a-n*(n-2*i)*d*(2*u):=by
  intro p q u a;grind
 rw[key,key,key]at Y;refine dh Y (ai (by omega) ?_);have b1:n*(n-2*i)<=n*n:=af;have b2:n*(n-2*i)*(6*S)<=n*n*(6*S):=ap b1;have b3:4*(i*i)<=n*n:=by
  have:=ai (show 0<=2*i by omega) hi.2;have e:2*i*(2*i)=4*(i*i):=by grind
  omega
 have b4:4*(i*i)*(2*S*tol)<=n*n*(2*S*tol):=ap b3 (al (by omega) ht)
 grind
end Go.Bm
namespace Go.Bm
theorem eB {α β:Type} {a:Option α} {f:α->Option β} {x:α} {r:Option β} (h:a=some x) (g:f x=r):a.bind f=r:=by grind
theorem eT {α:Type} {c:Bool} {a b r:α} (h:c=true) (g:a=r):cond c a b=r:=by grind
theorem eF {α:Type} {c:Bool} {a b r:α} (h:c=false) (g:b=r):cond c a b=r:=by grind
theorem eC {α:Type} {c:Bool} {a b r:α} (h:c=true->a=r) (g:c=false->b=r):cond c a b=r:=by grind
theorem beF (h:a≠b):(a==b)=false:=by grind
theorem beT (h:a=b):(a==b)=true:=by grind
theorem bnF (h:a=b):(a !=b)=false:=by grind
theorem bnT (h:a≠b):(a !=b)=true:=by grind
theorem FU {α β:Type} {a:Option α} {f:α->Option β} (h:a.isSome=true) (g:∀o,a=some o->(f o).isSome=true):(a.bind f).isSome=true:=by
 cases a with
 |none=>grind
 |some o=>grind
theorem C4 {α:Type} {c:Bool} {a b:Option α} (h:c=true->a.isSome=true) (g:c=false->b.isSome=true):(cond c a b).isSome=true:=by grind
def Out {α:Type} (p:α->Prop) (a:Option α):Prop:=∃o,a=some o/\p o
def Out.is {α:Type} {p:α->Prop} {a:Option α} (h:Out p a):a.isSome=true:=by obtain⟨o,h,_⟩:=h;grind
def Out.of {α:Type} {a:Option α} (h:a.isSome=true):Out (λ_=>True) a:=by
 cases a with
 |none=>grind
 |some o=>exact⟨o,rfl,trivial⟩
def Out.bind {α β:Type} {p:α->Prop} {q:β->Prop} {a:Option α} {f:α->Option β} (h:Out p a) (g:∀o,p o->Out q (f o)):Out q (a.bind f):=by
 obtain⟨o,rfl,h⟩:=h;grind
def Out.ibind {α β:Type} {q:β->Prop} {a:Option α} {f:α->Option β} (h:a.isSome=true) (g:∀o,a=some o->Out q (f o)):Out q (a.bind f):=by
 cases a with
 |none=>grind
 |some o=>grind
def Out.cond {α:Type} {p:α->Prop} {c:Bool} {a b:Option α} (h:c=true->Out p a) (g:c=false->Out p b):Out p (cond c a b):=by grind
theorem Out.some {α:Type} {p:α->Prop} {o:α} (h:p o):Out p (some o):=⟨o,rfl,h⟩
theorem Out.mono {α:Type} {p q:α->Prop} {a:Option α} (h:Out p a) (g:∀o,p o->q o):Out q a:=by obtain⟨o,h,D⟩:=h;exact⟨o,h,g o D⟩
def Ch {S:Type} (enc:S->List AC) (Inv:S->Prop) (m:S->Nat) (Q:Nat×List AC->Prop)
  (h:∀s,Inv s->Out (λo=>(o.1=0/\∃D,o.2=enc D/\Inv D/\m D<m s)\/(o.1≠0/\Q o)) (N (enc s))) (s:S) (G:Inv s):Out Q (Ak N (enc s)):=by
 obtain ⟨o, I, _, L⟩ := ZI (step := N) enc Inv m Q (λs G => by
  obtain⟨o,I,L⟩:=h s G
  grind) s G
 exact⟨o,I,L⟩
theorem Ba {p:Prop} [Decidable p] (h:decide p=true):p:=by grind
theorem B0 {p:Prop} [Decidable p] (h:decide p=false): ¬p:=by grind
def inB {n:Nat} (D:0<=a) (G:a<(n:Int)):(decide (0<=a)&&decide (a<(n:Int)))=false->False:=by grind
theorem Dd (h:i<=A):Nat.ble i A=true:=by simp_all
def Qyo (a b c d:Int):(JG [I a,I b,I c,I d]).isSome=true:=by
 unfold JG;rw[Q2e]
 grind
theorem VF (a b c:Int):GC [I a,I b,I c]=some [B (decide (1<=a/\a<=65536/\2<=b/\b<=65536/\1<=c/\c<=16777216))]:=by grind [GC,Ydk]
def Zu3 (h:∀a b c d,(M [I a,I b,I c,I d]).isSome=true) (a b c v x:Int):(Vr M [I a,I b,I c,I v,I x]).isSome=true:=by
 rw[Qtw]
 repeat' first|exact rfl|exact h _ _ _ _|refine C4 (λ_=> ?_) (λ_=> ?_)|grind [FU]
def Zi0 (a b c v x:Int):(Ju [I a,I b,I c,I v,I x]).isSome=true:=Zu3 Qyo a b c v x
def Ycb (x:Int): -9223372036854775808<=O x/\O x<=9223372036854775807:=by grind [IntKind.wrap,IntKind.signed,IntKind.bits]
def Zzd {ML MV:Fn} (D:∀a b c d,(ML [I a,I b,I c,I d]).isSome=true) {v a b c low aY:Int} (G: -9000000000000<=low/\low<=9000000000000) (L: -9000000000000<=aY/\aY<=9000000000000):
  Out (λo=>o.1=1) (Ak (Oq ML MV) [I v,I low,I aY,I a,I b,I c]):=by
 refine Ch (λs:Int×Int=>[I v,I s.1,I s.2,I a,I b,I c]) (λs=>(-9000000000000<=s.1/\s.1<=9000000000000)/\(-9000000000000<=s.2/\s.2<=9000000000000)) (λs=>(s.2-s.1).toNat) _ ?_ (low,aY) ⟨G,L⟩;rintro⟨l,h⟩ ⟨M,N⟩;rw[Y8];refine .cond (λc=> ?_) (λc=> ?_)
 ·have c:=Ba c;have e:O (h-O ((O (h-l)).tdiv 2))=h-(h-l)/2:=by
   rw[Ad (x:=h-l),dg (by omega),Ad (x:=(h-l)/2),Ad]
  rw[e];refine .ibind (D _ _ _ _) λo _=> ?_;refine .cond (λ_=> ?_) (λ_=> ?_)
  ·exact .some (.inl ⟨rfl,(h-(h-l)/2,h),rfl,by omega,by omega⟩)
  refine .some (.inl ⟨rfl,(l,h-(h-l)/2-1),?_,by omega,by omega⟩)
  grind [Ad]
 exact .some (.inr ⟨by simp,rfl⟩)
def Zxu (L:∀a b c d,(M [I a,I b,I c,I d]).isSome=true) (hV:∀a b c,Z [I a,I b,I c]=some [B (decide (1<=a/\a<=65536/\2<=b/\b<=65536/\1<=c/\c<=16777216))]) (a b c v x:Int):
  (Vl M Z (Ak (Oq M Z)) [I a,I b,I c,I v,I x]).isSome=true:=by
 rw[Zi6,hV];refine C4 (λ_=>rfl) λN=>C4 (λ_=>rfl) λD=>C4 (λ_=>rfl) λG=> ?_;simp only[go_sem]at N;have D:=B0 D;have G:=B0 G;have U: -1099511627776<=x/\x<=1099511627776:=by
  unfold mx at D;unfold mn at G;split at D<;>split at G<;>omega
 obtain⟨o,V,X⟩:=Zzd (MV:=Z) L (v:=v) (a:=a) (b:=b) (c:=c) (low:=O (O (0-x)-b)) (aY:=mn (O (b-x)) a)
  (by grind [Ad]) (by grind [Ad,mn])
 simp_all
def Ydu (a b c v x:Int):(Hp [I a,I b,I c,I v,I x]).isSome=true:=Zxu Qyo VF a b c v x
def Z1z (hB:∀a b c v x,(M [I a,I b,I c,I v,I x]).isSome=true) {a b c v x:Int}:
  Out (λo=>o.1=1\/o.1=2/\(wA o.2 0).length<=4096) (Ak (KM M Z V) [.vC Aa [],I v,I x,I a,I b,I c]):=by
 refine Ch (λs:Rw×Int×Int=>[.vC Aa s.1,I s.2.1,I s.2.2,I a,I b,I c]) (λs=>s.1.length<=4096) (λs=>4096-s.1.length) _ ?_ ([],v,x) (by simp);rintro⟨l,v,x⟩ h;rw[VL];refine .cond (λ_=> ?_) (λ_=> ?_)
 ·refine .cond (λ_=> ?_) (λD=> ?_)
  ·exact .some (.inr ⟨by simp, .inl rfl⟩)
  have D: ¬((l.length:Int)=4096):=by simpa using D
  refine .ibind (hB _ _ _ _ _) λo _=> ?_;refine .cond (λ_=> ?_) (λG=> ?_)
  ·exact .some (.inl ⟨rfl,(_,_,_),rfl,by grind,by grind⟩)
  grind [Dd]
 exact .some (.inr ⟨by simp, .inr ⟨rfl,h⟩⟩)
def Zxw (hB:∀a b c v x,(M [I a,I b,I c,I v,I x]).isSome=true) (D:∀a b c v x,(Z [I a,I b,I c,I v,I x]).isSome=true) (hV:∀a b c,V [I a,I b,I c]=some [B (decide (1<=a/\a<=65536/\2<=b/\b<=65536/\1<=c/\c<=16777216))]) (a b c v x:Int):
  Out (λo=>(wA o 0).length<=4096) (V1 M Z V (Ak (KM M Z V)) [I a,I b,I c,I v,I x]):=by
 rw[Qmu,hV];refine .cond (λ_=> .some (by simp[wA,nth,BI])) λ_=> .ibind (D _ _ _ _ _) λo _=> .cond (λ_=> .some (by simp[wA,nth,BI])) λ_=> ?_;refine .bind (Z1z hB) λo h=> ?_;rcases h with h|⟨h,G⟩
 ·rw[h];exact .some (by simp[wA,nth,BI])
 rw[h];exact .some G
def Ztp (a b c v x:Int):Out (λo=>(wA o 0).length<=4096) (PT [I a,I b,I c,I v,I x]):=Zxw Ydu Zi0 VF a b c v x
def Q8t {sp out:Rw} (D:out.length=sp.length) (G:sp.length<=4096):
  Out (λo=>o.1=1/\(wA o.2 0).length=sp.length) (Ak (R3 M) [.vC Aa out,I u, .vC Aa sp,I (sp.length:Int),I 0]):=by
 refine Ch (λs:Rw×Int×Nat=>[.vC Aa s.1,I s.2.1, .vC Aa sp,I (sp.length:Int),I (s.2.2:Int)]) (λs=>s.1.length=sp.length/\s.2.2<=sp.length) (λs=>sp.length-s.2.2) _ ?_ (out,u,0) ⟨D,by simp⟩;rintro⟨l,u,i⟩ ⟨g1,g2⟩;dsimp only at*;rw[Z2f];refine .cond (λc=> ?_) (λ_=> ?_)
 ·have c:=Ba c;refine .cond (λ_=> ?_) (λh=> ?_)
  ·refine .cond (λ_=> ?_) (λh=> ?_)
   ·have e:=Ad (x:=(i:Int)+1);rw[e];generalize O (u+gA (nth [] sp (i:Int).toNat) 0)=z;exact .some (.inl ⟨rfl,(l.set (i:Int).toNat [I z],z,i+1),rfl,by grind,by grind⟩)
   grind
  grind
 exact .some (.inr ⟨by simp,rfl,g1⟩)
def Zqg (hS:∀a b c v x,Out (λo=>(wA o 0).length<=4096) (M [I a,I b,I c,I v,I x])) (a b c D G L N O U:Int):
  Out (λo=>(wA o 0).length<=4096) (Xz M (Ak (R3 M)) [I a,I b,I c,I D,I G,I L,I N,I O,I U]):=by
 rw[Q19];refine .bind (hS _ _ _ _ _) λo h=> ?_;refine .cond (λ_=> .some (by simp[wA,nth,BI])) λ_=> ?_;refine .cond (λ_=> ?_) λc=>by grind
 refine .cond (λ_=> ?_) λc=>by grind
 refine .bind (Q8t (by simp) h) λo g=> ?_;rw[g.1];exact .some (by show(wA o.2 0).length<=4096;omega)
def Qjk (a b c D G L M N O:Int):Out (λo=>(wA o 0).length<=4096) (Is [I a,I b,I c,I D,I G,I L,I M,I N,I O]):=Zqg Ztp a b c D G L M N O
def Ydg (V:∀a b c D G L N O U,Out (λo=>(wA o 0).length<=4096) (M [I a,I b,I c,I D,I G,I L,I N,I O,I U])) (a b c D G L N O U:Int):
  (Ra M [I a,I b,I c,I D,I G,I L,I N,I O,I U]).isSome=true:=by
 rw[Zj0];obtain⟨o,X,Y⟩:=V a b c D G L N O U;rw[X];simp only[aq];refine C4 (λ_=>rfl) λ_=>C4 (λ_=>rfl) λc=>C4 (λ_=>rfl) λd=> ?_
 grind [Ad]
def Zrk (a b c D G L M N O:Int):(IN [I a,I b,I c,I D,I G,I L,I M,I N,I O]).isSome=true:=Ydg Qjk a b c D G L M N O
end Go.Bm
namespace Go.Bm
open Classical
def wF (z:Int):List Pce->Int
 |[]=> -1
 |c::l=>if c.bD≠0/\0<=(z-c.s)*c.bD/\(z-c.s)*c.bD<=c.aR then c.at_+(z-c.s)*c.bD else wF z l
def J2 (t:Trk) (z:Int):Int:=if z=t.aQ then 0 else wF z t.aE
def plL:List Pce->Int->Int
 |[],_=>0
 |c::l,u=>if u<=c.at_+c.aR then c.s+c.bD*(u-c.at_)else plL l u
def Qk2:∀{l:List Pce} {u:Int},fI l u<l.length->plL l u=(pcA l (fI l u)).s+(pcA l (fI l u)).bD*(u-(pcA l (fI l u)).at_)
 |[],_,h=>by simp at h
 |c::l,u,h=>by
  unfold fI at h⊢;unfold plL;by_cases D:u<=c.at_+c.aR
  ·rw[ac D,ac D,IH]
  rw[ab D]at h⊢;rw[ab D,Gw];exact Qk2 (by simpa using h)
theorem Qhf (h:TQ t) (u:Int) (D:t.aE≠[]):AD t u=plL t.aE (clT t u):=by
 have G:=Io h u D;unfold AD;rw[ab D];exact(Qk2 G).symm
def Zah {x:Ax3} {mv:Int} {Q:Int->Pt->Prop} (I:mv=1\/mv= -1):∀{a s:Int} {d:Pt} {l:List Pce},DE x mv Q a s d l->0<=mv*(Et s l-s)
 |a,s,d,[],_=>by simp[Et]
 |a,s,d,c::l,h=>by
  obtain⟨N,O,U,D,L⟩:=h;have M:=Zah I L;unfold Et;generalize Et (s+c.bD*c.aR) l=E at*;have G:c.bD=mv\/c.bD=0:=by rcases D with D|D<;>simp[D.1]
  rcases G with G|G<;>rw[G]at M<;>rcases I with rfl|rfl<;>omega
def Qps {t:Trk} (h:TQ t) {z:Int} (U:i64 z):∀(k j:Nat),j+k=t.aE.length->wF z (t.aE.drop j)= -1/\Ak Tk [I z, .vC An (t.aE.map AT),I t.aE.length,I j]=some (2,[])\/
  Ak Tk [I z, .vC An (t.aE.map AT),I t.aE.length,I j]=some (1,[I (wF z (t.aE.drop j))])
 |0,j,X=>by
  left;rw[fc (by omega)];refine⟨rfl,Bc (o:=(2,_)) ?_ (by simp)⟩;simp_all [Qqz]
 |k+1,j,X=>by
  have D:j<t.aE.length:=by omega
  have V:=h.count;have N:(0:Int)<=(j:Int)/\(j:Int)<(t.aE.length:Int):=by omega
  have L:=h.pos j D;have hl:=h.len;have hs:=h.s j D;have Y:=h.bD j D;have e:t.aE.drop j=pcA t.aE j::t.aE.drop (j+1):=by
   have e1:pcA t.aE j=t.aE[j]:=by unfold pcA;simp[D]
   rw[e1];exact NX _ _ D
  have M:Tk [I z, .vC An (t.aE.map AT),I t.aE.length,I j]=if(pcA t.aE j).bD≠0/\0<=(z-(pcA t.aE j).s)*(pcA t.aE j).bD/\(z-(pcA t.aE j).s)*(pcA t.aE j).bD<=(pcA t.aE j).aR then
    some (1,[I ((pcA t.aE j).at_+(z-(pcA t.aE j).s)*(pcA t.aE j).bD)])else some (0,[I z, .vC An (t.aE.map AT),I t.aE.length,I (j+1:Nat)]):=by
   rw[Qqz];simp only[go_sem,aj,ag,P0 D,ac N,Ad (x:=(j:Int)+1)];rw[ac];unfold eI at L;unfold i64 at U;generalize pcA t.aE j=c at*;have G:∀y:Int,-9223372036854775808-2000000000000000<=y->y<=9223372036854775807+2000000000000000->(O y=y/\ -9223372036854775808<=y/\y<=9223372036854775807)\/(O y=y+18446744073709551616/\y< -9223372036854775808)\/(O y=y-18446744073709551616/\y>9223372036854775807):=by
    intro y y1 y2;have hw:=Zx0 y;unfold i64 at hw;by_cases c1: -9223372036854775808<=y/\y<=9223372036854775807
    ·grind [Ad]
    grind [Qbe]
   by_cases c0:c.bD=0
   ·grind
   rw[ac c0];have hm:c.bD=1\/c.bD= -1:=by omega
   have a1:=G (z-c.s) (by omega) (by omega)
   grind
  rw[e];by_cases c:(pcA t.aE j).bD≠0/\0<=(z-(pcA t.aE j).s)*(pcA t.aE j).bD/\(z-(pcA t.aE j).s)*(pcA t.aE j).bD<=(pcA t.aE j).aR
  ·simp_all [Bc,wF]
  rw[ab c]at M;rw[Bw M];unfold wF;rw[ab c];exact Qps h U k (j+1) (by omega)
def Zrh (h:TQ t) {z:Int} (M:i64 z):Uu (Bh t++[I z])=some [I (J2 t z)]:=by
 have he:=Yem Ps (t.aE.map AT) t.length t.aQ t.aT.x t.aT.y t.aT.z z;refine de he ?_;unfold J2;rw[aj];by_cases c:z=t.aQ
 ·grind
 rw[ab c,CE (by simp[c])];rcases Qps h M t.aE.length 0 (by omega)with⟨L,G⟩|G
 ·rw[iy]at L;have D:Ps [I z, .vC An (t.aE.map AT),I t.aE.length,I 0]=some (2,[]):=G;rw[L];simp only[D];rfl
 rw[iy]at G;have D:Ps [I z, .vC An (t.aE.map AT),I t.aE.length,I 0]=some (1,[I (wF z t.aE)]):=G;generalize Ps=N at*;simp only[D,go_sem]
end Go.Bm
namespace Go.Bm
def Zts (l:Rw) (h:l.length<=100000):Out (λo=>(wA o 0).length<=l.length) (XA [.vC Aa l]):=by
 show Out _ (Zp (Ak Qj5) [.vC Aa l]);rw[Zw3];refine .bind (p:=λo=>o.1=1/\(wA o.2 0).length<=l.length) ?_ λo g=>by rw[g.1];exact .some g.2
 refine Ch (λs:Rw×Nat=>[.vC Aa s.1, .vC Aa l,I (s.2:Int)]) (λs=>1<=s.2/\s.2<=l.length+1/\s.1.length+1<=s.2) (λs=>l.length+1-s.2) _ ?_ ([],1) (by simp);rintro⟨v,i⟩ ⟨g1,g2,D⟩;dsimp only at*;rw[Z6s];rw[Ad,Ad (x:=(i:Int)+1)];refine .cond (λc=> ?_) (λc=> ?_)
 ·have c:=Ba c;refine .cond (λ_=> ?_) λc=>by grind
  refine .cond (λ_=> ?_) λc=>by grind
  refine .cond (λ_=> ?_) λc=>by grind [Dd]
  exact .some (.inl ⟨rfl,(_,i+1),rfl,by grind,by omega⟩)
 have c:=B0 c;exact .some (.inr ⟨by simp,rfl,by show v.length<=l.length;omega⟩)
def Z35 (l:Rw) (n:Int) (h:l.length<=100000):(UT [.vC Aa l,I n]).isSome=true:=by
 show(XW (Ak Yb) [.vC Aa l,I n]).isSome=true;rw[Zp9];refine Out.is (p:=λ_=>True) ?_;refine .bind (p:=λo=>o.1=1\/o.1=2) ?_ λo g=>by rcases g with g|g<;>rw[g]<;>exact .some trivial
 refine Ch (λs:Nat=>[I n, .vC Aa l,I (l.length:Int),I (s:Int)]) (λs=>s<=l.length) (λs=>l.length-s) _ ?_ 0 (by simp);intro i g;rw[Z4s];rw[Ad (x:=(i:Int)+1)];refine .cond (λc=> ?_) (λc=> ?_)
 ·have c:=Ba c;refine .cond (λ_=> ?_) λc=>by grind
  refine .cond (λ_=> .some (.inr ⟨by simp, .inl rfl⟩)) λ_=> .cond (λ_=> .some (.inr ⟨by simp, .inl rfl⟩)) λ_=> ?_;exact .some (.inl ⟨rfl,i+1,rfl,by omega,by omega⟩)
 exact .some (.inr ⟨by simp, .inr rfl⟩)
def Yb4 (D:∀l:Rw,l.length<=100000->Out (λo=>(wA o 0).length<=l.length) (Z [.vC Aa l])) (hB:∀(l:Rw) n,l.length<=100000->(M [.vC Aa l,I n]).isSome=true)
  (G L N O U V X Y x8:Int) (x9 l:Rw) (h:l.length<=100000):(Qcj M Z [I G,I L,I N,I O,I U,I V,I X,I Y,I x8, .vC Aa x9, .vC Aa l]).isSome=true:=by
 rw[Yfb];obtain⟨a,ha,ga⟩:=D l h;rw[ha];simp only[aq];generalize wA a 0=la at*;obtain⟨b,hb,gb⟩:=D la (by omega);rw[hb];simp only[aq];generalize wA b 0=lb at*;obtain⟨c,hc,gc⟩:=D lb (by omega);rw[hc];simp only[aq];refine FU (hB _ _ (by omega)) λ_ _=>C4 (λ_=>rfl) λ_=>FU (hB _ _ (by omega)) λ_ _=>C4 (λ_=>rfl) λ_=>FU (hB _ _ (by omega)) λ_ _=>C4 (λ_=>rfl) λ_=>rfl
def Ya4 (D G L M N O U V X:Int) (Y l:Rw) (h:l.length<=100000):(QV [I D,I G,I L,I M,I N,I O,I U,I V,I X, .vC Aa Y, .vC Aa l]).isSome=true:=Yb4 Zts Z35 D G L M N O U V X Y l h
def Zzh {x:Ax3} (G:0<=k/\k<=2) {l out:Rw} (D:out.length=l.length) (L:l.length<=100000):
  Out (λo=>o.1=1/\∃v:Rw,o.2= .vC Aa v:: .vC kPt l::I k::I k::AF x/\v.length=l.length) (Ak (NJ M) (.vC Aa out:: .vC kPt l::I k::I k::I (l.length:Int)::I 0::AF x)):=by
 refine Ch (λs:Rw×Nat=> .vC Aa s.1:: .vC kPt l::I k::I k::I (l.length:Int)::I (s.2:Int)::AF x) (λs=>s.1.length=l.length/\s.2<=l.length) (λs=>l.length-s.2) _ ?_ (out,0) ⟨D,by simp⟩;rintro⟨v,i⟩ ⟨g1,g2⟩;rw[Zym];rw[Ad];refine .cond (λc=> ?_) (λc=> ?_)
 ·have c:=Ba c;refine .cond (λ_=> ?_) λc=>by grind
  refine .cond (λ_=> ?_) λN=> .cond (λ_=> ?_) λO=> .cond (λ_=> ?_) λU=> ?_
  ·refine .cond (λ_=> ?_) λc=>by grind
   exact .some (.inl ⟨rfl,(_,i+1),rfl,by grind,by omega⟩)
  ·refine .cond (λ_=> ?_) λc=>by grind
   exact .some (.inl ⟨rfl,(_,i+1),rfl,by grind,by omega⟩)
  ·refine .cond (λ_=> ?_) λc=>by grind
   exact .some (.inl ⟨rfl,(_,i+1),rfl,by grind,by omega⟩)
  grind
 exact .some (.inr ⟨by simp,rfl,v,rfl,g1⟩)
def Zs5 (hM:∀(D G L N U V X Y x8:Int) (x9 l:Rw),l.length<=100000->(M [I D,I G,I L,I N,I U,I V,I X,I Y,I x8, .vC Aa x9, .vC Aa l]).isSome=true) (x:Ax3) {l:Rw} (h1:l.length<=100000):
  (Vx M (Ak (NJ M)) (Ak (U3 M (Ak (NJ M)))) (AF x++[.vC kPt l])).isSome=true:=by
 show(Vx M (Ak (NJ M)) (Ak (U3 M (Ak (NJ M)))) [I x.a.step,I x.a.aS,I x.a.bF,I x.a.bG,I x.a.low,I x.a.aY,I x.a.bB,I x.a.aV,I x.a.aO, .vC Aa (x.a.aW.map Ap),I x.b.step,I x.b.aS,I x.b.bF,I x.b.bG,I x.b.low,I x.b.aY,I x.b.bB,I x.b.aV,I x.b.aO, .vC Aa (x.b.aW.map Ap),I x.c.step,I x.c.aS,I x.c.bF,I x.c.bG,I x.c.low,I x.c.aY,I x.c.bB,I x.c.aV,I x.c.aO, .vC Aa (x.c.aW.map Ap), .vC kPt l]).isSome=true;rw[Zth];refine Out.is (p:=λ_=>True) ?_;refine .bind (p:=λo=>o.1=1\/o.1=2) ?_ λo g=>by rcases g with g|g<;>rw[g]<;>exact .some trivial
 refine Ch (λs:Nat=> .vC kPt l::I (s:Int)::AF x) (λs=>s<=3) (λs=>3-s) _ ?_ 0 (by omega);intro k hk;rw[Zvj];refine .cond (λc=> ?_) (λc=> ?_)
 ·have c:=Ba c;refine .cond (λ_=> ?_) λc=>by grind
  refine .cond (λ_=> ?_) λc=>by grind
  refine .bind (Zzh (M:=M) (x:=x) (k:=(k:Int)) (by omega) (by simp) h1) λo g=> ?_;obtain⟨g1,v,g2,g3⟩:=g;obtain⟨o1,o2⟩:=o;subst g1;subst g2;refine .cond (λ_=> ?_) λc=>by simp at c
  have e:O ((k:Int)+1)=((k+1:Nat):Int):=by rw[Ad];rfl
  have hw:=λD G L N U V X Y x8 x9=>hM D G L N U V X Y x8 x9 v (by omega);refine .cond (λ_=> ?_) λc0=> .cond (λ_=> ?_) λc1=> .cond (λ_=> ?_) λc2=> ?_
  ·refine .ibind (hw _ _ _ _ _ _ _ _ _ _) λ_ _=> .cond (λ_=> .some (.inr ⟨by simp, .inl rfl⟩)) λ_=> .some (.inl ⟨rfl,k+1,?_,by omega,by omega⟩);simp_all [gA,wA,nth,Af,BI]
  ·refine .ibind (hw _ _ _ _ _ _ _ _ _ _) λ_ _=> .cond (λ_=> .some (.inr ⟨by simp, .inl rfl⟩)) λ_=> .some (.inl ⟨rfl,k+1,?_,by omega,by omega⟩);simp_all [gA,wA,nth,Af,BI]
  ·refine .ibind (hw _ _ _ _ _ _ _ _ _ _) λ_ _=> .cond (λ_=> .some (.inr ⟨by simp, .inl rfl⟩)) λ_=> .some (.inl ⟨rfl,k+1,?_,by omega,by omega⟩);simp_all [gA,wA,nth,Af,BI]
  have c0:=B0 c0;have c1:=B0 c1;have c2:=B0 c2
  simp[gA,wA,bA,jA,nth,Af]at c0 c1 c2;omega
 exact .some (.inr ⟨by simp, .inr rfl⟩)
def Zx7 (x:Ax3) {l:Rw} (D:l.length<=100000):(Rs (AF x++[.vC kPt l])).isSome=true:=Zs5 Ya4 x D
def Zjt (u:Int):(Mc [I u]).isSome=true:=by
 show(Qie [I u]).isSome=true;simp[Ycj,C4]
structure Fix (p : Pth) (x : Ax3) (t : Trk) : Prop where
 p:GoodPath p
 x:Ax3M x
 t:TH t
theorem RF {x:Ax3} (h:Fix p x t) (u:Int):E_ (pxt p x t [I u])=some (ptR (BB p x t u)):=Yc2 h.p h.x h.t u
def Z96 {x:Ax3} (G:∀{l:Rw},l.length<=100000->(M (AF x++[.vC kPt l])).isSome=true) (L:∀u,(Z (pxt p x t [I u])).isSome=true) (N:∀u,(V [I u]).isSome=true) {way:Rw} (O:way.length<=100000):
  (Qd4 M Z V (Ak (Qad M Z V)) (pxt p x t [.vC Aa way])).isSome=true:=by
 rw[Zt4];refine Out.is (p:=λ_=>True) ?_;refine .bind (p:=λo=>o.1=1\/o.1=2) ?_ λo g=>by rcases g with g|g<;>rw[g]<;>exact .some trivial
 refine Ch (λs:Rw×Nat=> .vC kPt s.1:: .vC Aa way::I (way.length:Int)::I (s.2:Int)::pxt p x t []) (λs=>s.1.length<=4/\s.2<=way.length) (λs=>way.length-s.2) _ ?_ ([],0) (by simp);rintro⟨v,i⟩ ⟨g1,g2⟩;dsimp only at g1 g2;rw[Z6u];rw[Ad (x:=(i:Int)+1)];refine .cond (λc=> ?_) (λc=> ?_)
 ·have c:=Ba c;refine .cond (λ_=> ?_) λc=>by grind
  refine .ibind (N _) λa _=> .ibind (L _) λb _=> ?_;refine .cond (λ_=> ?_) λc=>by rw[Dd (by simp;omega)]at c;cases c
  generalize [jA b 0,jA b 1,jA b 2]=q;refine .cond (λ_=> ?_) λD=> ?_
  ·refine .cond (λ_=> ?_) λc=>by grind
   refine .cond (λ_=> ?_) λc=>by grind [Dd]
   refine .ibind (G (by simp;omega)) λ_ _=> .cond (λ_=> .some (.inr ⟨by simp, .inl rfl⟩)) λ_=> ?_;exact .some (.inl ⟨rfl,(_,i+1),rfl,by simp;omega,by omega⟩)
  have D:=B0 D;simp at D;refine .ibind (G (l:=v++[q]) (by grind)) λ_ _=> .cond (λ_=> .some (.inr ⟨by simp, .inl rfl⟩)) λ_=> ?_;exact .some (.inl ⟨rfl,(_,i+1),rfl,by grind,by omega⟩)
 exact .some (.inr ⟨by simp, .inr rfl⟩)
def Zul {x:Ax3} (h:Fix p x t) {way:Rw} (D:way.length<=100000):(VZ (pxt p x t [.vC Aa way])).isSome=true:=
 Z96 (Zx7 x) (λu=>by rw[RF h u];rfl) Zjt D
def Znz (O U:Int) (V b1 b2:Bool) (X Y x7 x8 x9 D G L M N:Int):(V8 [I O,I U,B V,B b1,B b2,I X,I Y,I x7,I x8,I x9,I D,I G,I L,I M,I N]).isSome=true:=by
 show(Qgl [I O,I U,B V,B b1,B b2,I X,I Y,I x7,I x8,I x9,I D,I G,I L,I M,I N]).isSome=true;rw[Z9r]
 grind
def Qi4 {x:Ax3} (h:Fix p x t) (u:Int):i64 (AD t u):=by
 have:=Qzb h.t.q u
 grind [i64]
theorem Qa5:∀(l:List Sgm) (s:Int),l≠[]->(By l s).1<l.length
 |[],_,h=>absurd rfl h
 |[g],s,_=>by grind [By]
 |g::h::l,s,_=>by
  by_cases c:s<g.len
  ·simp_all [By]
  rw[Zip c];have:=Qa5 (h::l) (s-g.len) (by simp);grind
def Z84 {x:Ax3} (h:Fix p x t) {s:Int} (D:i64 s):∃i v:Int,FJ (BG p++[I s])=some [I i,I v]/\(i= -1\/0<=i/\i<p.aF.length)/\(p.aF≠[]->0<=i):=by
 rw[X0 (h.p.ok) D];by_cases c:p.aF=[]
 ·grind
 simp_all [Qa5]
def Ybt (X:∀(Y x1:Int) (D b1 b2:Bool) (x5 x6 x7 x8 x9 G L N O U:Int),(M [I Y,I x1,B D,B b1,B b2,I x5,I x6,I x7,I x8,I x9,I G,I L,I N,I O,I U]).isSome=true)
  (hF:∀s,i64 s->∃i v:Int,Z (BG p++[I s])=some [I i,I v]/\(i= -1\/0<=i/\i<p.aF.length)/\(p.aF≠[]->0<=i)) (hP:∀u,∃s,V (Bh t++[I u])=some [I s]/\i64 s) (hU:∀u,(P [I u]).isSome=true) (a0:p.aF≠[])
  (a b c o0 o1:Int) (D b1 b2:Bool) (u:Int):
  (Qfw M Z V P (Fh p t [I a,I b,I c,I o0,I o1,B D,B b1,B b2,I u])).isSome=true:=by
 rw[Zxa];refine FU (hU _) λq _=> ?_;obtain⟨s,h1,h2⟩:=hP (gA q 0);rw[h1];simp only[aq];obtain⟨i,v,g1,g2,g3⟩:=hF s h2;simp only[gA,jA,nth,Af];rw[g1];simp only[aq,nth];refine C4 (λ_=>FU (X _ _ _ _ _ _ _ _ _ _ _ _ _ _ _) λ_ _=>rfl) λc=> ?_
 grind
def Zwb {x:Ax3} (h:Fix p x t) (D:p.aF≠[]) (a b c o0 o1:Int) (G b1 b2:Bool) (u:Int):
  (RK (Fh p t [I a,I b,I c,I o0,I o1,B G,B b1,B b2,I u])).isSome=true:=
 Ybt Znz (λ_ L=>Z84 h L) (λu=>⟨_,Tq h.t.q u,Qi4 h u⟩) Zjt D a b c o0 o1 G b1 b2 u
def Zy8 {a b c o0 o1:Int} {D b1 b2:Bool} (hT:p.aF≠[]->∀u,(M (Fh p t [I a,I b,I c,I o0,I o1,B D,B b1,B b2,I u])).isSome=true)
  (N:∀a b c O U V X Y x8,Out (λo=>(wA o 0).length<=4096) (Z [I a,I b,I c,I O,I U,I V,I X,I Y,I x8])) (m0 m1 m2 m3 m4 m5:Int):
  (Qey M Z (Ak (YT M Z)) (Fh p t [I a,I b,I c,I o0,I o1,B D,B b1,B b2,I m0,I m1,I m2,I m3,I m4,I m5])).isSome=true:=by
 rw[Ztz];obtain⟨o,h1,h2⟩:=N a b c m0 m1 m2 m3 m4 m5;rw[h1];simp only[aq];generalize wA o 0=sp at*;refine C4 (λ_=>rfl) λ_=>C4 (λ_=>rfl) λL=> ?_;have G:p.aF≠[]:=by
  intro e;rw[e]at L;simp at L
 have hT:=hT G;refine FU (hT _) λ_ _=>C4 (λ_=>rfl) λ_=> ?_;refine Out.is (p:=λ_=>True) ?_;refine .bind (p:=λo=>o.1=1\/o.1=2) ?_ λo g=>by rcases g with g|g<;>rw[g]<;>exact .some trivial
 refine Ch (λs:Int×Nat=>I s.1:: .vC Aa sp::I (sp.length:Int)::I (s.2:Int)::Fh p t [I a,I b,I c,I o0,I o1,B D,B b1,B b2]) (λs=>s.2<=sp.length) (λs=>sp.length-s.2) _ ?_ (m0,0) (by simp);rintro⟨v,i⟩ g;rw[Zs6];rw[Ad (x:=(i:Int)+1)];refine .cond (λc=> ?_) (λc=> ?_)
 ·have c:=Ba c;refine .cond (λ_=> ?_) λc=>by grind
  refine .ibind (hT _) λ_ _=> .cond (λ_=> .some (.inr ⟨by simp, .inl rfl⟩)) λ_=> ?_;exact .some (.inl ⟨rfl,(_,i+1),rfl,by omega,by omega⟩)
 exact .some (.inr ⟨by simp, .inr rfl⟩)
def Z2v {x:Ax3} (h:Fix p x t) (a b c o0 o1:Int) (G b1 b2:Bool) (m0 m1 m2 m3 m4 m5:Int):
  (QB (Fh p t [I a,I b,I c,I o0,I o1,B G,B b1,B b2,I m0,I m1,I m2,I m3,I m4,I m5])).isSome=true:=
 Zy8 (λD u=>Zwb h D a b c o0 o1 G b1 b2 u) Qjk m0 m1 m2 m3 m4 m5
def Ya1 (G:j<i*4294967296+A) (I:X<4294967296) (L:j=J*i+C) (h:4294967296<=J\/C*4294967296+X<J*A):(j*4294967296+X)/(i*4294967296+A)<J:=by
 have D:0<i*4294967296+A:=by omega
 rw[dz D];rcases h with h|h
 ·have M:4294967296*(i*4294967296+A)<=J*(i*4294967296+A):=db _ h;omega
 grind
def Qzd {a b v u q r:Nat} (G:v<a*4294967296+b) (I:v=q*a+r) (h:q*b<=r*4294967296+u):q<=(v*4294967296+u)/(a*4294967296+b):=by
 have D:0<a*4294967296+b:=by omega
 rw[Nat.le_div_iff_mul_le D]
 grind
def Q43 (D:j<i*4294967296+A) (G:X<4294967296):(j*4294967296+X)/(i*4294967296+A)<4294967296:=by
 rw[dz (by omega)];omega
def Qlg {q b:Nat} (D:q<4294967296) (hb:b<4294967296):q*b<=18446744065119617025:=by
 have:=d9 (show q<=4294967295 by omega) (show b<=4294967295 by omega);omega
def X5 {α:Type} {F G:Nat->Nat->Option α} {a b v u Q:Nat} (U:(v*4294967296+u)/(a*4294967296+b)=Q) (hb:b<4294967296) (V:2147483648<=a) (I:a<4294967296) (D:v<a*4294967296+b) (L:u<4294967296) {X:α}
  (M:∀q r:Nat,q<=4294967297->r<4294967296->F q r=if 4294967296<=q\/r*4294967296+u<q*b then(if 4294967296<=r+a then G (q-1) 0 else F (q-1) (r+a))else G q 0)
  (Y:G Q 0=some X):∀(k q r:Nat),q<=Q+k->Q<=q->v=q*a+r->r<4294967296->q<=4294967297->F q r=some X
 |k,q,r,hk,h1,N,h3,h4=>by
  rw[M q r h4 h3];by_cases c:4294967296<=q\/r*4294967296+u<q*b
  ·rw[ac c];have h5:=Ya1 D L N c;have e:v=(q-1)*a+(r+a):=by
    have:(q-1)*a+a=q*a:=by rw[<-Nat.succ_mul];congr 1;omega
    omega
   by_cases O:4294967296<=r+a
   ·rw[ac O];have h6:(q-1)*b<=(r+a)*4294967296+u:=by
     have:=d9 (show q-1<=4294967296 by omega) (show b<=4294967296 by omega);omega
    have h7:=Qzd D e h6
    grind
   rw[ab O]
   match k with
   |0=>omega
   |k+1=>exact X5 U hb V I D L M Y k (q-1) (r+a) (by omega) (by omega) e (by omega) (by omega)
  rw[ab c];have h7:=Qzd (u:=u) D N (by omega)
  grind
def Zar (hb:A<4294967296) (G:2147483648<=i) (I:j<i*4294967296+A) (L:X<4294967296):(j*4294967296+X)/(i*4294967296+A)<=j/i/\j/i<=4294967297/\j=j/i*i+j%i/\j%i<i:=by
 have e:j=j/i*i+j%i:=by have:=f9 j i;rw[fm]at this;omega
 have D:j%i<i:=gx _ (by omega);refine⟨?_,?_,e,D⟩
 ·rw[<-Nat.lt_succ_iff,dz (by omega)]
  grind
 rw[<-Nat.lt_succ_iff,dz (by omega)];omega
theorem wr {x:Nat} (h:x<=18446744073709551615):wrap .u64 (x:Int)=x:=In (by omega)
def Z5d {y s v0:Int} (hb:A<4294967296) (O:2147483648<=i) (L:i<4294967296) (V:j<i*4294967296+A) (Y:X<4294967296):
  Ak (Ny M) [U y,U s,U i,U A,U j,U X,U v0,U ((j/i:Nat):Int),U ((j%i:Nat):Int)]=some (1,[U y,U s,U i,U A,U j,U X,U v0,U (((j*4294967296+X)/(i*4294967296+A):Nat):Int)]):=by
 obtain⟨f1,f2,f3,f4⟩:=Zar hb O V Y;refine X5 (F:=λq r=>Ak (Ny M) [U y,U s,U i,U A,U j,U X,U v0,U q,U r]) (G:=λq _=>some (1,[U y,U s,U i,U A,U j,U X,U v0,U q])) rfl hb O L V Y ?_ rfl (j/i) _ _ (Nat.le_add_left _ _) f1 f3 (by omega) f2;intro q r hq hr;have w1:wrap .u64 ((r:Int)+(i:Int))=((r+i:Nat):Int):=by rw[<-je,wr (by omega)]
 have w3:wrap .u64 (wrap .u64 (4294967296*(r:Int))+(X:Int))=((r*4294967296+X:Nat):Int):=by rw[show(4294967296:Int)*r=((r*4294967296:Nat):Int) by omega,wr (by omega),<-je,wr (by omega)]
 have w4:4294967296<=q->wrap .u64 ((q:Int)-1)=((q-1:Nat):Int):=λh=>by grind [wr]
 have D:=Zxh (D9:=M) y s i A j X v0 q r;rw[w1,w3]at D;by_cases c1:4294967296<=q
 ·rw[E0 (show(q:Int)>=4294967296 by omega),w4 c1]at D;show _=if _ then _ else _;rw[ac (.inl c1)];by_cases I:4294967296<=r+i
  ·rw[E0 (by omega)]at D;rw[ac I]
   grind [Bc]
  rw[BX (by omega)]at D;rw[ab I];exact Bw D
 have N:=Qlg (q:=q) (b:=A) (by omega) hb;rw[BX (by omega),<-iu,wr (co N (by decide))]at D;show _=if _ then _ else _;by_cases c3:r*4294967296+X<q*A
 ·rw[E0 (by omega)]at D;rw[ac (.inr c3)];have a0:0<q:=by
   rcases fe q with h|h
   ·grind
   exact h
  rw[show(q:Int)-1=((q-1:Nat):Int) by omega,wr (by omega)]at D;by_cases I:4294967296<=r+i
  ·rw[E0 (by omega)]at D;rw[ac I]
   grind [Bc]
  rw[BX (by omega)]at D;rw[ab I];exact Bw D
 rw[BX (by omega)]at D
 grind [Bc]
def Z3v {y s q1 w:Int} (hb:A<4294967296) (V:2147483648<=i) (L:i<4294967296) (Y:j<i*4294967296+A) (hu:X<4294967296):
  Ak (Q7 M N) [U y,U s,U i,U A,U X,U q1,U ((j%i:Nat):Int),U w,U ((j/i:Nat):Int)]=some (1,[U y,U s,U X,U q1,U w,U (((j*4294967296+X)/(i*4294967296+A):Nat):Int)]):=by
 obtain⟨f1,f2,f3,f4⟩:=Zar hb V Y hu;refine X5 (F:=λq r=>Ak (Q7 M N) [U y,U s,U i,U A,U X,U q1,U r,U w,U q]) (G:=λq _=>some (1,[U y,U s,U X,U q1,U w,U q])) rfl hb V L Y hu ?_ rfl (j/i) _ _ (Nat.le_add_left _ _) f1 f3 (by omega) f2;intro q r hq hr;have w1:wrap .u64 ((r:Int)+(i:Int))=((r+i:Nat):Int):=by rw[<-je,wr (by omega)]
 have w3:wrap .u64 (wrap .u64 (4294967296*(r:Int))+(X:Int))=((r*4294967296+X:Nat):Int):=by rw[show(4294967296:Int)*r=((r*4294967296:Nat):Int) by omega,wr (by omega),<-je,wr (by omega)]
 have w4:4294967296<=q->wrap .u64 ((q:Int)-1)=((q-1:Nat):Int):=λh=>by grind [wr]
 have D:=Zv5 (D9:=M) (N17:=N) y s i A X q1 r w q;rw[w1,w3]at D;by_cases c1:4294967296<=q
 ·rw[E0 (by omega),w4 c1]at D;rw[ac (.inl c1)];by_cases I:4294967296<=r+i
  ·rw[E0 (by omega)]at D;rw[ac I]
   grind [Bc]
  rw[BX (by omega)]at D;rw[ab I];exact Bw D
 have O:=Qlg (q:=q) (b:=A) (by omega) hb;rw[BX (by omega),<-iu,wr (co O (by decide))]at D;show _=if _ then _ else _;by_cases c3:r*4294967296+X<q*A
 ·rw[E0 (by omega)]at D;rw[ac (.inr c3)];have a0:0<q:=by
   rcases fe q with h|h
   ·grind
   exact h
  rw[show(q:Int)-1=((q-1:Nat):Int) by omega,wr (by omega)]at D;by_cases I:4294967296<=r+i
  ·rw[E0 (by omega)]at D;rw[ac I]
   grind [Bc]
  rw[BX (by omega)]at D;rw[ab I];exact Bw D
 rw[BX (by omega)]at D
 grind [Bc]
theorem Q5o {s:Nat} (D:s<=63):(2:Int)^min (Int.toNat (s:Int)) IntKind.u64.bits=((2^s:Nat):Int):=by
 have e:min (Int.toNat (s:Int)) IntKind.u64.bits=s:=by
  show min (Int.toNat (s:Int)) 64=s;omega
 grind
theorem Z9n {s:Nat} (D:s<=63):(2:Int)^min (Int.toNat ((64-s:Nat):Int)) IntKind.u64.bits=((2^(64-s):Nat):Int):=by
 have e:min (Int.toNat ((64-s:Nat):Int)) IntKind.u64.bits=64-s:=by
  show min (Int.toNat ((64-s:Nat):Int)) 64=64-s;omega
 grind
theorem Zbd (x y:Nat):((x:Int)).fdiv (y:Int)=((x/y:Nat):Int):=by grind
theorem ZW (x y:Nat):((x:Int)).tdiv (y:Int)=((x/y:Nat):Int):=by rfl
def orP {A B s:Nat} (hB:B<2^s) (h:A*2^s+B<w64):wrap .u64 (((BitVec.ofInt IntKind.u64.bits ((A*2^s:Nat):Int)|||BitVec.ofInt IntKind.u64.bits (B:Int)).toNat:Nat):Int)=((A*2^s+B:Nat):Int):=by
 rw[CK]at h;have e:(BitVec.ofInt IntKind.u64.bits ((A*2^s:Nat):Int)|||BitVec.ofInt IntKind.u64.bits (B:Int)).toNat=A*2^s+B:=by
  rw[BitVec.toNat_or];have e1:∀v:Nat,v<18446744073709551616->(BitVec.ofInt IntKind.u64.bits (v:Int)).toNat=v:=by
   simp only[IntKind.bits,BitVec.toNat_ofInt];omega
  have:=(Nat.two_pow_add_eq_or_of_lt hB A).symm;rw[fm]at this;rw[e1 _ (by omega),e1 _ (by omega)];exact this
 grind [wr]
def Q3q {v u G y:Nat} (M:y<w64) (I:G=(v*4294967296+u)/y) (D:0<y):wrap .u64 (wrap .u64 (wrap .u64 ((v:Int)*4294967296)+(u:Int))-wrap .u64 ((G:Int)*(y:Int)))=(((v*4294967296+u)%y:Nat):Int):=by
 have L:=f9 (v*4294967296+u) y;have N:=gx (v*4294967296+u) D;rw[<-I,fm]at L
 grind [CK,Qap]
theorem Zd1 (D:0<A) (G:i<w64):wrap .u64 ((i:Int)-wrap .u64 (wrap .u64 ((i/A:Nat):Int)*(A:Int)))=((i%A:Nat):Int):=by
 have I:=f9 i A;have L:=gy i A
 grind [CK,wr,Nat.mul_comm]
def Ybw {v u1 u0 Y:Nat} (D:0<Y):(v*w64+(u1*4294967296+u0))/Y=(v*4294967296+u1)/Y*4294967296+((v*4294967296+u1)%Y*4294967296+u0)/Y/\
  (v*w64+(u1*4294967296+u0))%Y=((v*4294967296+u1)%Y*4294967296+u0)%Y:=by
 have e:v*w64+(u1*4294967296+u0)=((v*4294967296+u1)%Y*4294967296+u0)+(v*4294967296+u1)/Y*4294967296*Y:=by
  have h:=f9 (v*4294967296+u1) Y;rw[fm]at h;rw[CK];have e2:(v*4294967296+u1)/Y*4294967296*Y=(v*4294967296+u1)/Y*Y*4294967296:=by rw[jb,fm 4294967296,<-jb]
  omega
 simp_all [Nat.add_mul_div_right,Nat.add_comm]
def Z2m {D lo y s:Nat} (h0:0<D) (h1:D<y) (a9:y<w64) (a5:lo<w64) (hs:s<=63) (h2:9223372036854775808<=y*2^s) (h3:y*2^s<w64) (hM:M [U y]=some [I s]):
  Qcn M (Ak (Ny M)) (Ak (Q7 M (Ak (Ny M)))) [U D,U lo,U y]=some [U (((D*w64+lo)/y:Nat):Int),U (((D*w64+lo)%y:Nat):Int)]:=by
 have hP:0<2^s:=f8 _;have a1:2^s*2^(64-s)=w64:=by rw[CK,<-Nat.pow_add,show s+(64-s)=64 by omega]
 have hT:0<2^(64-s):=f8 _;have es:wrap .u64 (s:Int)=s:=wr (by omega);have et:wrap .u64 (64-(s:Int))=((64-s:Nat):Int):=by rw[show(64:Int)-s=((64-s:Nat):Int) by omega,wr (by omega)]
 have hB:lo/2^(64-s)<2^s:=by rw[dz hT,a1];exact a5
 have hv:D*2^s+lo/2^(64-s)<y*2^s:=by
  have:D*2^s+2^s<=y*2^s:=by rw[<-Nat.succ_mul];exact db _ h1
  omega
 have hN:(D*w64+lo)*2^s=(D*2^s+lo/2^(64-s))*w64+lo*2^s%w64:=by
  have e1:lo*2^s/w64=lo/2^(64-s):=by
   rw[<-a1,fm lo,Nat.mul_div_mul_left _ _ hP]
  have e2:=f9 (lo*2^s) w64;rw[e1]at e2;rw[jh,jh,jd,fm (lo/2^(64-s)),e2];congr 1;rw[jb,fm w64,jb]
 have hU:lo*2^s%w64<w64:=gx _ TD;have ey:wrap .u64 ((y:Int)*((2^s:Nat):Int))=((y*2^s:Nat):Int):=by rw[<-iu,wr (Nat.le_of_lt_succ (by grind [CK]))]
 have eh:wrap .u64 ((D:Int)*((2^s:Nat):Int))=((D*2^s:Nat):Int):=by
  rw[<-iu,wr (Nat.le_of_lt_succ (by grind [CK]))]
 have el:wrap .u64 ((lo:Int)*((2^s:Nat):Int))=((lo*2^s%w64:Nat):Int):=by
  rw[<-iu,Qap,CK];rfl
 have eo:=orP (A:=D) (B:=lo/2^(64-s)) (s:=s) hB (by omega);have hq:(D*w64+lo)/y=(D*w64+lo)*2^s/(y*2^s):=(Nat.mul_div_mul_right _ _ hP).symm;have hr:(D*w64+lo)%y=(D*w64+lo)*2^s%(y*2^s)/2^s:=by rw[Nat.mul_mod_mul_right,Nat.mul_div_cancel _ hP]
 rw[hq,hr,hN];rw[Q0f];simp only[hM,aq,Iu,Cx,Cx,Cx,Cx,Cx,Cx,Cx,Id,gA,jA,wA,bA,es,et,Q5o hs,Z9n hs,ey,eh,el,Zbd,eo];rw[CE (by grind),BX (show¬(y:Int)<=D by omega),CE (by grind),BX (show¬(s:Int)<0 by omega),BX (show¬(s:Int)<0 by omega),BX (show¬((64-s:Nat):Int)<0 by omega),BX (show¬(s:Int)<0 by omega)];rw[Q03,Q5p _ h3,Q03,Q5p _ hU];have hY:y*2^s=y*2^s/4294967296*4294967296+y*2^s%4294967296:=by omega
 have hW:lo*2^s%w64=lo*2^s%w64/4294967296*4294967296+lo*2^s%w64%4294967296:=by omega
 have hb:y*2^s%4294967296<4294967296:=gx _ (by omega);have a2:lo*2^s%w64%4294967296<4294967296:=gx _ (by omega);have a3:lo*2^s%w64/4294967296<4294967296:=by rw[CK]at hU⊢;omega
 have ha:2147483648<=y*2^s/4294967296:=by omega
 have a4:y*2^s/4294967296<4294967296:=by rw[CK]at h3;omega
 clear hN hq hr eh el eo ey hB;generalize D*2^s+lo/2^(64-s)=v at*;generalize lo*2^s%w64=w at*;generalize y*2^s=Y at*;generalize w/4294967296=u1 at*;generalize w%4294967296=u0 at*;generalize Y/4294967296=a at*;generalize Y%4294967296=b at*;subst hW;rw[BX (show¬(a:Int)=0 by omega),ZW,Zd1 (by omega) (Nat.lt_trans hv h3),wr (x:=v/a) (by have:=gy v a;omega)];have hl:=Z5d (M:=M) (y:=(Y:Int)) (s:=s) (v0:=u0) hb ha a4 (by rw[<-hY];exact hv) a3;rw[hl];rw[<-hY];have G:0<Y:=by omega
 have O:=Q3q (v:=v) (u:=u1) (y:=Y) h3 rfl G;have a6:(v*4294967296+u1)/Y<4294967296:=by rw[hY];exact Q43 (by omega) a3
 have V:=gx (v*4294967296+u1) G;obtain⟨k1,k2⟩:=Ybw (v:=v) (u1:=u1) (u0:=u0) G;rw[k1,k2];clear hl k1 k2;obtain⟨X,g1⟩:∃X,(v*4294967296+u1)/Y=X:=⟨_,rfl⟩;obtain⟨L,g2⟩:∃L,(v*4294967296+u1)%Y=L:=⟨_,rfl⟩;rw[g1]at O a6⊢;rw[g2]at O V⊢;simp only[aq,Iu,Cx,Cx,Cx,Cx,Cx,Cx,Cx,Id,O];rw[show Nat.beq 1 1=true from rfl,am,BX (show¬(a:Int)=0 by omega),ZW,Zd1 (by omega) (Nat.lt_trans V h3),wr (x:=L/a) (by have:=gy L a;omega)];have a7:=Z3v (M:=M) (N:=Ak (Ny M)) (y:=(Y:Int)) (s:=s) (q1:=X) (w:=L) hb ha a4 (by rw[<-hY];exact V) a2;rw[a7];rw[<-hY];have a0:=Q3q (v:=L) (u:=u0) (y:=Y) h3 rfl G;have a8:(L*4294967296+u0)/Y<4294967296:=by rw[hY];exact Q43 (by omega) a2
 obtain⟨q0,g3⟩:∃q0,(L*4294967296+u0)/Y=q0:=⟨_,rfl⟩;obtain⟨r0,g4⟩:∃r0,(L*4294967296+u0)%Y=r0:=⟨_,rfl⟩;rw[g3]at a0 a8⊢;rw[g4]at a0⊢;simp only[aq,Iu,Cx,Cx,Cx,Cx,Cx,Id,a0];rw[show Nat.beq 1 1=true from rfl,am,BX (show¬(s:Int)<0 by omega),Q5o hs,Zbd];have w1:wrap .u64 (wrap .u64 ((X:Int)*4294967296)+(q0:Int))=((X*4294967296+q0:Nat):Int):=by
  rw[show(X:Int)*4294967296=((X*4294967296:Nat):Int) by omega,wr (by omega),<-je,wr (by omega)]
 rw[w1]
def Z1o (V:0<i) (h:i<w64):∃s:Nat,Kr [U i]=some [I s]/\s<=63/\9223372036854775808<=i*2^s/\i*2^s<w64:=by
 have G:=CK;obtain⟨b1,b2,b3⟩:=Lib.bitLenAux_bounds 64 i (by omega) (by omega);have M:Lib.bitLen i=Lib.bitLenAux 64 i:=rfl;generalize hb:Lib.bitLenAux 64 i=L at*;have D:L<=64:=by
  by_cases c:L<=64
  ·exact c
  have:=Nat.pow_le_pow_right (show 0<2 by omega) (show 64<=L-1 by omega);omega
 refine⟨64-L,?_,by omega,?_,?_⟩
 ·unfold Kr;have N:F8=18446744073709551616:=rfl;have O:inU (i:Int)=true:=by
   simp only[inU,ak,dx];omega
  simp only[Iu,Id,wA,bA,O,M]
  grind
 ·have e:2^(L-1)*2^(64-L)=9223372036854775808:=by rw[<-Nat.pow_add,show L-1+(64-L)=63 by omega]
  rw[<-e];exact db _ b2
 have e:2^L*2^(64-L)=w64:=by rw[<-Nat.pow_add,show L+(64-L)=64 by omega,G]
 rw[<-e];exact il b3 (f8 _)
theorem Zjq (I:i<j) (G:j<w64) (D:A<w64):JK [U i,U A,U j]=some [U (((i*w64+A)/j:Nat):Int),U (((i*w64+A)%j:Nat):Int)]:=by
 rcases fe i with h|h
 ·simp_all [Zg2]
 obtain⟨s,e,e1,e2,e3⟩:=Z1o (by omega) G;exact Z2m h I G D e1 e2 e3 e
def Zvg (h1:∀x b,(M [U x,B b]).isSome=true) (h2:∀x y b c,(Z [I x,I y,B b,B c]).isSome=true) (O:∀x y,(V [I x,I y]).isSome=true)
  (h4:∀{X lo y:Nat},X<y->y<w64->lo<w64->(P [U X,U lo,U y]).isSome=true) (h5:∀{x y:Nat},x<w64->y<w64->H [U x,U y]=some [U ((x*y/w64:Nat):Int),U ((x*y%w64:Nat):Int)])
  (D:∀{x:Int},i64 x->G [I x]=some [U (x.natAbs:Int)]) (h7:∀x,(F [I x]).isSome=true) {a b c:Int} (Y:i64 a) (hb:i64 b) (hc:i64 c) (m:Int):
  (Ve M Z V P H G F [I a,I b,I c,I m]).isSome=true:=by
 have L:∀{x:Int},i64 x->x.natAbs<w64:=by
  intro x hx;unfold i64 at hx;rw[CK];omega
 rw[Zhe,D Y,D hb,D hc];refine C4 (λ_=>rfl) λ_=>FU (h7 _) λ_ _=>C4 (λ_=>rfl) λ_=> ?_;simp only[aq,gA,nth,Af];rw[h5 (L Y) (L hb)];simp only[aq,gA,wA,bA,jA,nth];refine C4 (λ_=>rfl) λc0=> ?_;have c0:=B0 c0;have N:a.natAbs*b.natAbs%w64<w64:=gx _ (by grind);refine FU (h4 (by omega) (L hc) N) λ_ _=>FU (O _ _) λ_ _=> ?_
 repeat' first|exact rfl|exact h1 _ _|exact h2 _ _ _ _|exact O _ _|refine C4 (λ_=> ?_) (λ_=> ?_)|refine FU ?_ λ_ _=> ?_
def Zu7 (x:Int) (b:Bool):(G9 [U x,B b]).isSome=true:=by
 show(Qem [U x,B b]).isSome=true;simp_all [Qja,C4]
def Zrm (x y:Int) (b c:Bool):(LM [I x,I y,B b,B c]).isSome=true:=by
 show(Qgo [I x,I y,B b,B c]).isSome=true;rw[Q1l]
 grind
def Ydc (x y:Int):(Jo [I x,I y]).isSome=true:=by
 show(Qfg [I x,I y]).isSome=true;rw[Qpt]
 grind
def Z8o (x:Int):(Jg [I x]).isSome=true:=by
 show(X_ [I x]).isSome=true;simp[Q66,C4]
def Qfu {a b c:Int} (L:i64 a) (hb:i64 b) (M:i64 c) (m:Int):(Cy [I a,I b,I c,I m]).isSome=true:=
 Zvg Zu7 Zrm Ydc (λD G N=>by grind [Zjq]) (λD G=>Q6f D G) (λh=>Ob h) Z8o L hb M m
theorem Qhn (x:Int):i64 (O x):=Ycb x
theorem Qt0 {l:List AC} (h:(M l).isSome=true) {f:List AC->List AC}:((M l).bind λo=>some (f o)).isSome=true:=FU h λ_ _=>rfl
def Yco (D:i64 a) (hb:i64 b):(UM [I a,I b]).isSome=true:=by
 show(Zj Cy [I a,I b]).isSome=true;have h:=Qfu D hb (show i64 4096 by grind [i64]) 0;simp_all [Z7q,Qt0]
def Q95 (D:i64 a):(GG [I a]).isSome=true:=by
 show(VT Cy [I a]).isSome=true;have h:=Qfu D (show i64 1048576 by grind [i64]) (show i64 60000 by grind [i64]) 2;simp_all [Q5b,Qt0]
def Z6d (a b:Int):∃v,Xr [I a,I b]=some [I v]/\i64 v:=by
 refine⟨mx (O (a-b)) (O (b-a)),?_,?_⟩
 ·show Qa1 [I a,I b]=_;rw[Ztl]
 grind [Qhn,mx]
def Qnc (a:Int):(I4 [I a]).isSome=true:=by
 show(Qf6 [I a]).isSome=true;simp[Zos,C4]
def Zwy (hb:b≠0):(OW [I a,I b]).isSome=true:=by
 show(Qgh [I a,I b]).isSome=true;simp_all [Ycm,C4]
def Zte (L O U V D:Int) {G:Int} (X:i64 G):(OG [I L,I O,I U,I V,I D,I G]).isSome=true:=by
 show(Zx GG I4 [I L,I O,I U,I V,I D,I G]).isSome=true;have h:=Q95 X;have Y:=Qnc D;generalize GG=M at*;generalize I4=N at*;rw[Zvu]
 repeat' first|exact rfl|exact h|exact Y|refine C4 (λ_=> ?_) (λ_=> ?_)|grind [FU]
def Yca (L O U V D:Int) {G:Int} (X:i64 G):(Q8 [I L,I O,I U,I V,I D,I G]).isSome=true:=by
 show(Za GG I4 [I L,I O,I U,I V,I D,I G]).isSome=true;have h:=Q95 X;have Y:=Qnc D;generalize GG=M at*;generalize I4=N at*;rw[Zy0]
 repeat' first|exact rfl|exact h|exact Y|refine C4 (λ_=> ?_) (λ_=> ?_)|grind [FU]
structure Plan3 (a b c : Int) : Prop where
 a:1<=a/\a<=65536
 b:2<=b/\b<=65536
 c:1<=c/\c<=16777216
abbrev Fc (m0 m1 m3 m4 v:Int):List AC:=[I (O (m0+v)),I v,I (O (v-m1)),I m0,I m3,I m4]
def Q7h (m0 m1 m2 m3 m4 m5 v:Int):Oc [I m0,I m1,I m2,I m3,I m4,I m5,I v]=some (Fc m0 m1 m3 m4 v):=by
 show XZ [I m0,I m1,I m2,I m3,I m4,I m5,I v]=some (Fc m0 m1 m3 m4 v);rw[Z9z]
theorem FH (a:AC) (l:List AC):nth .vD (a::l) 0=a:=rfl
theorem I5 (a:AC) (l:List AC) (n:Nat):nth .vD (a::l) (n+1)=nth .vD l n:=rfl
theorem HV (n:Int):Af (.int .i64 n)=n:=rfl
def Yct {x:Ax3} (G:∀u,(M (pxt p x t [I u])).isSome=true) (O:0<=t.length/\t.length<=900000000000000) (D u2:Int) (hd:u2-D<=1000000000000):
  (Uj M (Ak (S6 M)) (pxt p x t [I D,I u2])).isSome=true:=by
 rw[Q02];have U:0<=mx 0 (mn D t.length)/\mx 0 (mn D t.length)<=t.length/\mx 0 (mn u2 t.length)-mx 0 (mn D t.length)<=1000000000000/\mx 0 (mn u2 t.length)<=t.length:=by
  unfold mx mn
  (omega)<;>omega
 generalize mx 0 (mn D t.length)=f at*;generalize mx 0 (mn u2 t.length)=e at*;refine FU (G _) λo _=> ?_;refine Out.is (p:=λ_=>True) ?_;refine .bind (p:=λo=>o.1=1) ?_ λo g=>by rw[g];exact .some trivial
 show Out _ (Ak _ (.vC kPt []::I e::I f::pxt p x t [I (gA o 0),I (gA o 1),I (gA o 2)]));generalize gA o 0=w0;generalize gA o 1=L;generalize gA o 2=N;refine Ch (λs:Rw×Int×Int×Int×Int=> .vC kPt s.1::I e::I s.2.1::pxt p x t [I s.2.2.1,I s.2.2.2.1,I s.2.2.2.2]) (λs=>f<=s.2.1/\s.2.1<=t.length/\(s.1.length:Int)<=3*(s.2.1-f)) (λs=>(e-s.2.1).toNat) _ ?_ ([],f,w0,L,N) (by grind);rintro⟨v,u,V,a1,a2⟩ ⟨X,Y,q3⟩;dsimp only at*;rw[Zlx];try dsimp only[NO]
 rw[Ad (x:=u+1)];refine .cond (λc=> ?_) (λ_=> .some (.inr ⟨by simp,rfl⟩));have c:=Ba c;refine .ibind (G _) λo _=> ?_
 repeat' first
  |(refine .cond (λ_=> ?_) λc=>by rw[Dd (by simp;omega)]at c;cases c)
  |refine .cond (λ_=> ?_) (λ_=> ?_)
 all_goals refine Out.some (Or.inl ⟨rfl,(_,u+1,_,_,_),rfl,by simp;omega,by show(e-(u+1)).toNat<(e-u).toNat;omega⟩)
def Yd6 {x:Ax3} (h:Fix p x t) (D u2:Int) (hd:u2-D<=1000000000000):(Jz (pxt p x t [I D,I u2])).isSome=true:=
 Yct (λu=>by rw[RF h u];rfl) h.t.q.len D u2 hd
def Cg (k b:Int):Int:=if b<=0 then 0 else(b-1)/k*b-k*((b-1)/k*((b-1)/k+1)/2)
def Di (j k v a:Int):Prop:= -j<=a/\a<=j/\Cg k (-a)<=v/\v<=16777216-Cg k a/\(v=0->a<=k)
instance (j k v a:Int):Decidable (Di j k v a):=by unfold Di;infer_instance
def Q9e (I:2<=k/\k<=65536) (hb:0<b/\b<=1048576):
  0<=(b-1)/k/\(b-1)/k<=524288/\k*((b-1)/k)<=b-1/\0<=(b-1)/k*b/\(b-1)/k*b<=549755813888/\0<=(b-1)/k*((b-1)/k+1)/\(b-1)/k*((b-1)/k+1)<=274878431232:=by
 have D:0<=(b-1)/k:=jv (by omega) (by omega);have L:k*((b-1)/k)<=b-1:=Int.mul_ediv_self_le (by omega);have M:=ap I.1 D;have G:(b-1)/k<=524288:=by omega
 have N:=cv G hb.2;have O:(b-1)/k*((b-1)/k+1)<=524288*524289:=cv G;exact⟨D,G,L,al D,by omega,al D,by omega⟩
theorem Lt (h:b<=0):Cg k b=0:=by simp[Cg,h]
theorem Qlf (h:b<=k):Cg k b=0:=by
 unfold Cg;split
 ·rfl
 rw[jg (by omega) (by omega)];simp
theorem Ztj (m:Int):m*(m+1)/2=(m-1)*m/2+m:=by grind
theorem Zv (D:0<k) (h:k<b):Cg k b=(b-k)+Cg k (b-k):=by
 have e1:(b-1)/k=(b-k-1)/k+1:=by
  have:b-1=(b-k-1)+k*1:=by omega
  rw[this,Int.add_mul_ediv_left _ _ (by omega)]
 unfold Cg;rw[ab,ab,e1];generalize(b-k-1)/k=m;rw[Ztj (m+1)]
 grind
def Qmr {k:Int} (D:0<k):∀(n:Nat) (b:Int),b<=n->0<=Cg k b
 |0,b,h=>by grind [Lt]
 |n+1,b,h=>by
  by_cases hb:b<=k
  ·grind [Qlf]
  rw[Zv D (by omega)];have:=Qmr D n (b-k) (by omega);omega
def RP (D:0<k):0<=Cg k b:=Qmr D b.toNat b (by omega)
def Zvo (D:2<=k/\k<=65536) (hb:b<=1048576):Cg k b<=549755813888:=by
 unfold Cg;split
 ·omega
 have p:=Q9e D ⟨by omega,hb⟩;generalize(b-1)/k=m at p⊢;have G:0<=k*(m*(m+1)/2):=al;omega
def bs (k v:Int):Nat->Int->Int->Int
 |0,low,_=>low
 |n+1,low,aY=>if low<aY then
   if Cg k (aY-(aY-low)/2)<=v-(aY-(aY-low)/2)then bs k v n (aY-(aY-low)/2) aY else bs k v n low (aY-(aY-low)/2-1)
  else low
def A3 (j k v a:Int):Int:= -(bs k v 20 (-a-k) (min (k-a) j))
def Qhq (k v:Int):∀(n:Nat) (low aY:Int),low<=bs k v n low aY/\bs k v n low aY<=max low aY
 |0,low,aY=>by grind [bs]
 |n+1,low,aY=>by
  unfold bs;split
  ·split
   ·have:=Qhq k v n (aY-(aY-low)/2) aY;omega
   have:=Qhq k v n low (aY-(aY-low)/2-1);omega
  omega
def Qhk (k v:Int):∀(n:Nat) (low aY:Int),low<=aY->aY-low<2^n->Cg k low<=v-low->
  Cg k (bs k v n low aY)<=v-bs k v n low aY/\low<=bs k v n low aY/\bs k v n low aY<=aY/\(bs k v n low aY=aY\/v-(bs k v n low aY+1)<Cg k (bs k v n low aY+1))
 |0,low,aY,L,M,I=>by grind [bs]
 |n+1,low,aY,L,M,I=>by
  unfold bs;by_cases D:low<aY
  ·rw[ac D];by_cases G:Cg k (aY-(aY-low)/2)<=v-(aY-(aY-low)/2)
   ·rw[ac G];obtain⟨a,b,c,d⟩:=Qhk k v n (aY-(aY-low)/2) aY (by omega) (by omega) G;omega
   rw[ab G];obtain⟨a,b,c,d⟩:=Qhk k v n low (aY-(aY-low)/2-1) (by omega) (by omega) I
   grind
  grind
def Qxm (G:Plan3 u k r) (I:Di u k v a) {B:Int} (hB:B=bs k v 20 (-a-k) (min (k-a) u)):
  Cg k B<=v-B/\ -a-k<=B/\B<=k-a/\B<=u/\(B=min (k-a) u\/v-(B+1)<Cg k (B+1))/\0<=v:=by
 obtain⟨⟨M,N⟩,⟨O,U⟩,V,X⟩:=G;obtain⟨Y,h2,h3,h4,h5⟩:=I;have L:0<k:=by omega
 have l0:=RP (b:= -a) L;have D:Cg k (-a-k)<=v-(-a-k):=by
  by_cases hc:k< -a
  ·grind [Zv]
  grind [Lt]
 obtain⟨q1,q2,q3,q4⟩:=Qhk k v 20 (-a-k) (min (k-a) u) (by omega) (by omega) D
 grind
theorem closed (G:Plan3 u k r) (I:Di u k v a):
  Di u k (v+A3 u k v a) (A3 u k v a)/\A3 u k v a-a<=k/\a-A3 u k v a<=k/\(0<a\/(v=0/\A3 u k v a=0)\/A3 u k v a<0):=by
 obtain⟨B,hB⟩:∃B,B=bs k v 20 (-a-k) (min (k-a) u):=⟨_,rfl⟩;have hb:A3 u k v a= -B:=by unfold A3;rw[hB]
 obtain⟨M,N,O,U,D,V⟩:=Qxm G I hB;obtain⟨⟨X,Y⟩,⟨p3,p4⟩,p5,p6⟩:=G;obtain⟨h1,h2,h3,h4,h5⟩:=I;have L:0<k:=by omega
 have top:B+1<=0->B=min (k-a) u:=by
  intro h;rcases D with D|D
  ·exact D
  grind [Lt]
 have la:=RP (b:=a) L;refine⟨⟨by omega,by omega,by grind,?_,?_⟩,by omega,by omega,?_⟩
 ·grind [Lt,Zv]
 ·omega
 grind [Qlf]
def Cj (j k:Int):Nat->Int->Int->List Int×Bool
 |0,v,_=>([],decide (v<=0))
 |n+1,v,a=>if v<=0 then([],true)else((v+A3 j k v a)::(Cj j k n (v+A3 j k v a) (A3 j k v a)).1,(Cj j k n (v+A3 j k v a) (A3 j k v a)).2)
theorem Zjz (j k:Int):∀(n:Nat) (v a:Int),(Cj j k n v a).2=true->Cj j k (n+1) v a=Cj j k n v a
 |0,v,a,h=>by simp_all [of_decide_eq_true,Cj]
 |n+1,v,a,h=>by
  unfold Cj at h⊢;by_cases c:v<=0
  ·grind
  rw[ab c]at h;rw[ab c,ab c,Zjz j k n _ _ h]
def LG (D:Plan3 u k r) (G:Di u k v a): -65536<=a/\a<=65536/\0<=v/\v<=16777216:=by
 obtain⟨I,L,M,N,-⟩:=G;have O:=D.a;have U:=D.b
 have V:=RP (k:=k) (b:=a) (by omega);have X:=RP (k:=k) (b:= -a) (by omega);omega
end Go.Bm
noncomputable section
namespace Go.Bm
def Zng {a k c:Int} (D:2<=k/\k<=65536) {d:Int} (hd:d<=1048576):JG [I a,I k,I c,I d]=some [I (Cg k d)]:=by
 show Qge _=_;rw[Q2e];by_cases h:d<=0
 ·simp_all [Lt]
 rw[CE (ba h),CE (ba (by omega)),CE (ba (by omega))];obtain⟨L,M,N,O,U,V,X⟩:=Q9e D (show 0<d/\d<=1048576 by omega);unfold Cg;have Y:0<=k*((d-1)/k*((d-1)/k+1)/2):=al;have G:k*((d-1)/k*((d-1)/k+1)/2)<=65536*274878431232:=cv D.2
 grind [Ad]
def Zsp {a k c:Int} (N:Plan3 a k c) (U:∀{d:Int},d<=1048576->M [I a,I k,I c,I d]=some [I (Cg k d)]) (v x:Int):Vr M [I a,I k,I c,I v,I x]=some [B (decide (Di a k v x))]:=by
 have X:=N.a;have V:=N.b
 rw[Qtw,Ad (x:=0-a)];refine eC (λh=> ?_) λh=> ?_
 ·have h:x<0-a:=Ba h;rw[ba (λq=>by have:=q.1;omega)]
 have h: ¬x<0-a:=B0 h;refine eC (λD=> ?_) λD=> ?_
 ·have D:x>a:=Ba D;rw[ba (λq=>by have:=q.2.1;omega)]
 have D: ¬x>a:=B0 D;have Y:=Zvo (b:=x) V (by omega);have l3:=RP (k:=k) (b:=x) (by omega);have fin: ¬(v=0/\x>k)->((M [I a,I k,I c,I (O (0-x))]).bind λo=>bif decide (v>=gA o 0)then(M [I a,I k,I c,I x]).bind λo2=>some [B (decide (v<=O (16777216-gA o2 0)))]else some [B false])=some [B (decide (Di a k v x))]:=λhz=>by
  rw[Ad (x:=0-x),show(0:Int)-x= -x by omega];refine eB (U (by omega)) (eC (λq=> ?_) λq=> ?_)
  ·have q:=Ba q;refine eB (U (by omega)) ?_;show some [B (decide (v<=O (16777216-Cg k x)))]=_;rw[Ad];have e:(v<=16777216-Cg k x)↔Di a k v x:=⟨λe=>⟨by omega,by omega,q,e,λz=>by omega⟩,λe=>e.2.2.2.1⟩
   grind
  have q:=B0 q;rw[ba (λw=>q w.2.2.1)]
 refine eC (λG=>eC (λL=> ?_) λL=> ?_) λG=> ?_
 ·have G:v=0:=eq_of_beq G;have L:x>k:=Ba L;rw[ba (λq=>by have:=q.2.2.2.2 G;omega)]
 ·grind
 grind
def Z3i {a k c:Int} (D:Plan3 a k c) (v x:Int):Ju [I a,I k,I c,I v,I x]=some [B (decide (Di a k v x))]:=Zsp D (λhd=>Zng D.b hd) v x
theorem Zpp:∀(n:Nat) {low aY:Int},¬low<aY->bs k v n low aY=low
 |0,_,_,_=>rfl
 |n+1,_,_,h=>by unfold bs;omega
def Z92 {a k c v:Int} (L:∀{d:Int},d<=1048576->M [I a,I k,I c,I d]=some [I (Cg k d)]) (U: -1099511627776<=v/\v<=1099511627776):∀(n:Nat) (low aY:Int),aY-low<2^n-> -262144<=low->aY<=262144->low<=262144-> -262145<=aY->
  Ak (Oq M Z) [I v,I low,I aY,I a,I k,I c]=some (1,[I (bs k v n low aY)]):=by
 have G:∀(n:Nat) {low aY:Int},¬low<aY->Ak (Oq M Z) [I v,I low,I aY,I a,I k,I c]=some (1,[I (bs k v n low aY)]):=λn low aY h=>by simp_all [Zpp,Bc,Y8,CE]
 intro n;induction n with
 |zero=>grind
 |succ n V=>
  intro low aY h X Y h3 h4;have N:(2:Int)^(n+1)=2*2^n:=by rw[Int.pow_succ];omega
  rw[N]at h;by_cases cc:low<aY
  ·have e1:O (aY-O ((O (aY-low)).tdiv 2))=aY-(aY-low)/2:=by
    rw[Ad (x:=aY-low),dg (show 0<=aY-low by omega),Ad (x:=(aY-low)/2),Ad]
   have e2:O (v-(aY-(aY-low)/2))=v-(aY-(aY-low)/2):=Ad;have e3:O (aY-(aY-low)/2-1)=aY-(aY-low)/2-1:=Ad;have D:=Y8 M Z v low aY a k c;rw[GE (av cc),e1,e2,e3,L (by omega)]at D;unfold bs;rw[ac cc];by_cases q:Cg k (aY-(aY-low)/2)<=v-(aY-(aY-low)/2)
   ·rw[ac q];rw[Bw (D.trans (eB rfl (eT (av (show v-(aY-(aY-low)/2)>=Cg k (aY-(aY-low)/2)from q)) rfl)))]
    grind
   rw[ab q];rw[Bw (D.trans (eB rfl (eF (ba (q)) rfl)))]
   grind
  grind
def Zqe {a k c v x:Int} (D:Plan3 a k c) (G:Di a k v x) (L:∀{d:Int},d<=1048576->M [I a,I k,I c,I d]=some [I (Cg k d)]) (hV:Z [I a,I k,I c]=some [B true]):
  Vl M Z (Ak (Oq M Z)) [I a,I k,I c,I v,I x]=some [I (A3 a k v x)]:=by
 have N:=LG D G;have U:=D.a;have V:=D.b
 rw[Zi6];have m1:mx x v=max x v:=by unfold mx;split<;>omega
 have m2:mn x v=min x v:=by unfold mn;split<;>omega
 refine eB hV (eF rfl (eF (ba (by omega)) (eF (ba (by omega)) ?_)));have m3:mn (O (k-x)) a=min (k-x) a:=by rw[Ad];unfold mn;split<;>omega
 rw[m3,Ad (x:=0-x),Ad,show(0:Int)-x-k= -x-k by omega];refine eB (Z92 L (by omega) 20 (-x-k) (min (k-x) a) (by omega) (by omega) (by omega) (by omega) (by omega)) (eT rfl ?_);have hb:=Qhq k v 20 (-x-k) (min (k-x) a);show some [I (O (0-bs k v 20 (-x-k) (min (k-x) a)))]=_
 grind [A3,Ad]
def Qz6 {a k c:Int} (D:Plan3 a k c):GC [I a,I k,I c]=some [B true]:=by
 rw[VF,av];exact⟨D.a.1,D.a.2,D.b.1,D.b.2,D.c.1,D.c.2⟩
def Qm0 {a k c v x:Int} (D:Plan3 a k c) (G:Di a k v x):Hp [I a,I k,I c,I v,I x]=some [I (A3 a k v x)]:=
 Zqe D G (λhd=>Zng D.b hd) (Qz6 D)
def BH (a k v x:Int):List Int×Bool:=if Di a k v x/\(Cj a k 4096 v x).2=true then((Cj a k 4096 v x).1,true)else([],false)
def Ztg {D MR MV:Fn} {a k c:Int} (M:Plan3 a k c) (hB:∀{v x:Int},Di a k v x->D [I a,I k,I c,I v,I x]=some [I (A3 a k v x)]):∀(n:Nat) (pre:List Int) (v x:Int),pre.length+n=4096->Di a k v x->
  Ak (KM D MR MV) [.vC Aa (pre.map Ap),I v,I x,I a,I k,I c]=if(Cj a k n v x).2=true then some (2,[.vC Aa ((pre++(Cj a k n v x).1).map Ap)])else some (1,[B false]):=by
 have fin:∀(n:Nat) (pre:List Int) (v x:Int),v<=0->Ak (KM D MR MV) [.vC Aa (pre.map Ap),I v,I x,I a,I k,I c]=if(Cj a k n v x).2=true then some (2,[.vC Aa ((pre++(Cj a k n v x).1).map Ap)])else some (1,[B false]):=λn pre v x h=>by
  have e:Cj a k n v x=([],true):=by
   cases n with
   |zero=>show([],decide (v<=0))=([],true);grind
   |succ n=>simp_all [Cj]
  simp_all [Bc,VL,CE]
 intro n;induction n with
 |zero=>
  intro pre v x X G;by_cases h:v<=0
  ·grind
  have e:Cj a k 0 v x=([],false):=by show([],decide (v<=0))=([],false);rw[ba h]
  simp_all [Bc,VL]
 |succ n Y=>
  intro pre v x X G;by_cases h:v<=0
  ·grind
  have N:=closed M G;have U:=LG M N.1;have V:=VL D MR MV (pre.map Ap) v x a k c;rw[GE (av (by omega)),CE (beF (by grind)),hB G]at V;have hw:O (v+A3 a k v x)=v+A3 a k v x:=Ad;have L:KM D MR MV [.vC Aa (pre.map Ap),I v,I x,I a,I k,I c]=some (0,[.vC Aa ((pre++[v+A3 a k v x]).map Ap),I (v+A3 a k v x),I (A3 a k v x),I a,I k,I c]):=by
   refine V.trans (eB rfl ?_);show cond ((List.length (pre.map Ap++[[I (O (v+A3 a k v x))]])*8).ble 140737488355328) (some (0,[AC.vC Aa (pre.map Ap++[[I (O (v+A3 a k v x))]]),I (O (v+A3 a k v x)),I (A3 a k v x),I a,I k,I c])) none=_;rw[hw,Dd (by grind),d8];rfl
  rw[Bw L,Y (pre++[v+A3 a k v x]) _ _ (by grind) N.1];simp_all [Cj,ab]
def Z8p {a k c:Int} (G:Plan3 a k c) (hB:∀{v x:Int},Di a k v x->M [I a,I k,I c,I v,I x]=some [I (A3 a k v x)]) (hV:V [I a,I k,I c]=some [B true])
  (L:∀v x,Z [I a,I k,I c,I v,I x]=some [B (decide (Di a k v x))]) (v x:Int):
  V1 M Z V (Ak (KM M Z V)) [I a,I k,I c,I v,I x]=some [.vC Aa ((BH a k v x).1.map Ap),B (BH a k v x).2]:=by
 rw[Qmu];refine eB hV (eF rfl (eB (L v x) ?_));unfold BH;refine eC (λh=> ?_) λh=> ?_
 ·have h: ¬Di a k v x:=by
   intro q;rw[av q]at h;cases h
  grind
 have h:Di a k v x:=by
  have h:(!decide (Di a k v x))=false:=h;by_cases q:Di a k v x
  ·exact q
  grind
 have D:=Ztg (MR:=Z) (MV:=V) G hB 4096 [] v x (by simp) h;by_cases q:(Cj a k 4096 v x).2=true
 ·rw[ac q]at D;rw[ac ⟨h,q⟩];exact eB D rfl
 rw[ab q]at D;rw[ab (λw=>q w.2)];exact eB D rfl
def Ydx {a k c:Int} (D:Plan3 a k c) (v x:Int):PT [I a,I k,I c,I v,I x]=some [.vC Aa ((BH a k v x).1.map Ap),B (BH a k v x).2]:=
 Z8p D (λG=>Qm0 D G) (Qz6 D) (Z3i D) v x
theorem Q34 {a k c:Int} (D:Plan3 a k c):∀(n:Nat) (v x:Int),Di a k v x->(Cj a k n v x).1.length<=n/\∀w∈(Cj a k n v x).1,0<=w/\w<=16777216
 |0,v,x,_=>by grind [Cj]
 |n+1,v,x,h=>by
  have G:=closed D h;have I:=LG D G.1;have L:=Q34 D n _ _ G.1;unfold Cj
  grind
def Zro {a k c:Int} (D:Plan3 a k c) (v x:Int):(BH a k v x).1.length<=4096/\∀w∈(BH a k v x).1,0<=w/\w<=16777216:=by grind [BH,Q34]
def Ybh {α:Type} (l:List α) (x y:α) (r:List α):(l++x::r).set l.length y=l++y::r:=by
 rw[List.set_append_right _ _ (dm _)];simp
def Jk (j:Int) (l:Rw):Prop:=∀r∈l,-j<=gA r 0/\gA r 0<=j
def Jk.snoc (h:Jk a l) (G: -a<=gA o 0/\gA o 0<=a):Jk a (l++[o]):=λx D=>by
 rcases bt.1 D with D|D
 ·exact h x D
 grind
def Zzx (G:0<=a/\a<=65536):Out (λo=>o.1=1/\(wA o.2 0).length<=65536/\Jk a (wA o.2 0)) (Ak SA [.vC Aa [],I a]):=by
 refine Ch (λs:Rw×Int=>[.vC Aa s.1,I s.2]) (λs=>0<=s.2/\s.2<=a/\s.1.length+s.2<=65536/\Jk a s.1) (λs=>s.2.toNat) _ ?_ ([],a) ⟨G.1,fa _,by grind,λr h=>by cases h⟩;rintro⟨v,k⟩ ⟨g1,g0,g2,D⟩;dsimp only at g0 g1 g2 D;rw[Zsd,dg g1,Ad];refine .cond (λc=> ?_) (λc=> ?_)
 ·have c:=Ba c;refine .cond (λ_=> ?_) λc=>by grind [Dd]
  exact .some (.inl ⟨rfl,(v++[[I k]],k/2),rfl,⟨by omega,by omega,by grind,D.snoc (by show-a<=k/\k<=a;omega)⟩,by omega⟩)
 exact .some (.inr ⟨by simp,rfl,by show v.length<=65536;omega,D⟩)
def Znr {up out:Rw} (U:0<=a/\a<=65536) (V:up.length<=65536) (G:Jk a up) (X:out.length=up.length+1) (L:Jk a out):Out (λo=>o.1=1/\(wA o.2 0).length<=140000/\Jk a (wA o.2 0)) (Ak (TT N) [.vC Aa up, .vC Aa out,I ((up.length:Int)-1)]):=by
 refine Ch (λs:Rw×Int=>[.vC Aa up, .vC Aa s.1,I s.2]) (λs=> -1<=s.2/\s.2<up.length/\s.1.length+s.2<=2*up.length/\Jk a s.1) (λs=>(s.2+1).toNat) _ ?_ (out,(up.length:Int)-1) ⟨by omega,by omega,by grind,L⟩;rintro⟨v,k⟩ ⟨g1,g2,M,D⟩;dsimp only at g1 g2 M D;rw[Z69,Ad (x:=k-1)];refine .cond (λc=> ?_) (λc=> ?_)
 ·have c:=Ba c;refine .cond (λ_=> ?_) λc=>by grind
  refine .cond (λ_=> ?_) λc=>by grind [Dd]
  have Y: -a<=gA (nth [] up k.toNat) 0/\gA (nth [] up k.toNat) 0<=a:=by
   rw[Fu [] up k.toNat (by omega)];exact G _ (dl _)
  exact .some (.inl ⟨rfl,(_,k-1),rfl,⟨by omega,by omega,by grind,D.snoc (by show-a<=O (0-gA (nth [] up k.toNat) 0)/\O (0-gA (nth [] up k.toNat) 0)<=a;grind [Ad])⟩,by omega⟩)
 have c:=B0 c;exact .some (.inr ⟨by simp,rfl,by show v.length<=140000;omega,D⟩)
def Zrv (D:0<=a/\a<=65536):Out (λo=>(wA o 0).length<=140000/\Jk a (wA o 0)) (Tv [I a]):=by
 show Out _ (Z2 (Ak SA) (Ak (TT (Ak SA))) [I a]);rw[Zyu];refine .bind (Zzx D) λo g=> ?_;rw[g.1];obtain⟨-,g2,G⟩:=g;generalize wA o.2 0=up at*;refine .cond (λ_=> ?_) λc=>by simp at c
 refine .cond (λ_=> ?_) λc=>by grind [Dd]
 refine .cond (λ_=> ?_) λc=>by grind [Dd]
 rw[Ad];refine .bind (Znr D g2 G (by simp) (by rw[cq];exact G.snoc (by show-a<=0/\0<=a;omega))) λo g=> ?_;rw[g.1];exact .some g.2
def Qbp (m0 m1 m3 m4:Int) (Q R:Int->Prop) (o:List AC):Prop:=∃v:Int,o=Fc m0 m1 m3 m4 v/\(Q v\/∃r:Int,v=O (m1+r)/\R r)
def Zus {x:Ax3} {a b c o0 o1:Int} {D b1 b2:Bool} (hb:0<=b/\b<=65536) {m0 m1 m2 m3 m4 m5 l:Int} {Q R F:Int->Prop}
  (hB:Out (λo=>∃r:Int,o=[I r]/\R r) (M [I a,I b,I c,I m1,I m2]))
  (hS:∀v:Int,0<=v->F v->(∃k:Int,-b<=k/\k<=b/\v=O (m1+O (m2+k)))->Out (λo=>bA o 0=true->Q v) (Z (pxt p x t [I a,I b,I c,I (O (m0+v)),I v,I (O (v-m1)),I m0,I m3,I m4,I l])))
  (hF:∀v:Int,Out (λo=>bA o 0=true->F v) (V (Fh p t [I a,I b,I c,I o0,I o1,B D,B b1,B b2,I (O (m0+v)),I v,I (O (v-m1)),I m0,I m3,I m4])))
  (N:∀m0 m1 m2 m3 m4 m5 v,P [I m0,I m1,I m2,I m3,I m4,I m5,I v]=some (Fc m0 m1 m3 m4 v))
  (hR:∀a b c v x,(H [I a,I b,I c,I v,I x]).isSome=true)
  (hC:∀j,0<=j/\j<=65536->Out (λo=>(wA o 0).length<=140000/\Jk j (wA o 0)) (G [I j])):
  Out (Qbp m0 m1 m3 m4 Q R) (Qg2 M Z V P H G (Ak (Qhp M Z V P H G)) (pxt p x t [I a,I b,I c,I o0,I o1,B D,B b1,B b2,I m0,I m1,I m2,I m3,I m4,I m5,I l])):=by
 rw[Z90];refine .bind (hC b hb) λq U=> ?_;obtain⟨U,hJ⟩:=U;generalize wA q 0=ch at*;refine .bind (p:=λo=>o.1=1/\((∃v:Int,∃g0 g1 g2 X Y g5:Int,o.2=B true::I a::I b::I c::I m0::I m1::I m2::I m3::I m4::I m5::I g0::I g1::I g2::I X::I Y::I g5::Fc m0 m1 m3 m4 v/\Q v)\/∃l:List AC,o.2=B false::I a::I b::I c::I m0::I m1::I m2::I m3::I m4::I m5::l)) ?_ λo g=>by
  obtain⟨g,g2⟩:=g;rw[g];rcases g2 with⟨v,g0,g1,g2,X,Y,g5,e,L⟩|⟨l',e⟩
  ·rw[e];refine .cond (λ_=> .some ⟨v,rfl, .inl L⟩) λc=>by simp_all [bA,nth,EJ]
  rw[e];simp only[gA,wA,bA,jA,nth,Af];refine .bind hB λo g=> ?_;obtain⟨r,rfl,hr⟩:=g;simp only[gA,wA,bA,jA,nth,Af];rw[N];exact .some ⟨_,rfl, .inr ⟨r,rfl,hr⟩⟩
 refine Ch (λs:Nat×(Int×Int×Int×Int×Int×Int)=>I l::B false:: .vC Aa ch::I (ch.length:Int)::I (s.1:Int)::pxt p x t [I a,I b,I c,I o0,I o1,B D,B b1,B b2,I m0,I m1,I m2,I m3,I m4,I m5,I 0,I 0,I 0,I 0,I 0,I 0,I s.2.1,I s.2.2.1,I s.2.2.2.1,I s.2.2.2.2.1,I s.2.2.2.2.2.1,I s.2.2.2.2.2.2])
  (λs=>s.1<=ch.length) (λs=>ch.length-s.1) _ ?_ (0,(0,0,0,0,0,0)) (by simp)
 rintro⟨i,f0,f1,f2,f3,f4,f5⟩ g;dsimp only at g;rw[Z0s];rw[Ad (x:=(i:Int)+1)];refine .cond (λc=> ?_) (λc=> ?_)
 ·have c:=Ba c;refine .cond (λ_=> ?_) λc=>by simp_all
  refine .cond (λ_=> ?_) λpos=> ?_
  ·exact .some (.inl ⟨rfl,(i+1,f0,f1,f2,f3,f4,f5),rfl,by omega,by omega⟩)
  have pos:=B0 pos;refine .ibind (hR _ _ _ _ _) λ_ _=> .cond (λ_=> ?_) λ_=> ?_
  ·exact .some (.inl ⟨rfl,(i+1,f0,f1,f2,f3,f4,f5),rfl,by omega,by omega⟩)
  have hk:∃k:Int,-b<=k/\k<=b/\O (m1+O (m2+gA (nth [] ch (i:Int).toNat) 0))=O (m1+O (m2+k)):=by
   have:=hJ _ (dl (show i<ch.length by omega));rw[ag,Fu [] ch i (by omega)];exact⟨_,this.1,this.2,rfl⟩
  generalize O (m1+O (m2+gA (nth [] ch (i:Int).toNat) 0))=v at*;rw[N];simp only[aq,gA,wA,bA,jA,nth,Af];refine .bind (hF v) λof fit=> .cond (λcf=> ?_) λ_=> ?_
  ·refine .bind (hS v (by omega) (fit cf) hk) λo L=> .cond (λc=> ?_) λ_=> ?_
   ·exact .some (.inr ⟨by simp,rfl, .inl ⟨v,0,0,0,0,0,0,rfl,L c⟩⟩)
   exact .some (.inl ⟨rfl,(i+1,_,_,_,_,_,_),rfl,by omega,by omega⟩)
  exact .some (.inl ⟨rfl,(i+1,_,_,_,_,_,_),rfl,by omega,by omega⟩)
 exact .some (.inr ⟨by simp,rfl, .inr ⟨_,rfl⟩⟩)
def Yc1 {x:Ax3} {Q:Prop} (hS:∀{way:Rw},way.length<=100000->(M (pxt p x t [.vC Aa way])).isSome=true)
  {a b c m0 m1 m2 m3 m4 m5 l:Int} (G:Out (λo=>(wA o 0).length<=4096/\(bA o 1=true->Q)) (Z [I a,I b,I c,I m0,I m1,I m2,I m3,I m4,I m5])):
  Out (λo=>bA o 0=true->Q) (Qav M Z (pxt p x t [I a,I b,I c,I m0,I m1,I m2,I m3,I m4,I m5,I l])):=by
 rw[Zpl];refine .bind G λo h=> ?_;obtain⟨L,D⟩:=h;generalize wA o 0=sp at*;refine .cond (λ_=> .some λh=>by simp_all [bA,nth,EJ]) λN=> ?_;have D:=D (by grind);refine .cond (λc=> ?_) λc=> ?_
 ·have c:=Ba c;rw[Ad];refine .cond (λ_=> ?_) λc=>by grind
  refine .cond (λ_=> .some λ_=>D) λ_=> ?_;refine .cond (λ_=> ?_) λc=>by grind [Dd]
  refine .cond (λ_=> ?_) λc=>by grind [Dd]
  exact .ibind (hS (by grind)) λ_ _=> .some λ_=>D
 refine .cond (λ_=> .some λ_=>D) λ_=> ?_;refine .cond (λ_=> ?_) λc=>by simp_all
 refine .cond (λ_=> ?_) λc=>by simp_all
 exact .ibind (hS (by grind)) λ_ _=> .some λ_=>D
def Z0i {a k c:Int} (D:Plan3 a k c) (u v x G L N:Int):Out (λo=>(wA o 0).length<=4096/\(bA o 1=true->(BH a k v x).2=true)) (Is [I a,I k,I c,I u,I v,I x,I G,I L,I N]):=by
 have key:∀{M:Fn},M [I a,I k,I c,I v,I x]=some [.vC Aa ((BH a k v x).1.map Ap),B (BH a k v x).2]->Out (λo=>(wA o 0).length<=4096/\(bA o 1=true->(BH a k v x).2=true)) (Xz M (Ak (R3 M)) [I a,I k,I c,I u,I v,I x,I G,I L,I N]):=by
  intro M O;have hb:=Zro D v x;rw[Q19];refine .bind ⟨_,O,rfl⟩ λo e=> ?_;subst e;refine .cond (λ_=> .some ⟨by simp[wA,nth,BI],λh=>by simp[bA,nth,EJ]at h⟩) λh=> ?_;have U:(BH a k v x).2=true:=by simpa [bA,nth,EJ]using h
  have V:(wA [AC.vC Aa ((BH a k v x).1.map Ap),B (BH a k v x).2] 0).length<=4096:=by
   show((BH a k v x).1.map Ap).length<=4096;rw[aj];exact hb.1
  refine .cond (λ_=> ?_) λc=>by grind
  refine .cond (λ_=> ?_) λc=>by grind
  refine .bind (Q8t (by simp) V) λo g=> ?_;rw[g.1];exact .some ⟨by show(wA o.2 0).length<=4096;omega,λ_=>U⟩
 exact key (Ydx D v x)
def Qmy {x:Ax3} (h:Fix p x t) {a b c:Int} (D:Plan3 a b c) (m0 m1 m2 m3 m4 m5 l:Int):Out (λo=>bA o 0=true->(BH a b m1 m2).2=true) (NC (pxt p x t [I a,I b,I c,I m0,I m1,I m2,I m3,I m4,I m5,I l])):=
 Yc1 (Zul h) (Z0i D _ _ _ _ _ _)
def LV {a k v x:Int}:(BH a k v x).2=true↔Di a k v x/\(Cj a k 4096 v x).2=true:=by
 unfold BH
 grind
def Z1n {a k c v x:Int} (D:Plan3 a k c) (h:(BH a k v x).2=true):(BH a k (v+A3 a k v x) (A3 a k v x)).2=true/\
  (BH a k v x).1=if v<=0 then []else(v+A3 a k v x)::(BH a k (v+A3 a k v x) (A3 a k v x)).1:=by
 obtain⟨G,L⟩:=LV.1 h;have M:=closed D G;have N:=LG D M.1;by_cases O:v<=0
 ·have U:v=0:=by have:=LG D G;omega
  have hb:A3 a k v x=0:=by
   obtain⟨B,hB⟩:∃B,B=bs k v 20 (-x-k) (min (k-x) a):=⟨_,rfl⟩;obtain⟨V,X,Y,q4,I,q6⟩:=Qxm D G hB;have hx:=G.2.2.2.2 U;have ha:=D.a;have e:A3 a k v x= -B:=by unfold A3;rw[hB]
   rcases I with I|I
   ·omega
   grind [Lt]
  simp_all [Cj,BH]
 have e:Cj a k 4096 v x=((v+A3 a k v x)::(Cj a k 4095 (v+A3 a k v x) (A3 a k v x)).1,(Cj a k 4095 (v+A3 a k v x) (A3 a k v x)).2):=by
  show(if v<=0 then _ else _)=_;rw[ab O]
 rw[e]at L;have hm:=Zjz a k 4095 _ _ L;have hn:=LV.2 ⟨M.1,by grind⟩;have e2:(BH a k v x).1=(Cj a k 4096 v x).1:=by unfold BH;rw[ac (LV.1 h)]
 have e3:(BH a k (v+A3 a k v x) (A3 a k v x)).1=(Cj a k 4096 (v+A3 a k v x) (A3 a k v x)).1:=by unfold BH;rw[ac (LV.1 hn)]
 grind
structure KOK (K : Kf) : Prop where
 f:Fix K.p K.x K.t
 plan:Plan3 K.pa K.pb K.pc
 aF:∀g∈K.p.aF,0<=g.aU/\g.aU<K.aA.length/\i64 g.aX
 aD:∀m∈K.p.aD,0<=m.aU/\m.aU<K.aA.length/\i64 m.at_
 count:K.p.aD.length<=1000000
 aS:∀it∈K.aA,it.aP=8->i64 it.aS
 len:i64 K.len
 set:i64 K.set
def Rk (K:Kf) (c:Cv):C6 (Ac K c)=some [I (O (c.m0.tdiv 256))]:=by
 show Qe8 (Ac K c)=_;rw[Z18]
abbrev AI (c:Cv):Int:=O (c.m0.tdiv 256)
def Yet {c:Cv} {s:Int} (D:Z (Ac K c)=some [I (AI c)]) (G:M (Bh K.t++[I (AI c)])=some [I s]):ZZ M Z (Ac K c)=some [I s]:=by simp_all [Z8i,jA,FH,HV]
abbrev Bk (K:Kf) (c:Cv):Int:=AD K.t (AI c)
def QI (h:KOK K) (c:Cv):De (Ac K c)=some [I (Bk K c)]:=Yet (Rk K c) (Tq h.f.t.q (AI c))
def Z06 (K:Kf) (c:Cv):SN (Ac K c)=some (I 3::Ac K {c with next:=O (c.idx+1),on:=false,idx:=0,aN:=false,cnt:=0}):=by
 show Qdo (Ac K c)=_;rw[Z15]
def Zvt (K:Kf) (c:Cv):IP (Ac K c)=some (Ac K (if c.g0=0 then{c with o2:=true,g0:=1,g1:=18,g2:= -1}else c)):=by
 show Qjg (Ac K c)=_;rw[Zvl];cases h:(c.g0==0)
 ·simp_all
 simp_all
def nxL (K:Kf) (c:Cv) (l:Int):List AC:=pxt K.p K.x K.t [I K.pa,I K.pb,I K.pc,I c.o0,I c.o1,B c.o2,B c.o3,B c.o4,I c.m0,I c.m1,I c.m2,I c.m3,I c.m4,I c.m5,I l]
def nxV (K:Kf) (c:Cv) (l:Int):Int:=gA ((H3 (nxL K c l)).getD []) 1
def Mo (K:Kf) (c:Cv):Prop:=(BH K.pa K.pb c.m1 c.m2).2=true
def Mo.ready {c:Cv} (h:Mo K c):Di K.pa K.pb c.m1 c.m2:=(LV.1 h).1
theorem Ztn {c:Cv} (G:Plan3 K.pa K.pb K.pc) (I:Mo K c) {v:Int} (D:v=O (c.m1+A3 K.pa K.pb c.m1 c.m2)):v=c.m1+A3 K.pa K.pb c.m1 c.m2/\O (v-c.m1)=A3 K.pa K.pb c.m1 c.m2/\(BH K.pa K.pb v (O (v-c.m1))).2=true:=by
 have L:=LG G (closed G I.ready).1;rw[Ad]at D;have e:O (v-c.m1)=A3 K.pa K.pb c.m1 c.m2:=by rw[D,Ad];omega
 refine⟨D,e,?_⟩;rw[e,D];exact(Z1n G I).1
def Q9t {c:Cv} (D:Plan3 K.pa K.pb K.pc) (G:Mo K c):Out (λo=>∃r:Int,o=[I r]/\r=A3 K.pa K.pb c.m1 c.m2) (Hp [I K.pa,I K.pb,I K.pc,I c.m1,I c.m2]):=
 ⟨_,Qm0 D G.ready,_,rfl,rfl⟩
def Z3k {x:Ax3} (h:Fix p x t) (a b c o0 o1:Int) (D b1 b2:Bool) (m0 m1 m2 m3 m4 m5:Int):Out (λo=>bA o 0=true->True) (QB (Fh p t [I a,I b,I c,I o0,I o1,B D,B b1,B b2,I m0,I m1,I m2,I m3,I m4,I m5])):=
 (Out.of (Z2v h a b c o0 o1 D b1 b2 m0 m1 m2 m3 m4 m5)).mono λ_ _ _=>trivial
def Q9b (h:KOK K) {c:Cv} (D:Mo K c) (l:Int) (G:Bool):Out (Qbp c.m0 c.m1 c.m3 c.m4 (λv=>(BH K.pa K.pb v (O (v-c.m1))).2=true) λr=>r=A3 K.pa K.pb c.m1 c.m2)
  (H3 (pxt K.p K.x K.t [I K.pa,I K.pb,I K.pc,I c.o0,I c.o1,B G,B c.o3,B c.o4,I c.m0,I c.m1,I c.m2,I c.m3,I c.m4,I c.m5,I l])):=
 Zus (by grind [h.plan.b]) (Q9t h.plan D) (λv _ _ _=>Qmy h.f h.plan _ _ _ _ _ _ _) (λv=>Z3k h.f ..) Q7h Zi0 (λ_ L=>Zrv L)
def Ud (m0 m1 m3 m4:Int) (Q R:Int->Prop) (o:List AC):Prop:=∃v s b z g e:Int,o=Fc m0 m1 m3 m4 v++[I s,I b,I z,I g,I e]/\(Q v\/∃r:Int,v=O (m1+r)/\R r)
def Zob {x:Ax3} {a b c:Int} {b0 b1 b2:Bool} {m0 m1 m2 m3 m4 m5 l aX g0 g1 g2 N U X:Int} {Q R:Int->Prop}
  (hN:Out (Qbp m0 m1 m3 m4 Q R) (M (pxt p x t [I a,I b,I c,I u,I k,B false,B b1,B b2,I m0,I m1,I m2,I m3,I m4,I m5,I l])))
  (hB:Out (λo=>∃r:Int,o=[I r]/\R r) (Z [I a,I b,I c,I m1,I m2]))
  (Y:∀a b c x3 x4 x5 x6 x7 x8,(V [I a,I b,I c,I x3,I x4,I x5,I x6,I x7,I x8]).isSome=true)
  (hS:∀v:Int,Out (λo=>bA o 0=true->Q v) (P (pxt p x t [I a,I b,I c,I (O (m0+v)),I v,I (O (v-m1)),I m0,I m3,I m4,I l])))
  (L:∀m0 m1 m2 m3 m4 m5 v,H [I m0,I m1,I m2,I m3,I m4,I m5,I v]=some (Fc m0 m1 m3 m4 v))
  (hF:∀v,i64 v->(G [I aX,I v]).isSome=true) (hD:∀a b,∃v,F [I a,I b]=some [I v]/\i64 v):
  Out (Ud m0 m1 m3 m4 Q R) (Qg3 M Z V P H G F (pxt p x t [I a,I b,I c,I u,I k,B b0,B b1,B b2,I m0,I m1,I m2,I m3,I m4,I m5,I l,I aX,I g0,I g1,I g2,I N,I U,I X])):=by
 rw[Z7z];obtain⟨v1,e1,w1⟩:=hD X g2;obtain⟨v2,e2,w2⟩:=hD U g2;rw[e1,e2];simp;have next:∀s D z g e:Int,Out (Ud m0 m1 m3 m4 Q R) ((M (pxt p x t [I a,I b,I c,I u,I k,B false,B b1,B b2,I m0,I m1,I m2,I m3,I m4,I m5,I l])).bind λo=>some [I (gA o 0),I (gA o 1),I (gA o 2),I (gA o 3),I (gA o 4),I (gA o 5),I s,I D,I z,I g,I e]):=λs D z g e=>by
  refine .bind hN λo h=> ?_;obtain⟨v,rfl,h⟩:=h;exact .some ⟨v,s,D,z,g,e,rfl,h⟩
 refine .ibind (hF _ w1) λf1 _=> .cond (λ_=> ?_) λ_=> .cond (λ_=> ?_) λ_=>next _ _ _ _ _
 ·refine .ibind (hF _ w2) λf2 _=> ?_;rw[L];generalize O (Af (nth AC.vD f1 0)-Af (nth AC.vD f2 0))=v;refine .cond (λ_=> ?_) λ_=>next _ _ _ _ _
  refine .bind (hS v) λo h=> .cond (λc=> ?_) λ_=>next _ _ _ _ _
  exact .some ⟨v,_,_,_,_,_,rfl, .inl (h c)⟩
 rw[L];generalize O (O (O (g1+Af (nth AC.vD f1 0))-N)-m0)=v;have stop:∀s D z g e:Int,Out (Ud m0 m1 m3 m4 Q R) ((Z [I a,I b,I c,I m1,I m2]).bind λo=>(H [I m0,I m1,I m2,I m3,I m4,I m5,I (O (m1+gA o 0))]).bind λq=>some [I (gA q 0),I (gA q 1),I (gA q 2),I (gA q 3),I (gA q 4),I (gA q 5),I s,I D,I z,I g,I e]):=λs D z g e=>by
  refine .bind hB λo h=> ?_;obtain⟨r,rfl,hr⟩:=h;rw[L];exact .some ⟨_,s,D,z,g,e,rfl, .inr ⟨r,rfl,hr⟩⟩
 refine .cond (λ_=> ?_) λ_=> ?_
 ·refine .bind (hS v) λo h=> .cond (λc=> ?_) λ_=> ?_
  ·exact .some ⟨v,_,_,_,_,_,rfl, .inl (h c)⟩
  refine .ibind (Y _ _ _ _ _ _ _ _ _) λ_ _=> .cond (λ_=> .cond (λ_=>stop _ _ _ _ _) λ_=>stop _ _ _ _ _) λ_=>stop _ _ _ _ _
 refine .ibind (Y _ _ _ _ _ _ _ _ _) λ_ _=> .cond (λ_=> .cond (λ_=>stop _ _ _ _ _) λ_=>stop _ _ _ _ _) λ_=>stop _ _ _ _ _
def Z30 (h:KOK K) {c:Cv} (D:Mo K c) (l:Int) {aX:Int} (G:i64 aX):Out (Ud c.m0 c.m1 c.m3 c.m4 (λv=>(BH K.pa K.pb v (O (v-c.m1))).2=true) λr=>r=A3 K.pa K.pb c.m1 c.m2)
  (Mh (pxt K.p K.x K.t [I K.pa,I K.pb,I K.pc,I c.o0,I c.o1,B c.o2,B c.o3,B c.o4,I c.m0,I c.m1,I c.m2,I c.m3,I c.m4,I c.m5,I l,I aX,I c.e0,I c.e1,I c.e2,I c.e3,I c.before,I c.s3])):=
 Zob (Q9b h D l false) (Q9t h.plan D) Zrk (λv=>Qmy h.f h.plan _ _ _ _ _ _ _) Q7h (λ_ L=>Yco G L) Z6d
def Qqe (h:KOK K) {c:Cv} (D:Mo K c) {v:Int} (G:(BH K.pa K.pb v (O (v-c.m1))).2=true\/∃r:Int,v=O (c.m1+r)/\r=A3 K.pa K.pb c.m1 c.m2):(BH K.pa K.pb v (O (v-c.m1))).2=true:=by grind [Ztn,h.plan]
def Xp {a k c:Int} (D:Plan3 a k c):(BH a k 0 0).2=true:=by
 refine LV.2 ⟨?_,by rfl⟩;have G:=D.a;have hb:=D.b
 refine⟨by omega,by omega,?_,?_,λ_=>by omega⟩
 ·grind [Lt]
 grind [Lt]
theorem Qy0 (K:Kf) {i:Nat} (h:i<K.aA.length):nth [] (K.aA.map Ag) i=Ag K.aA[i]:=by grind [Ca]
theorem Z9t (K:Kf) {i:Nat} (h:i<K.p.aD.length):nth [] (K.p.aD.map Aq) i=Aq K.p.aD[i]:=by grind [Ca]
def Zyy (h:KOK K) (i:Nat) (D:gA (nth [] (K.aA.map Ag) i) 0=8):i64 (gA (nth [] (K.aA.map Ag) i) 20):=by
 by_cases c:i<K.aA.length
 ·rw[Qy0 K c]at D⊢;exact h.aS _ (dl c) D
 have e:nth [] (K.aA.map Ag) i=[]:=by
  rw[Ca,List.getD,List.getElem?_eq_none (by grind)];rfl
 rw[e];show i64 0
 grind [i64]
structure Gd (K : Kf) (n : Int) (c : Cv) : Prop where
 way:c.way=0
 pass:0<=c.aK/\c.aK<=K.p.aD.length
 task:c.on=true->0<=c.idx/\c.idx<K.p.aD.length
 mo:Mo K c
 m0: -(16777216*n)<=c.m0/\c.m0<=16777216*n
theorem Gd.up {n:Int} {c:Cv} (h:Gd K n c) (hn:0<=n):Gd K (n+1) c:=
 ⟨h.way,h.pass,h.task,h.mo,by grind [h.m0]⟩
theorem Gd.bD (h:KOK K) {n:Int} {c:Cv} (g:Gd K n c) (hn:0<=n/\n<=10000) {v:Int} (G:(BH K.pa K.pb v (O (v-c.m1))).2=true\/∃r:Int,v=O (c.m1+r)/\r=A3 K.pa K.pb c.m1 c.m2):
  Gd K (n+1) {c with m0:=O (c.m0+v),m1:=v,m2:=O (v-c.m1),m3:=c.m0,m4:=c.m3,m5:=c.m4}:=by
 have I:=g.m0;have D:=Qqe h g.mo G;have L:=LG h.plan (LV.1 D).1;refine⟨g.way,g.pass,g.task,D,?_⟩
 grind [Ad]
theorem Gd.same {n:Int} {c c':Cv} (g:Gd K n c) (D:c'.way=c.way) (G:c'.aK=c.aK) (L:c'.on=c.on) (M:c'.idx=c.idx) (I:c'.m0=c.m0) (N:c'.m1=c.m1) (O:c'.m2=c.m2):Gd K n c':=
 ⟨D▸g.way,G▸g.pass,by simp_all [g.task],by grind [g.mo,Mo],I▸g.m0⟩
theorem Z0m {c:Cv} (h:c.way=0):Jy (Ac K c)=some (I 0::B false::Ac K c):=by
 have key:∀{A B':Fn},Us A B' (Ac K c)=some (I 0::B false::Ac K c):=by
  intro A B';rw[Qxo,GE (by simp[h])]
 exact key
abbrev stand (c:Cv):Cv:={c with m0:=O (AI c*256),m1:=0,m2:=0,m3:=O (AI c*256),m4:=O (AI c*256),m5:=O (AI c*256)}
def Qbu (u:Int):Kc [I u]=some [I (O (u*256)),I 0,I 0,I (O (u*256)),I (O (u*256)),I (O (u*256))]:=by
 show Qbl [I u]=_;rw[Ya6]
def Zs2 {c:Cv} (D:Z (Ac K c)=some [I (AI c)]) (hS:∀u:Int,M [I u]=some [I (O (u*256)),I 0,I 0,I (O (u*256)),I (O (u*256)),I (O (u*256))]):
  Qfz M Z (Ac K c)=some (if c.g0=2 then I 6::B true::Ac K (stand c)else I 0::B false::Ac K c):=by
 rw[Zza];by_cases h:c.g0=2
 ·rw[ac h,CE (by simp[h]),D];simp;rw[hS];rfl
 grind
def Z0u (K:Kf) (c:Cv):KP (Ac K c)=some (if c.g0=2 then I 6::B true::Ac K (stand c)else I 0::B false::Ac K c):=Zs2 (Rk K c) Qbu
def Zr4 (K:Kf) (c:Cv):Mz (Ac K c)=some (I c.aI::B (c.aI !=0)::Ac K c):=by
 show X6 (Ac K c)=_;rw[Zo1]
def Zyc (K:Kf) (c:Cv):Nl (Ac K c)=some (if c.aH=true/\c.aM=true then I 8::B true::Ac K {c with aI:=8}else I 0::B false::Ac K c):=by
 show Qfj (Ac K c)=_;rw[Zuq]
 grind
def Qp5 (h: -u<=a/\a<=u): -u<=a.tdiv 256*256/\a.tdiv 256*256<=u:=by grind
def Gd.stand (h:KOK K) {n:Int} {c:Cv} (g:Gd K n c) (hn:0<=n/\n<=10000):Gd K n (stand c)/\AI (stand c)=AI c:=by
 have D:=Qp5 g.m0;have e:AI c=c.m0.tdiv 256:=Ad;have e2:(Go.Bm.stand c).m0=c.m0.tdiv 256*256:=by
  show O (AI c*256)=_;rw[e,Ad]
 refine⟨⟨g.way,g.pass,g.task,Xp h.plan,?_⟩,?_⟩
 ·omega
 grind
def Out.eqv {α:Type} {p:α->Prop} {a b:Option α} (h:a=b) (g:Out p b):Out p a:=h▸g
abbrev Ru (D outs:Rw) (mode s:Int) (m:Pt) (sp fault:Int):List AC:=[.vC kPt D, .vC Aa outs,I mode,I s,I m.x,I m.y,I m.z,I sp,I fault]
abbrev FB:List AC:=[.vC kPt [], .vC Aa [],I 0,I 0,I 0,I 0,I 0,I 0,I 0]
def Zs7 {n:Int} {c:Cv} (g:Gd K n c) (hn:0<=n/\n<=10010): -300000000000<=AI c/\AI c<=300000000000:=by
 have h:=g.m0;have D: -300000000000<=c.m0/\c.m0<=300000000000:=by omega
 have G:=Qp5 D;have e:AI c=c.m0.tdiv 256:=Ad;omega
end Go.Bm
namespace Go.Bm
open Classical
def Gy (a:Axs) (p:Int):Int:=
 if p<=a.aV then 2*(a.aO*A4 a 0)
 else if(p-a.aV)/a.aO>=a.aW.length-1 then 2*(a.aO*A4 a (a.aW.length-1))
 else 2*(a.aO*A4 a ((p-a.aV)/a.aO).toNat+(A4 a (((p-a.aV)/a.aO).toNat+1)-A4 a ((p-a.aV)/a.aO).toNat)*(p-a.aV-(p-a.aV)/a.aO*a.aO))
def VM {a:Axs} (h:AxOK a) (c:a.aW≠[]) (p:Int): -a.aO<=2*(a.aO*Bs a p)-Gy a p/\2*(a.aO*Bs a p)-Gy a p<=a.aO:=by
 have I:=h.aO c;unfold Bs Gy;rw[ab c];by_cases D:p<=a.aV
 ·grind
 rw[ab D,ab D];by_cases G:(p-a.aV)/a.aO>=a.aW.length-1
 ·grind
 rw[ab G,ab G];generalize(p-a.aV-(p-a.aV)/a.aO*a.aO)=r;generalize((p-a.aV)/a.aO).toNat=k;have:=LY (s:=(A4 a (k+1)-A4 a k)*r) (n:=a.aO) (by omega)
 grind
theorem Qcv {a:Axs} (h:AxOK a) (c:a.aW≠[]) {p r:Int} {k:Nat} (G:0<=r/\r<=a.aO) (D:p-a.aV=a.aO*k+r):
  Gy a p=if k+1>=a.aW.length then 2*(a.aO*A4 a (a.aW.length-1))else 2*(a.aO*A4 a k+(A4 a (k+1)-A4 a k)*r):=by
 have O:=h.aO c;unfold Gy;by_cases I:p<=a.aV
 ·have L:k=0:=by
   rcases fe k with e|e
   ·exact e
   have:=af (show(1:Int)<=k by omega) (show 0<=a.aO by omega);omega
  grind
 rw[ab I];by_cases M:r<a.aO
 ·have e:(p-a.aV)/a.aO=k:=by rw[D,Int.mul_add_ediv_left _ _ (by omega),jg G.1 M,ie]
  grind
 have N:r=a.aO:=by omega
 have e:(p-a.aV)/a.aO=(k+1:Nat):=by rw[D,N,Int.mul_add_ediv_left _ _ (by omega),Int.ediv_self (by omega)];rfl
 grind
def Qrn {a:Axs} (D:0<a.aO) (G:a.aV<=u):∃(k:Nat) (r:Int),0<=r/\r<a.aO/\u-a.aV=a.aO*k+r:=by
 have e0:=Int.mul_ediv_add_emod (u-a.aV) a.aO;have e3:0<=(u-a.aV)/a.aO:=jv (by omega) (by omega);exact⟨((u-a.aV)/a.aO).toNat,(u-a.aV)%a.aO,ju _ (by omega),jf _ D,by grind⟩
def Zd4 {a:Axs} (h:AxOK a) (c:a.aW≠[]) (p:Int): -a.aO<=2*(Gy a (p+1)-Gy a p)/\2*(Gy a (p+1)-Gy a p)<=a.aO:=by
 have L:=h.aO c;by_cases G:a.aV<=p
 ·obtain⟨k,r,M,N,I⟩:=Qrn (by omega) G;rw[Qcv h c (by omega) I,Qcv h c (k:=k) (r:=r+1) (by omega) (by omega)];split
  ·omega
  have D:=h.aW.2 k (by omega);have D: -a.aO<=4*(A4 a (k+1)-A4 a k)/\4*(A4 a (k+1)-A4 a k)<=a.aO:=D
  grind
 unfold Gy;omega
def Z83 {a:Axs} (h:AxOK a) (c:a.aW≠[]) (p:Int): -(8192*a.aO)<=Gy a p/\Gy a p<=8192*a.aO:=by
 have N:=h.aO c;have G:=Vi c;have one:∀(i:Nat) (x:Int),i<a.aW.length->0<=x-> -(4096*x)<=x*A4 a i/\x*A4 a i<=4096*x:=λi x I D=>by
  have b:=Pg h I;have:=af b.1 D;have:=af b.2 D;omega
 by_cases L:a.aV<=p
 ·obtain⟨k,r,O,U,M⟩:=Qrn (by omega) L;rw[Qcv h c (by omega) M];split
  ·have:=one (a.aW.length-1) a.aO (by omega) (by omega);omega
  have V:=one k (a.aO-r) (by omega) (by omega)
  grind
 unfold Gy;have:=one 0 a.aO G (by omega);omega
def Vp {a:Axs} (h:AxOK a) (p:Int): -4096<=Bs a p/\Bs a p<=4096:=by
 by_cases c:a.aW=[]
 ·simp_all [Bs]
 have D:=h.aO c;have G:=VM h c p;have I:=Z83 h c p;constructor
 ·have:a.aO* -4097<a.aO*Bs a p:=by omega
  have:=gv this (by omega);omega
 have:a.aO*Bs a p<a.aO*4097:=by omega
 have:=gv this (by omega);omega
def Zdq {a:Axs} (h:AxOK a) (p:Int):Bs a p-Bs a (p+2)<=1/\Bs a p-Bs a (p+1)<=1:=by
 by_cases c:a.aW=[]
 ·simp_all [Bs]
 have D:=h.aO c;have G:=VM h c p;have I:=VM h c (p+1);have L:=VM h c (p+2);have s0:=Zd4 h c p;have s1:=Zd4 h c (p+1);have key:=λq M=>by
  have:a.aO*(Bs a p-Bs a q)<a.aO*2:=by rw[Int.mul_sub];omega
  have:=gv this (by omega);omega
 grind
def ES (a:Axs) (p:Int):Int:=p+Bs a p
def Qmg {a:Axs} (h:AxOK a) {p q:Int} (D:p<=q):ES a p<=ES a q:=by
 have:∀n:Nat,ES a p<=ES a (p+n):=by
  intro n;induction n with
  |zero=>simp
  |succ n G=>
   have:=(Zdq h (p+n)).2
   grind [ES]
 have:=this (q-p).toNat
 grind
def Qbj {a:Axs} (h:AxOK a) (p:Int):∀n:Nat,ES a p+n<=ES a (p+2*n)
 |0=>by simp
 |n+1=>by
  have D:=Qbj h p n;have:=(Zdq h (p+2*n)).1
  grind [ES]
def YP {a:Axs} (h:AxOK a) {q:Int} (hq:q.natAbs<=300000000):∃v,TN (BK a++[I (A1 a q)])=some [I v]/\v-q<=a.step/\q-v<=a.step:=by
 have hs:=h.step;have bq:=Vp h q;obtain⟨L,M⟩:=PI (a:=q+Bs a q) (b:=a.step) (by omega);have L:A1 a q*(2*a.step)<=2*ES a q+a.step:=L;have M:2*ES a q+a.step<(A1 a q+1)*(2*a.step):=M;have U:A1 a q*(2*a.step)=2*(A1 a q*a.step):=by grind
 rw[iv,U]at M;rw[U]at L;have bf:ES a q=q+Bs a q:=rfl;generalize Y:A1 a q*a.step=g at*;have key:Out (λo=>∃v,o=(1,[I v])/\ES a (v-1)<g/\g<=ES a v) (Ak (Vt G1) [I g,I (g-4097),I (g+4096),I a.step,I a.aS,I a.bF,I a.bG,I a.low,I a.aY,I a.bB,I a.aV,I a.aO, .vC Aa (a.aW.map Ap)]):=by
  refine Ch (λs:Int×Int=>[I g,I s.1,I s.2,I a.step,I a.aS,I a.bF,I a.bG,I a.low,I a.aY,I a.bB,I a.aV,I a.aO, .vC Aa (a.aW.map Ap)])
   (λs=>g-4097<=s.1/\s.1<s.2/\s.2<=g+4096/\ES a s.1<g/\g<=ES a s.2) (λs=>(s.2-s.1).toNat) _ ?_ (g-4097,g+4096) ⟨fa _,by omega,fa _,?_,?_⟩
  ·rintro⟨l,u⟩ ⟨D,V,N,X,O⟩;dsimp only at D V N X O;rw[Yd5,Ad (x:=u-l),dg (by omega),Ad (x:=(u-l)/2),Ad (x:=l+(u-l)/2)];refine .cond (λc=> ?_) λc=> .some (.inr ⟨by simp,u,rfl,?_,O⟩)
   ·have c:=Ba c;have hc:=Qzl h (p:=l+(u-l)/2) ⟨by omega,by omega⟩;have hb:=Vp h (l+(u-l)/2);refine .bind (p:=λo=>o=[I (Bs a (l+(u-l)/2))]) ⟨_,hc,rfl⟩ λo e=> ?_;subst e;refine Out.eqv (b:=bif decide (ES a (l+(u-l)/2)>=g)then _ else _) (ij (λx=>bif decide (x>=g)then _ else _) (Ad (x:=l+(u-l)/2+Bs a (l+(u-l)/2)))) ?_;refine .cond (λG=> ?_) λG=> ?_
    ·exact .some (.inl ⟨rfl,(l,l+(u-l)/2),rfl,⟨D,by omega,by omega,X,Ba G⟩,by omega⟩)
    have G:=B0 G;exact .some (.inl ⟨rfl,(l+(u-l)/2,u),rfl,⟨by omega,by omega,N,by grind,O⟩,by omega⟩)
   grind
  ·have:=Vp h (g-4097)
   grind [ES]
  have:=Vp h (g+4096)
  grind [ES]
 obtain⟨o,D,v,rfl,V,N⟩:=key;refine⟨v,?_,?_,?_⟩
 ·have he:=Zyb G1 (Ak (Vt G1)) a.step a.aS a.bF a.bG a.low a.aY a.bB a.aV a.aO (a.aW.map Ap) (A1 a q);refine de he ?_;rw[Y,Ad (x:=g),Ad (x:=g-4096),Ad (x:=g-4096-1),Ad (x:=g+4096),show g-4096-1=g-4097 by omega];exact eB D rfl
 ·by_cases c:v-q<=a.step
  ·exact c
  have m:=Qmg h (show q+2*((a.step/2).toNat:Int)<=v-1 by omega);have:=Qbj h q (a.step/2).toNat;omega
 by_cases c:q-v<=a.step
 ·exact c
 have m:=Qmg h (show v<=q-2*(((a.step+1)/2).toNat:Int) by omega);have:=Qbj h (q-2*(((a.step+1)/2).toNat:Int)) ((a.step+1)/2).toNat
 grind
def Z0d (D:GoodPath p) (s:Int):(-1<=(atP p (s+1)).x-(atP p s).x/\(atP p (s+1)).x-(atP p s).x<=1)/\(-1<=(atP p (s+1)).y-(atP p s).y/\(atP p (s+1)).y-(atP p s).y<=1)/\(-1<=(atP p (s+1)).z-(atP p s).z/\(atP p (s+1)).z-(atP p s).z<=1):=Zv0 D s
def Zv7 {x:Ax3} (X:GoodPath p) (G:Ax3M x) (Y:b=1\/b= -1) (hc:TC x b Q t e d) (ht:TQ t) (hd:okD t.aT) (hk:∀k∈t.aE,okD k.aT) (M:0<=u/\u<t.length):
  LC (BB p x t u) (BB p x t (u+1)):=by
 obtain⟨h1,N,-,-⟩:=hc;have D:t.aE≠[]:=by
  intro c;rw[c]at N;simp only[B2]at N;omega
 have I:∀v,0<=v->v<=t.length->clT t v=v:=by intro v g1 g2;unfold clT Be;omega
 have O:∀(a:Axs) (f:Pt->Int) (g:Int->Int) (v:Int),0<=v->v<=t.length->A1 a (g (AD t v))+shT a t v f=DT a g f t.aE v:=by
  intro a f g v g1 g2;have U:=Io ht v D;have V:iT t v=fI t.aE v:=by unfold iT;rw[I v g1 g2]
  unfold AD shT;rw[ab D,ab D,V,I v g1 g2];rw[V]at U;exact(Vh U).symm
 have key:∀(a:Axs) (f:Pt->Int) (g:Int->Int),F7 x a f->AxOK a->(∀s,-1<=g (s+1)-g s/\g (s+1)-g s<=1)-> -1<=(A1 a (g (AD t (u+1)))+shT a t (u+1) f)-(A1 a (g (AD t u))+shT a t u f)/\(A1 a (g (AD t (u+1)))+shT a t (u+1) f)-(A1 a (g (AD t u))+shT a t u f)<=1:=by
  intro a f g hA ha L;rw[O a f g u M.1 (by omega),O a f g (u+1) (by omega) (by omega)];exact Qzu hA ha L Y h1 hd hk u M.1 (by omega)
 have L:=Z0d X;exact⟨key x.a Pt.x (λs=>(atP p s).x) (S7 G.ok) G.a λs=>(L s).1,key x.b Pt.y (λs=>(atP p s).y) (Xj G.ok) G.b λs=>(L s).2.1,key x.c Pt.z (λs=>(atP p s).z) (UF G.ok) G.c λs=>(L s).2.2⟩
def Zgo {x:Ax3} (I:GoodPath p) (D:Ax3M x) (G:TH t) (u:Int):(BB p x t u).x.natAbs<=3000000000/\(BB p x t u).y.natAbs<=3000000000/\(BB p x t u).z.natAbs<=3000000000:=by
 obtain⟨o1,o2,o3⟩:=Qjl I (AD t u);have b1:=O3 D.a o1;have b2:=O3 D.b o2;have b3:=O3 D.c o3;have s1:=Qo D.ok.a G u Pt.x;have s2:=Qo D.ok.b G u Pt.y;have s3:=Qo D.ok.c G u Pt.z
 grind [BB,Bv]
def Z28 {a:Axs} (h:AxOK a) (p:Int):A1 a p<=A1 a (p+1):=by
 have D:=Zf0 h p;have G:=h.step;exact H1 (by omega) (by omega)
def Qsl {a:Axs} (h:AxOK a) {p q:Int} (I:p<=q):A1 a p<=A1 a q:=by
 have:∀(n:Nat) (p:Int),A1 a p<=A1 a (p+n):=by
  intro n;induction n with
  |zero=>simp
  |succ n D=>intro p;have G:=D p;have L:=Z28 h (p+n);grind
 have G:=this (q-p).toNat p
 grind
def Qsg:∀{l:List Sgm} {a:Pt} {i:Nat} {r:Int},(∀g∈l,1<=g.len)->i<l.length->0<=r->r<=(sgA l i).len->atL a l (Az l i+r)=Gh (E8 a l i) (sgA l i) r
 |g::l,a,0,r,D,_,L,G=>by
  have V:=D g (by simp);have e:sgA (g::l) 0=g:=rfl;rw[e]at G⊢;rw[VO,Int.zero_add,Nz];unfold atL;by_cases c:r<g.len
  ·grind
  have M:r=g.len:=by omega
  rw[ab c,M,Yw (by omega),show g.len-g.len=0 by omega]
  grind [Qiw]
 |g::l,a,i+1,r,D,N,L,G=>by
  have I:i<l.length:=by simpa using N
  rw[Qeu]at G⊢;rw[Ym];have e:Az (g::l) (i+1)=g.len+Az l i:=by unfold Az;rw[List.take_succ_cons];rfl
  have X:0<=Az l i:=by
   have:∀(m:List Sgm),(∀k∈m,1<=k.len)->0<=AJ m:=by
    intro m Y;induction m with
    |nil=>simp[AJ]
    |cons k m O=>grind [AJ]
   exact this _ λk U=>D k (by grind)
  have O:=Qsg (a:=g.to) (λk U=>D k (by grind)) I L G;show(if _ then _ else _)=_
  grind
def U4 (p:Pth) (mv:Int) (s:Int) (d:Pt):Prop:=
 ((d.x=1->(atP p s).x<=(atP p (s+mv)).x)/\(d.x= -1->(atP p (s+mv)).x<=(atP p s).x))/\((d.y=1->(atP p s).y<=(atP p (s+mv)).y)/\(d.y= -1->(atP p (s+mv)).y<=(atP p s).y))/\((d.z=1->(atP p s).z<=(atP p (s+mv)).z)/\(d.z= -1->(atP p (s+mv)).z<=(atP p s).z))
theorem Znt {a b L r k mv n:Int} (G:0<L) (M:mv=1\/mv= -1) (N:k=r+mv):(Lh n a b mv=1->a+AA ((b-a)*r) L<=a+AA ((b-a)*k) L)/\(Lh n a b mv= -1->a+AA ((b-a)*k) L<=a+AA ((b-a)*r) L):=by
 have up:∀x y:Int,x<=y->a<=b->AA ((b-a)*x) L<=AA ((b-a)*y) L:=λx y D I=>H1 G (af D);have dn:∀x y:Int,x<=y->b<=a->AA ((b-a)*y) L<=AA ((b-a)*x) L:=λx y D I=>H1 G (Int.mul_le_mul_of_nonpos_left (by omega) D);unfold Lh;have O:=up r k;have u2:=up k r;have U:=dn r k;have V:=dn k r;omega
def Yby (M:GoodPath p) (Y:u=1\/u= -1):Y0 p u (U4 p u):=by
 intro i I d s N O U V;have D:=M.ok;have L:=WS D i (by omega);have G:=Pp I;have key:∀z,Az p.aF i<=z->z<=Az p.aF (i+1)->atP p z=Gh (E8 p.aQ p.aF i) (sgA p.aF i) (z-Az p.aF i):=by
  intro z z1 z2;unfold atP;rw[jt (by omega)];have:=Qsg (a:=p.aQ) (r:=z-Az p.aF i) (λg X=>(D.seg g X).1) I (by omega) (by omega);rw[show Az p.aF i+(z-Az p.aF i)=z by omega]at this;exact this
 unfold U4;rw[key s N O,key (s+u) U V];unfold Gh DF
 grind [Znt]
theorem Q3l {x:Ax3} {a:Axs} {f:Pt->Int} {g:Int->Int} {at_ s:Int} {c:Pce} {l:List Pce} (N:F7 x a f) (I:AxOK a)
  (O:∀s d,Q s d->(f d=1->g s<=g (s+b))/\(f d= -1->g (s+b)<=g s)) (h:DE x b Q at_ s d (c::l)) (L:b=1\/b= -1) (U:okD c.aT) {u:Int} (hu:at_<=u) (V:u<at_+c.aR):
  min (max (A1 a (g (c.s+c.bD*(u-c.at_)))) (Gn a g f c (u+1))) (Gn a g f c (u+1)+a.bB)=A1 a (g (c.s+c.bD*(u+1-c.at_))):=by
 obtain⟨hb,hf,hs⟩:=N;obtain⟨X,Y,h3,h4,-⟩:=h;have D:=hf c.aT U;unfold Gn;rw[X,Y];rcases h4 with⟨M,k2,k3,k4⟩|⟨M,k2,k3⟩
 ·have hm:c.bD≠0:=by rcases L with rfl|rfl<;>omega
  have G:=O _ _ (k4 (u-at_) (by omega) (by omega));have e:s+b*(u-at_)+b=s+b*(u+1-at_):=by rcases L with rfl|rfl<;>omega
  rw[e]at G;have hP:c.bD≠0\/f c.was=f c.aT:= .inl hm;unfold Ct BT;rw[ac hP,M];rcases D with D|D
  ·have:=Qsl I (G.1 D);omega
  have:=Qsl I (G.2 D);omega
 unfold Ct BT
 grind
def Qga {a:Axs} (hb:0<=a.bB/\a.bB<=1000) {M sh:Int} (D: -a.bB<=sh/\sh<=0):min (max M (M+sh)) (M+sh+a.bB)=M:=by omega
def Z4r {a:Axs} (hb:0<=a.bB/\a.bB<=1000) {bD at_ was aT u:Int} (D:0<=u-at_): -a.bB<=Ct a bD at_ was aT u/\Ct a bD at_ was aT u<=0:=by grind [Ct,BT]
def Q1t {x:Ax3} {a:Axs} {f:Pt->Int} {g:Int->Int} {mv:Int} {Q:Int->Pt->Prop} (U:F7 x a f) (V:AxOK a) (X:∀s d,Q s d->(f d=1->g s<=g (s+mv))/\(f d= -1->g (s+mv)<=g s)) (Y:mv=1\/mv= -1):∀{at_ s:Int} {d:Pt} {l:List Pce},DE x mv Q at_ s d l->(∀k∈l,okD k.aT)->∀u,at_<=u->u<B2 at_ l->
  min (max (A1 a (g (plL l u))) (DT a g f l (u+1))) (DT a g f l (u+1)+a.bB)=A1 a (g (plL l (u+1)))
 |at_,s,d,[],h,_,u,h1,h2=>by grind [B2]
 |at_,s,d,c::l,h,hk,u,a0,I=>by
  have L:=h.1;have D:=h.2.2.2.2;unfold DT plL;by_cases G:u+1<=c.at_+c.aR
  ·rw[ac G,ac G,ac]
   grind [Q3l]
  rw[ab G,ab G];by_cases c2:u<=c.at_+c.aR
  ·rw[ac c2];have e:u=at_+c.aR:=by omega
   cases l with
   |nil=>grind [B2]
   |cons c' l'=>
    have M:=hk c' (by simp);have a1:=Q3l U V X D Y M (fa _) (by have:=D.2.2.1;omega);have N:=D.1;have O:=D.2.1;have a2:=D.2.2.1;have es:c.s+c.bD*(u-c.at_)=c'.s+c'.bD*(at_+c.aR-c'.at_):=by
     rw[N,O,h.2.1,e,L,show at_+c.aR-at_=c.aR by omega,show at_+c.aR-(at_+c.aR)=0 by omega,i9,ie]
    simp_all [DT,plL]
  rw[ab c2];exact Q1t U V X Y D (λk a3=>hk k (by grind)) u (by omega) I
def Ff (a:Axs) (w m:Int):Int:=min (max w m) (m+a.bB)
def Zzu {x:Ax3} (hp:GoodPath p) (G:Ax3M x) (V:b=1\/b= -1) (X:TC x b (U4 p b) t e d) (Y:TQ t) (hk:∀k∈t.aE,okD k.aT) (M:0<=u/\u<t.length):
  Ff x.a (Bv p x (AD t u)).x (BB p x t (u+1)).x=(Bv p x (AD t (u+1))).x/\Ff x.b (Bv p x (AD t u)).y (BB p x t (u+1)).y=(Bv p x (AD t (u+1))).y/\Ff x.c (Bv p x (AD t u)).z (BB p x t (u+1)).z=(Bv p x (AD t (u+1))).z:=by
 obtain⟨h1,N,-,-⟩:=X;have D:t.aE≠[]:=by
  intro c;rw[c]at N;simp only[B2]at N;omega
 have I:∀v,0<=v->v<=t.length->clT t v=v:=by intro v g1 g2;unfold clT Be;omega
 have L:∀v,0<=v->v<=t.length->AD t v=plL t.aE v:=λv g1 g2=>by grind [Qhf]
 have hm:∀(a:Axs) (f:Pt->Int) (g:Int->Int) (v:Int),0<=v->v<=t.length->A1 a (g (AD t v))+shT a t v f=DT a g f t.aE v:=by
  intro a f g v g1 g2;have O:=Io Y v D;have U:iT t v=fI t.aE v:=by unfold iT;rw[I v g1 g2]
  unfold AD shT;rw[ab D,ab D,U,I v g1 g2];rw[U]at O;exact(Vh O).symm
 have key:∀(a:Axs) (f:Pt->Int) (g:Int->Int),F7 x a f->AxOK a->(∀s d,U4 p b s d->(f d=1->g s<=g (s+b))/\(f d= -1->g (s+b)<=g s))->Ff a (A1 a (g (AD t u))) (A1 a (g (AD t (u+1)))+shT a t (u+1) f)=A1 a (g (AD t (u+1))):=by
  intro a f g hA ha hg;rw[hm a f g (u+1) (by omega) (by omega),L u M.1 (by omega),L (u+1) (by omega) (by omega)];exact Q1t hA ha hg V h1 hk u M.1 (by omega)
 exact⟨key x.a Pt.x (λs=>(atP p s).x) (S7 G.ok) G.a λs d h=>h.1,key x.b Pt.y (λs=>(atP p s).y) (Xj G.ok) G.b λs d h=>h.2.1,key x.c Pt.z (λs=>(atP p s).z) (UF G.ok) G.c λs d h=>h.2.2⟩
def Qgk {a:Axs} (hb:0<=a.bB/\a.bB<=1000) {t:Trk} (h:TH t) (u:Int) (f:Pt->Int): -a.bB<=shT a t u f/\shT a t u f<=0:=by
 unfold shT;by_cases c:t.aE=[]
 ·rw[ac c];grind [BT]
 rw[ab c];exact Z4r hb (by simp_all [YR,h.q,h.at1,h.at0])
def Ybe {x:Ax3} (D:Ax3M x) (G:TH t) (u:Int):
  Ff x.a (Bv p x (AD t u)).x (BB p x t u).x=(Bv p x (AD t u)).x/\Ff x.b (Bv p x (AD t u)).y (BB p x t u).y=(Bv p x (AD t u)).y/\Ff x.c (Bv p x (AD t u)).z (BB p x t u).z=(Bv p x (AD t u)).z:=
 ⟨Qga D.ok.a (Qgk D.ok.a G u Pt.x),Qga D.ok.b (Qgk D.ok.b G u Pt.y),Qga D.ok.c (Qgk D.ok.c G u Pt.z)⟩
end Go.Bm
namespace Go.Bm
def Zsa (V:∀{hi lo y:Nat},hi<y->y<w64->lo<w64->M [U hi,U lo,U y]=some [U (((hi*w64+lo)/y:Nat):Int),U (((hi*w64+lo)%y:Nat):Int)])
  {hi lo y:Nat} (G:hi<w64) (I:lo<w64) (D:0<y) (X:y<w64):
  ∃L N:Nat,Qby M [U hi,U lo,U y]=some [U L,U N,B (decide (0<(hi*w64+lo)%y))]/\L<w64/\N<w64/\L*w64+N=(hi*w64+lo)/y:=by
 have Y:=V (hi:=0) (lo:=hi) D X G;rw[Nat.zero_mul,fw,show((0:Nat):Int)=0 from rfl]at Y;have hm:=gx hi D;have h2:=V (hi:=hi%y) (lo:=lo) hm X I;have e:=f9 hi y;have e2:hi*w64+lo=hi%y*w64+lo+hi/y*w64*y:=by
  have:hi*w64=hi/y*w64*y+hi%y*w64:=by
   rw[<-e,Nat.mul_add_mod,Nat.mod_mod];rw[show(y*(hi/y)+hi%y)/y=hi/y from by rw[e]];rw[jh,fm y,jb,fm y,jb]
  omega
 have hq:(hi*w64+lo)/y=(hi%y*w64+lo)/y+hi/y*w64:=by rw[e2,Nat.add_mul_div_right _ _ D]
 have hr:(hi*w64+lo)%y=(hi%y*w64+lo)%y:=by rw[e2,Nat.add_mul_mod_self_right]
 have O:(hi%y*w64+lo)/y<w64:=by
  rw[dz D];have:hi%y*w64+w64<=y*w64:=by rw[<-Nat.succ_mul];exact db _ hm
  rw[fm w64];omega
 refine⟨hi/y,(hi%y*w64+lo)/y,?_,Nat.lt_of_le_of_lt (gy _ _) G,O,by omega⟩;rw[Zvf];simp only[go_sem,Y,h2,hr]
 grind
def Z0q {A n t:Nat} (hn:0<n) (D:t*t<=2*A*(2*A)/n) (G:2*A*(2*A)/n<(t+1)*(t+1)) (down:Bool) {E:Prop} [Decidable E] (I:E↔(2*A*(2*A)%n=0/\t*t=2*A*(2*A)/n)):
  Fj A n down (if t%2=1/\(¬E\/down=false)then t/2+1 else t/2):=by
 have M:2*A*(2*A)=4*(A*A):=by grind
 have N:t*t*n<=2*A*(2*A):=(Nat.le_div_iff_mul_le hn).1 D;have O:2*A*(2*A)<(t+1)*(t+1)*n:=(dz hn).1 G;have L:(2*A*(2*A)%n=0/\t*t=2*A*(2*A)/n)↔t*t*n=2*A*(2*A):=by
  have hd:=f9 (2*A*(2*A)) n;constructor
  ·grind
  grind [Nat.mul_div_cancel]
 have U:=I.trans L;rw[M]at N O U;clear I L D G;generalize V:4*(A*A)=Q at*;unfold Fj;rw[V];rcases Nat.mod_two_eq_zero_or_one t with X|X
 ·rw[ab];obtain⟨m,rfl⟩:∃m,t=2*m:=⟨t/2,by omega⟩;rw[show 2*m/2=m by omega];have h5:(2*m+1)*(2*m+1)*n<=(2*m+1)*(2*m+1)*n:=dm _;refine⟨?_,?_⟩
  ·rcases fe m with Y|Y
   ·omega
   right;have h6:(2*m-1)*(2*m-1)*n<2*m*(2*m)*n:=il (j7 (by omega)) hn
   grind
  grind
 obtain⟨m,rfl⟩:∃m,t=2*m+1:=⟨t/2,by omega⟩;rw[show(2*m+1)/2=m by omega];have h6:(2*m+1+1)*(2*m+1+1)*n<=(2*(m+1)+1)*(2*(m+1)+1)*n:=SQ (by omega);have h7:(2*m-1)*(2*m-1)*n<(2*m+1)*(2*m+1)*n:=il (j7 (by omega)) hn
 grind
def Zrf {x d:Int}:sgn x d<0↔x*d<0:=by grind [V4]
def Z9f {x d:Int} {n X D O l1 Y N t L l2:Nat} (hX:X<=2147483648) (hD:D<=2147483648) (hn:0<n/\n<=4611686018427387904)
  (z1:z [I x]=some [U X]) (z2:z [I d]=some [U D]) (hk:F [I 2]=some [B true]) (a0:G [U ((2*(X*D):Nat):Int),U ((2*(X*D):Nat):Int)]=some [U O,U l1])
  (a2:H [U O,U l1,U n]=some [U Y,U N,B (decide (0<2*(X*D)*(2*(X*D))%n))]) (a3:Y*w64+N=2*(X*D)*(2*(X*D))/n) (b1:N<w64) (a4:P [U Y,U N]=some [U t]) (b2:t<w64)
  (a5:G [U t,U t]=some [U L,U l2]) (a6:L*w64+l2=t*t) (b3:l2<w64) (hs:V [I x,I d]=some [I (sgn x d)])
  (hg:∀(more:Int) (some_ neg:Bool),Z [I 2,I more,B some_,B neg]=some [B (if more>0 then true else if more=0 then !neg else false)])
  (g1:∀{n:Nat},n<9223372036854775808->M [U n,B false]=some [I n,B true]) (g2:∀{n:Nat},n<=9223372036854775808->M [U n,B true]=some [I (-(n:Int)),B true]) {J:Nat}
  (b4:t%2=1->(¬(2*(X*D)*(2*(X*D))%n=0/\t*t=2*(X*D)*(2*(X*D))/n)\/ ¬sgn x d<0)->J=t/2+1) (a7: ¬(t%2=1/\(¬(2*(X*D)*(2*(X*D))%n=0/\t*t=2*(X*D)*(2*(X*D))/n)\/ ¬sgn x d<0))->J=t/2) (b5:t<=9223372036854775808):
  YU M Z V P H G F z [I x,I d,I n,I 2]=some [I (if sgn x d<0 then-(J:Int)else J),B true]:=by
 have b6:X*D<=2147483648*2147483648:=d9 hX hD;have w1:wrap .u64 (2*wrap .u64 ((X:Int)*(D:Int)))=((2*(X*D):Nat):Int):=by
  rw[<-iu,wr (by omega),show(2:Int)*((X*D:Nat):Int)=((2*(X*D):Nat):Int) by omega,wr (by omega)]
 have w2:wrap .u64 (n:Int)=n:=wr (by omega);have w3:((t:Int)).tdiv 2=((t/2:Nat):Int):=ZW t 2;have w4:wrap .u64 ((t/2:Nat):Int)=((t/2:Nat):Int):=wr (by omega);have w5:wrap .u64 (((t/2:Nat):Int)+1)=((t/2+1:Nat):Int):=by rw[show((t/2:Nat):Int)+1=((t/2+1:Nat):Int) by omega,wr (by omega)]
 have w6:((t:Int).tmod 2=1)=(t%2=1):=by
  rw[iw (by omega)];exact propext ⟨by omega,by omega⟩
 have a8:∀(neg:Bool) (k:Nat),k<9223372036854775808->M [U k,B neg]=some [I (if neg=true then-(k:Int)else k),B true]:=by
  intro neg k hk;cases neg
  ·grind
  grind
 have key:∀(neg:Bool) (k:Nat),decide (sgn x d<0)=neg->J=k->k<9223372036854775808->M [U k,B neg]=some [I (if sgn x d<0 then-(J:Int)else J),B true]:=by
  intro neg k O L h3;rw[a8 neg k h3,L];congr 3;by_cases c:sgn x d<0
  ·grind
  grind
 have a9:(L=Y/\l2=N)↔t*t=2*(X*D)*(2*(X*D))/n:=by
  rw[<-a6,<-a3];constructor
  ·grind
  intro h;have a1:∀p q u v:Nat,u<w64->v<w64->p*w64+u=q*w64+v->p=q/\u=v:=by
   intro p q u v hu hv h;rcases Nat.lt_trichotomy p q with c|c|c
   ·grind [w64]
   ·grind
   grind [w64]
  grind
 rw[Zqn];simp only[go_sem,z1,z2,hk,w1,w2,a0,a2,a4,hs,a5,w3,w4,w5,hg];rw[ab,ab,ab,ab,ab (by simp)];have b0:t/2+1<9223372036854775808:=by omega
 have hT:∀k:Nat,J=k->k<9223372036854775808->((M [U (k:Int),B (decide (sgn x d<0))]).bind λo=>some [I (Af (nth .vD o 0)),B (EJ (nth .vD o 1))])=some [I (if sgn x d<0 then-(J:Int)else J),B true]:=by
  intro k O L;rw[key _ k rfl O L];rfl
 have e3:((L:Int)=Y/\(l2:Int)=N/\True)=(t*t=2*(X*D)*(2*(X*D))/n):=by
  rw[<-propext a9];exact propext ⟨λh=>⟨by omega,by omega⟩,λh=>⟨by omega,by omega,trivial⟩⟩
 simp only[e3,w6];have n1:((1:Int)>0)=True:=by simp
 have n2:((-1:Int)>0)=False:=by simp
 have n3:((-1:Int)=0)=False:=by simp
 have n4:((0:Int)>0)=False:=by simp
 by_cases cR:2*(X*D)*(2*(X*D))%n=0
 ·rw[ab (show¬0<2*(X*D)*(2*(X*D))%n by omega)];by_cases ct:t%2=1
  ·by_cases cE:t*t=2*(X*D)*(2*(X*D))/n
   ·by_cases cn:sgn x d<0
    ·grind
    grind
   grind
  have:=a7 (λh=>ct h.1);simp only[n1,n2,n3,n4,j6,ct,j8,ite_self]
  grind
 rw[ac (show 0<2*(X*D)*(2*(X*D))%n by omega)];by_cases ct:t%2=1
 ·grind
 grind
def Z4d {x d:Int} {n:Nat} (hn:0<n) (hd:0<=d) (G:Fj (x.natAbs*d.natAbs) n (decide (x*d<0)) J):(if x*d<0 then-(J:Int)else J)=AM x d n:=by
 unfold AM;rw[j0];by_cases L:x<0
 ·rw[ac L];by_cases M:d=0
  ·subst M;rw[i9,ab];rw[show x.natAbs*(0:Int).natAbs=0 from by simp]at G⊢;have e1:Fj 0 n true 0:=⟨.inl rfl,by simp⟩;rw[Q_ e1];obtain⟨I,-⟩:=G;rw[ba (by simp)]at I;simp only[j6,j8]at I;rcases I with I|I
   ·omega
   rcases fe J with N|N
   ·omega
   have O:=Nat.mul_pos (Nat.mul_pos (show 0<2*J-1 by omega) (show 0<2*J-1 by omega)) hn;omega
  have D:x*d<0:=Int.mul_neg_of_neg_of_pos L (by omega);rw[av D]at G;rw[ac D,Q_ G]
 rw[ab L];have D: ¬x*d<0:=by have:=al (show 0<=x by omega) hd;omega
 rw[ba D]at G;rw[ab D,Q_ G]
theorem Qr3 {x d n:Int} (hx:x.natAbs<=2147483648) (hd:0<=d/\d<=2147483648) (hn:0<n/\n<=4611686018427387904):Ly [I x,I d,I n,I 2]=some [I (AM x d n),B true]:=by
 obtain⟨N,rfl⟩:=bh (show 0<=n by omega);have hD:d.natAbs<=2147483648:=by omega
 have a1:x.natAbs*d.natAbs<=2147483648*2147483648:=d9 hx hD;have L:0<N/\N<=4611686018427387904:=by omega
 have O:2*(x.natAbs*d.natAbs)<w64:=by rw[CK];omega
 obtain⟨U,l1,e1,e2,e3⟩:=QD O O;have V:N<w64:=by rw[CK];omega
 have Y:U<w64:=by
  have:=Nat.mul_lt_mul'' O O;rw[<-e2]at this;by_cases c:U<w64
  ·exact c
  grind [w64]
 obtain⟨qh,ql,q1,q2,q3,q4⟩:=Zsa (M:=JK) Zjq Y e3 L.1 V;rw[e2]at q1 q4;obtain⟨t,r1,r2,r3,r4⟩:=Zne q2 q3;rw[q4]at r2 r3;obtain⟨h2,l2,p1,p2,p3⟩:=QD r4 r4;have ht:t<=9223372036854775808:=by
  have k1:t*t<=2*(x.natAbs*d.natAbs)*(2*(x.natAbs*d.natAbs)):=co r2 (gy _ _);have k2:=jq.1 k1;omega
 have hi:=Z0q L.1 r2 r3 (decide (x*d<0)) (E:=2*(x.natAbs*d.natAbs)*(2*(x.natAbs*d.natAbs))%N=0/\t*t=2*(x.natAbs*d.natAbs)*(2*(x.natAbs*d.natAbs))/N) Iff.rfl;have G:=Z4d L.1 hd.1 hi;rw[<-G];have:= @Zrf x d;have a0:∀a:Int,(if x*d<0 then-a else a)=if sgn x d<0 then-a else a:=by
  intro a;by_cases c:x*d<0
  ·omega
  omega
 rw[a0];refine Z9f (X:=x.natAbs) (D:=d.natAbs) hx hD L (Ob (by grind [i64])) (Ob (by grind [i64])) (Qfk (.inr (.inr rfl))) e1 q1 q4 q3 r1 r4 p1 p2 p3 (Zs x d) Zj3 Qdt Qr1 (λU h2=> ?_) (λh=> ?_) ht
 ·grind
 grind
end Go.Bm
