/- laid together -/
import Derived.Test.YtnnpdlgenmnekaaGreatDoorPrTf
import Derived.Test.YtnnpdlgenmnekaaGreatDoorPrV
import Derived.Lib.ItoaNum
import Derived.Test.YtnnpdlgenmnekaaGreatDoorMx3
set_option linter.unusedVariables false
set_option linter.unusedSimpArgs false
set_option maxRecDepth 100000
open Go.IntKind (wrap)
variable {i A j R J P:Nat} {K:Go.Bm.Kf} {M Z W V T S H G:Go.Bm.Fn} {p:Go.Bm.Pth} {a b:Go.Bm.Pt} {t:Go.Bm.Trk} {u d v k:Int} {l:Go.Bm.Rw} {Q:Int->Go.Bm.Pt->Prop} {N:Go.Bm.Lp} {z:List Go.Bm.Itm}
namespace Go.Bm
open Classical
def H5 (D:Int) (l:List Int):Prop:=(∀v∈l,-4096<=v/\v<=4096)/\∀i,i+1<l.length-> -D<=4*(l.getD (i+1) 0-l.getD i 0)/\4*(l.getD (i+1) 0-l.getD i 0)<=D
structure AxOK (a : Axs) : Prop where
 step:4<=a.step/\a.step<=64
 bB:0<=a.bB/\a.bB<=6
 aV: -200<=a.aV/\a.aV<=200
 aO:a.aW≠[]->4<=a.aO/\a.aO<=123
 aW:H5 a.aO a.aW
 count:a.aW.length<=4
 lim:1<=a.aS/\a.aS<=1000/\2<=a.bD/\a.bD<=1000/\4<=a.bE/\a.bE<=1000/\a.low= -16777216/\a.aY=16777216
theorem SX {l m:List Int} (h:i<l.length):(l++m).getD i 0=l.getD i 0:=by simp[fe,j6 h]
theorem Zv2 (l m:List Int) (v:Int):(l++v::m).getD l.length 0=v:=by simp[fe]
theorem Z66 {G v w:Int} {l:List Int} (h:H5 G (l++[v])) (I: -4096<=w/\w<=4096) (L: -G<=4*(w-v)/\4*(w-v)<=G):H5 G (l++[v]++[w]):=by
 refine⟨?_,?_⟩
 ·intro x D;rcases bt.1 D with D|D
  ·exact h.1 x D
  ·rw[ff]at D;subst D;exact I
 ·intro i M;simp only[ap,ba,bv]at M;by_cases c:i+1<(l++[v]).length
  ·have:=h.2 i c;have c':i<(l++[v]).length:=by omega
   rw[SX c,SX c'];exact this
  ·simp only[ap,ba,bv]at c;have e:i=l.length:=by omega
   subst e;have g1:(l++[v]++[w]).getD (l.length+1) 0=w:=by
    simp
   have g2:(l++[v]++[w]).getD l.length 0=v:=by
    rw[fd];exact Zv2 l ([]++[w]) v
   rw[g1,g2];exact L
theorem Z8z {l:List Int} (h:H5 u (l++[v])):H5 u l:=by
 refine⟨λx D=>h.1 x (by simp[D]),λi G=> ?_⟩;have:=h.2 i (by simp;omega);rw[SX G,SX (by omega)]at this;exact this
theorem Zyx (G: -4096<=v/\v<=4096):H5 u ([]++[v]):=⟨λx D=>by simp at D;subst D;exact G,λi I=>by simp at I⟩
theorem Yct (h:0<=v/\v<6):∃x,Ah (nth .vD (nth [] [[I 8],[I 4],[I 5],[I 16],[I 23],[I 64]] v.toNat) 0)=x/\4<=x/\x<=64:=by
 have D:v=0\/v=1\/v=2\/v=3\/v=4\/v=5:=by omega
 rcases D with rfl|rfl|rfl|rfl|rfl|rfl<;>exact⟨_,rfl,by decide⟩
theorem Qq8 (h:0<=v/\v<5):∃x y z,Ah (nth .vD (nth [] [[I 40],[I 1],[I 3],[I 9],[I 1000]] v.toNat) 0)=x/\Ah (nth .vD (nth [] [[I 20],[I 2],[I 3],[I 5],[I 1000]] v.toNat) 0)=y/\Ah (nth .vD (nth [] [[I 30],[I 4],[I 5],[I 8],[I 1000]] v.toNat) 0)=z/\1<=x/\x<=1000/\2<=y/\y<=1000/\4<=z/\z<=1000:=by
 have D:v=0\/v=1\/v=2\/v=3\/v=4:=by omega
 rcases D with rfl|rfl|rfl|rfl|rfl<;>exact⟨_,_,_,rfl,rfl,rfl,by decide⟩
theorem Z35 (h:0<=v/\v<4):∃x,Ah (nth .vD (nth [] [[I 0],[I 1],[I 3],[I 6]] v.toNat) 0)=x/\0<=x/\x<=6:=by
 have D:v=0\/v=1\/v=2\/v=3:=by omega
 rcases D with rfl|rfl|rfl|rfl<;>exact⟨_,rfl,by decide⟩
abbrev axS (l:Rw) (D:List Int) (n v:Int) (j:Nat) (a:Axs) (k:Nat):List AC:=
 [.vC Aa [], .vC Aa (D.map At),I n,I v,I j,I 0,I 0,I 0,I 0,I 0,I 0,I 0,I 0,I 0,I a.step,I a.aS,I a.bD,I a.bE,I a.low,I a.aY,I a.bB,I a.aV,I a.aO, .vC Aa l,I k]
theorem Zjq {MN:Fn} {l:Rw} (N:Jh l MN) {a:Axs} (L:4<=a.aO/\a.aO<=123):∀(r j:Nat) (D:List Int) (v:Int) (k:Nat),j+r<=4->D.length=j->H5 a.aO (D++[v])->
  ∃(G:List Int) (k':Nat),Al (SJ MN) (axS l D (j+r:Nat) v j a k)=some (1,[.vC Aa [], .vC Aa (G.map At),I 0,I 0,I 0,I 0,I 0,I 0,I 0,I 0,I 0,I a.step,I a.aS,I a.bD,I a.bE,I a.low,I a.aY,I a.bB,I a.aV,I a.aO, .vC Aa l,I k'])/\G.length=j+r/\H5 a.aO G
 |0,j,D,v,k,_,S,h=>by
  refine⟨D,k,AJ (o:=(1,_)) ?_ (by simp),by omega,Z8z h⟩;rw[Zc3,AQ (by omega)]
 |r+1,j,D,v,k,hj,S,h=>by
  have hv:=h.1 v (by simp);have U:O (a.aO.tdiv 4)=a.aO/4:=by rw[cz (by omega),Ad]
  have V:O (O (2*(a.aO/4))+1)=2*(a.aO/4)+1:=by rw[Ad (x:=2*(a.aO/4)),Ad]
  obtain⟨w,T,X,w0,w1,-⟩:=N k (n:=2*(a.aO/4)+1) (by omega);have Y:O (O (v+w)-a.aO/4)=v+w-a.aO/4:=by rw[Ad (x:=v+w),Ad]
  have hle:(D.map At++[[I v]]).length*8<=140737488355328:=by rw[ap,ac];simp only[ba,bv];omega
  have M:SJ MN (axS l D (j+(r+1):Nat) v j a k)=some (0,axS l (D++[v]) (j+1+r:Nat) (min (max (v+w-a.aO/4) (-4096)) 4096) (j+1) a T):=by
   rw[Zc3];simp only[go_sem,aa hle,U,V,X,Y,Kl,Ow];rw[aa,Ad (x:=(j:Int)+1),show j+(r+1)=j+1+r by omega];simp only[axS,bn,be,db,At,ic,ip]
  rw[AS M];obtain⟨p',k',h1,h2,h3⟩:=Zjq N L r (j+1) (D++[v]) (min (max (v+w-a.aO/4) (-4096)) 4096) T (by omega) (by simp[S]) (Z66 h (by omega) (by omega));exact⟨p',k',h1,by omega,h3⟩
theorem Zsw (G:Jh l M)
  (hL:∀{a:Axs} {n:Nat} {v:Int} {k:Nat},(4<=a.aO/\a.aO<=123)->n<=4->H5 a.aO ([]++[v])->∃(D:List Int) (k':Nat),N (axS l [] n v 0 a k)=some (1,[.vC Aa [], .vC Aa (D.map At),I 0,I 0,I 0,I 0,I 0,I 0,I 0,I 0,I 0,I a.step,I a.aS,I a.bD,I a.bE,I a.low,I a.aY,I a.bB,I a.aV,I a.aO, .vC Aa l,I k'])/\D.length=n/\H5 a.aO D) (k:Nat):
  ∃(a:Axs) (k':Nat),Wo M N [.vC Aa l,I k]=some (Bk a++[.vC Aa l,I k'])/\AxOK a:=by
 obtain⟨v1,k1,h1,a1,b1,-⟩:=G k (n:=6) (by omega);obtain⟨v2,k2,h2,a2,b2,-⟩:=G k1 (n:=4) (by omega);obtain⟨v3,k3,h3,a3,b3,-⟩:=G k2 (n:=5) (by omega);obtain⟨v4,k4,h4,a4,b4,-⟩:=G k3 (n:=5) (by omega);obtain⟨v5,k5,h5,a5,b5,-⟩:=G k4 (n:=5) (by omega);obtain⟨L,k6,h6,a6,b6,-⟩:=G k5 (n:=5) (by omega);obtain⟨Y,k7,h7,a7,b7,-⟩:=G k6 (n:=400) (by omega);obtain⟨v8,k8,h8,a8,b8,-⟩:=G k7 (n:=120) (by omega);obtain⟨v9,k9,h9,a9,b9,-⟩:=G k8 (n:=9) (by omega);obtain⟨O,e1,s1⟩:=Yct ⟨a1,b1⟩;obtain⟨S,e2,s2⟩:=Z35 ⟨a2,b2⟩;have i1:(0:Int)<=v1/\v1<(([[I 8],[I 4],[I 5],[I 16],[I 23],[I 64]]:Rw).length:Int):=⟨a1,by simp;omega⟩;have i2:(0:Int)<=v2/\v2<(([[I 0],[I 1],[I 3],[I 6]]:Rw).length:Int):=⟨a2,by simp;omega⟩;have i3:(0:Int)<=v3/\v3<(([[I 40],[I 1],[I 3],[I 9],[I 1000]]:Rw).length:Int):=⟨a3,by simp;omega⟩;have i4:(0:Int)<=v4/\v4<(([[I 20],[I 2],[I 3],[I 5],[I 1000]]:Rw).length:Int):=⟨a4,by simp;omega⟩;have i5:(0:Int)<=v5/\v5<(([[I 30],[I 4],[I 5],[I 8],[I 1000]]:Rw).length:Int):=⟨a5,by simp;omega⟩;obtain⟨T,_,_,a0,-,-,s3,t3,-⟩:=Qq8 ⟨a3,b3⟩;obtain⟨_,U,_,-,b0,-,-,-,s4,t4,-⟩:=Qq8 ⟨a4,b4⟩;obtain⟨_,_,V,-,-,c0,-,-,-,-,s5,t5⟩:=Qq8 ⟨a5,b5⟩;have main : ∀ R, R = (if L = 0 then some [I O, I T, I U, I V, I (-16777216), I 16777216, I S, I 0, I 0, .vC Aa [], .vC Aa l, I k6] else
   (N (axS l [] L.toNat (v9-4) 0 ⟨O,T,U,V,-16777216,16777216,S,Y-200,4+v8,[]⟩ k9)).bind λo=>if o.1=1 then some [I (Ah (nth .vD o.2 11)),I (Ah (nth .vD o.2 12)),I (Ah (nth .vD o.2 13)),I (Ah (nth .vD o.2 14)),I (Ah (nth .vD o.2 15)),I (Ah (nth .vD o.2 16)),I (Ah (nth .vD o.2 17)),I (Ah (nth .vD o.2 18)),I (Ah (nth .vD o.2 19)), .vC Aa (AW (nth .vD o.2 1)), .vC Aa (AW (nth .vD o.2 20)),I (Ah (nth .vD o.2 21))]else none)->
   ∃(a:Axs) (k':Nat),R=some (Bk a++[.vC Aa l,I k'])/\AxOK a:=by
  intro R X;by_cases c:L=0
  ·rw[aa c]at X;refine⟨⟨O,T,U,V,-16777216,16777216,S,0,0,[]⟩,k6,X,?_⟩;exact⟨s1,s2,by simp,λh=>absurd rfl h,⟨by simp,by simp⟩,by simp,⟨s3,t3,s4,t4,s5,t5,rfl,rfl⟩⟩
  ·rw[ab c]at X;obtain⟨c1,k',g1,g2,g3⟩:=hL (a:=⟨O,T,U,V,-16777216,16777216,S,Y-200,4+v8,[]⟩) (n:=L.toNat) (v:=v9-4) (k:=k9) (by simp only;omega) (by omega) (Zyx (by omega));rw[g1]at X;refine⟨⟨O,T,U,V,-16777216,16777216,S,Y-200,4+v8,c1⟩,k',?_,?_⟩
   ·rw[X];simp only[go_sem];try rfl
   ·exact⟨s1,s2,by simp only;omega,λ_=>by simp only;omega,g3,by simp only;omega,⟨s3,t3,s4,t4,s5,t5,rfl,rfl⟩⟩
 refine main _ ?_;rw[Znq];simp only[go_sem,h1,h2,h3,h4,h5,h6,aa i1,aa i2,aa i3,aa i4,aa i5,e1,e2,a0,b0,c0];by_cases c:L=0
 ·rw[aa c,aa c]
 ·rw[ab c,ab c];simp only[h7,h8,h9,go_sem,Ad (x:=v9-4),Ad (x:=Y-200),Ad (x:=4+v8)];have e:((L.toNat:Nat):Int)=L:=by omega
  simp only[axS,e,db];rfl
theorem Qvc (D:Src l) (k:Nat):∃(a:Axs) (k':Nat),No [.vC Aa l,I k]=some (Bk a++[.vC Aa l,I k'])/\AxOK a:=by
 refine Zsw (N:=Qtj) (JW D) (fun{a n v k} M T O=> ?_) k;obtain⟨p,k',G,L,S⟩:=Zjq (MN:=Dd) (JW D) M n 0 [] v k (by omega) rfl O;rw[dt]at G L;exact⟨p,k',G,L,S⟩
structure Ax3M (x : Ax3) : Prop where
 a:AxOK x.a
 b:AxOK x.b
 c:AxOK x.c
theorem Ax3M.ok {x:Ax3} (h:Ax3M x):Ax3OK x:=⟨by have:=h.a.bB;omega,by have:=h.b.bB;omega,by have:=h.c.bB;omega⟩
theorem Z8h (G:Src l):∃x:Ax3,OO [.vC Aa l]=some (AK x)/\Ax3M x:=by
 obtain⟨a,L,O,g1⟩:=Qvc G 0;obtain⟨b,S,M,g2⟩:=Qvc G L;obtain⟨c,V,N,T⟩:=Qvc G S;refine⟨⟨a,b,c⟩,?_,g1,g2,T⟩;have hf:=TF l;unfold OO;generalize No=U at*;generalize DO=X at*;rw[Yio];have D:U [.vC Aa l,I 0]=some (Bk a++[.vC Aa l,I L]):=O;simp only[Bk,ay,az]at D M N;simp only[go_sem,hf,D,M,N]
theorem Z99 {x:Ax3} {mv lo hi f:Int} {d:Pt} (j:Nat):(CI p x mv lo hi (⟨[],0,f,d⟩,d) j).1.aQ=f/\(CI p x mv lo hi (⟨[],0,f,d⟩,d) j).1.aT=d:=by
 induction j with
 |zero=>exact⟨rfl,rfl⟩
 |succ j D=>rw[CI,(Zey _).1,(Zey _).2];exact D
theorem Zhn {p:Pth} {x:Ax3} {lo D mv f:Int} {d:Pt} (M:mv=1\/mv= -1) (G:GoodPath p) (I:Ax3OK x):∀(k j:Nat),j+k=p.aF.length->∀w,w=CI p x mv lo D (⟨[],0,f,d⟩,d) j->
  Al (Vs FW O1) (Qc p x lo D mv w.1 w.2 j)=some (1,F5 x mv (CI p x mv lo D (⟨[],0,f,d⟩,d) p.aF.length).1 (CI p x mv lo D (⟨[],0,f,d⟩,d) p.aF.length).2)
 |0,j,U,w,L=>by
  have O:j=p.aF.length:=by omega
  refine AJ (o:=(1,_)) ?_ (by simp);rw[Zek,AQ (by omega),L,O]
 |k+1,j,U,w,L=>by
  have T:=G.count;have hb:=ZP (mv:=mv) (lo:=lo) (hi:=D) (f:=f) (d:=d) I G.ok j (by omega);rw[<-L]at hb;have S:=Z8e (MV:=FW) (N:=O1) (lo:=lo) (hi:=D) (now:=w.2) (j:=j) M G I hb (by omega) (by omega) (by omega) (fun{a b s aR} V=>Z4d M I hb (by omega) (by omega) (k:=268435456) (by omega) V);rw[AS S];exact Zhn M G I k (j+1) (by omega) _ (by rw[CI,<-L])
theorem Yjk {MV:Fn} {N4 N10:Lp} {x:Ax3} {lo D mv f:Int}
  (L:N4 (Rx p x lo D mv ⟨[],0,f,a⟩ a 0 [] 0)=some (1,[.vC Aa (Fz p.aF p.aF.length), .vC Ap [],I lo,I D,I mv,I p.aQ.x,I p.aQ.y,I p.aQ.z, .vC Ag (p.aF.map Az), .vC AA (p.aD.map Aq),I a.x,I a.y,I a.z,I mv,I x.a.step,I x.a.aS,I x.a.bD,I x.a.bE,I x.a.low,I x.a.aY,I x.a.bB,I x.a.aV,I x.a.aO, .vC Aa (x.a.aW.map At),I x.b.step,I x.b.aS,I x.b.bD,I x.b.bE,I x.b.low,I x.b.aY,I x.b.bB,I x.b.aV,I x.b.aO, .vC Aa (x.b.aW.map At),I x.c.step,I x.c.aS,I x.c.bD,I x.c.bE,I x.c.low,I x.c.aY,I x.c.bB,I x.c.aV,I x.c.aO, .vC Aa (x.c.aW.map At),I 0,I f,I a.x,I a.y,I a.z]))
  (G:N10 (Qc p x lo D mv ⟨[],0,f,a⟩ a 0)=some (1,F5 x mv (CI p x mv lo D (⟨[],0,f,a⟩,a) p.aF.length).1 (CI p x mv lo D (⟨[],0,f,a⟩,a) p.aF.length).2)):
  Qgc MV N4 N10 [.vC Ap [],I p.aQ.x,I p.aQ.y,I p.aQ.z, .vC Ag (p.aF.map Az), .vC AA (p.aD.map Aq),I lo,I D,I mv,I a.x,I a.y,I a.z,I mv,I x.a.step,I x.a.aS,I x.a.bD,I x.a.bE,I x.a.low,I x.a.aY,I x.a.bB,I x.a.aV,I x.a.aO, .vC Aa (x.a.aW.map At),I x.b.step,I x.b.aS,I x.b.bD,I x.b.bE,I x.b.low,I x.b.aY,I x.b.bB,I x.b.aV,I x.b.aO, .vC Aa (x.b.aW.map At),I x.c.step,I x.c.aS,I x.c.bD,I x.c.bE,I x.c.low,I x.c.aY,I x.c.bB,I x.c.aV,I x.c.aO, .vC Aa (x.c.aW.map At),I 0,I f,I a.x,I a.y,I a.z]=some (F5 x mv (CI p x mv lo D (⟨[],0,f,a⟩,a) p.aF.length).1 (CI p x mv lo D (⟨[],0,f,a⟩,a) p.aF.length).2):=by
 rw[Zzj];simp only[Rx,db,ip]at L;simp only[Qc,F5,db,ip]at G;simp only[go_sem,ac,L,G]
theorem Zmb {x:Ax3} {lo D mv f:Int} (L:mv=1\/mv= -1) (G:GoodPath p) (N:Ax3OK x):
  Qr [.vC Ap [],I p.aQ.x,I p.aQ.y,I p.aQ.z, .vC Ag (p.aF.map Az), .vC AA (p.aD.map Aq),I lo,I D,I mv,I a.x,I a.y,I a.z,I mv,I x.a.step,I x.a.aS,I x.a.bD,I x.a.bE,I x.a.low,I x.a.aY,I x.a.bB,I x.a.aV,I x.a.aO, .vC Aa (x.a.aW.map At),I x.b.step,I x.b.aS,I x.b.bD,I x.b.bE,I x.b.low,I x.b.aY,I x.b.bB,I x.b.aV,I x.b.aO, .vC Aa (x.b.aW.map At),I x.c.step,I x.c.aS,I x.c.bD,I x.c.bE,I x.c.low,I x.c.aY,I x.c.bB,I x.c.aV,I x.c.aO, .vC Aa (x.c.aW.map At),I 0,I f,I a.x,I a.y,I a.z]=some (F5 x mv (CI p x mv lo D (⟨[],0,f,a⟩,a) p.aF.length).1 (CI p x mv lo D (⟨[],0,f,a⟩,a) p.aF.length).2):=by
 refine Yjk (MV:=FW) (N4:=O1) (N10:=Qjf) ?_ (Zhn L G N p.aF.length 0 (by omega) _ rfl);have h:=Q9g (M:=FW) (x:=x) (lo:=lo) (hi:=D) (mv:=mv) (t:=⟨[],0,f,a⟩) (now:=a) G.ok p.aF.length 0 (by omega);rw[Ua]at h;exact h
theorem Yh4 {x:Ax3} (D:T (Bj p)=some [I (AT p.aF)]) (L:∀n h:Int,V [I n,I h]=some [I (BC n h)])
  (G:∀{lo hi mv f:Int},(mv=1\/mv= -1)->M [.vC Ap [],I p.aQ.x,I p.aQ.y,I p.aQ.z, .vC Ag (p.aF.map Az), .vC AA (p.aD.map Aq),I lo,I hi,I mv,I a.x,I a.y,I a.z,I mv,I x.a.step,I x.a.aS,I x.a.bD,I x.a.bE,I x.a.low,I x.a.aY,I x.a.bB,I x.a.aV,I x.a.aO, .vC Aa (x.a.aW.map At),I x.b.step,I x.b.aS,I x.b.bD,I x.b.bE,I x.b.low,I x.b.aY,I x.b.bB,I x.b.aV,I x.b.aO, .vC Aa (x.b.aW.map At),I x.c.step,I x.c.aS,I x.c.bD,I x.c.bE,I x.c.low,I x.c.aY,I x.c.bB,I x.c.aV,I x.c.aO, .vC Aa (x.c.aW.map At),I 0,I f,I a.x,I a.y,I a.z]=some (F5 x mv (CI p x mv lo hi (⟨[],0,f,a⟩,a) p.aF.length).1 (CI p x mv lo hi (⟨[],0,f,a⟩,a) p.aF.length).2)):
  Qjv M Z W V T (Bj p++AK x++[I a.x,I a.y,I a.z,I u,I v])=some (Bu (EM p x a u v)):=by
 have he:=Zo7 M Z W V T p.aQ.x p.aQ.y p.aQ.z (p.aF.map Az) (p.aD.map Aq) x.a.step x.a.aS x.a.bD x.a.bE x.a.low x.a.aY x.a.bB x.a.aV x.a.aO (x.a.aW.map At) x.b.step x.b.aS x.b.bD x.b.bE x.b.low x.b.aY x.b.bB x.b.aV x.b.aO (x.b.aW.map At) x.c.step x.c.aS x.c.bD x.c.bE x.c.low x.c.aY x.c.bB x.c.aV x.c.aO (x.c.aW.map At) a.x a.y a.z u v;refine dc he ?_;unfold EM;simp only[Bj]at D;simp only[D,L,go_sem,Kl,Ow];generalize BC u (AT p.aF)=f at*;generalize BC v (AT p.aF)=t at*;by_cases c:t<f
 ·have h:=G (lo:=min f t) (hi:=max f t) (mv:= -1) (f:=f) (.inr rfl);simp only[F5]at h;simp only[h,go_sem,c,dp]
 ·have h:=G (lo:=min f t) (hi:=max f t) (mv:=1) (f:=f) (.inl rfl);simp only[F5]at h;simp only[h,go_sem,c,f9]
theorem Ycz {x:Ax3} {d:Pt} {from_ to:Int} (D:GoodPath p) (G:Ax3OK x):Qf (Bj p++AK x++[I d.x,I d.y,I d.z,I from_,I to])=some (Bu (EM p x d from_ to)):=
 Yh4 (Zdx D.ok) (λ_ _=>Wb) λL=>Zmb L D G
theorem Ykf {x:Ax3} (d:Pt) (a b:Int) (D:GoodPath p) (G:Ax3OK x):(EM p x d a b).aE.length<=10000000/\0<=(EM p x d a b).length/\(EM p x d a b).length<=900000000000000:=by
 have I:=D.count;have h:=ZP (mv:=if BC a (AT p.aF)>BC b (AT p.aF)then-1 else 1) (lo:=min (BC a (AT p.aF)) (BC b (AT p.aF))) (hi:=max (BC a (AT p.aF)) (BC b (AT p.aF))) (f:=BC a (AT p.aF)) (d:=d) G D.ok p.aF.length (cg _);obtain⟨L,M,-⟩:=h;unfold EM;simp only;refine⟨by omega,by omega,by omega⟩
theorem XB {x:Ax3} {mv:Int} {Q:Int->Pt->Prop}:∀{a s:Int} {d:Pt} {l:List Pce},chain x mv Q a s d l->a<=C0 a l
 |a,_,_,[],_=>gk _
 |a,s,d,c::l,h=>by
  obtain⟨-,-,G,-,D⟩:=h;have:=XB D;unfold C0;omega
theorem R0 {x:Ax3} {mv:Int} {Q:Int->Pt->Prop} (I:mv=1\/mv= -1):∀{a s:Int} {d:Pt} {l:List Pce},chain x mv Q a s d l->∀i,i<l.length->
  a<=(pcA l i).at_/\1<=(pcA l i).aR/\eI l i<=C0 a l/\(s-((pcA l i).at_-a)<=(pcA l i).s/\(pcA l i).s<=s+((pcA l i).at_-a))/\((pcA l i).bC=0\/(pcA l i).bC=mv)
 |a,s,d,c::l,h,0,_=>by
  obtain⟨N,O,L,D,G⟩:=h;have:=XB G;unfold eI;rw[J6];refine⟨by omega,L,by unfold C0;omega,by omega,?_⟩;rcases D with D|D
  ·exact .inr D.1
  ·exact .inl D.1
 |a,s,d,c::l,h,i+1,S=>by
  obtain⟨N,O,L,D,G⟩:=h;have M:=R0 I G i (by simpa using S);unfold eI at M⊢;rw[HK];obtain⟨g1,g2,T,V,U⟩:=M;have X:c.bC*c.aR=0\/c.bC*c.aR=c.aR\/c.bC*c.aR= -c.aR:=by
   rcases D with D|D
   ·rw[D.1];rcases I with rfl|rfl<;>omega
   ·rw[D.1];omega
  refine⟨by omega,g2,by unfold C0;exact T,by omega,U⟩
theorem Q7y {x:Ax3} {mv:Int} {Q:Int->Pt->Prop} (L:mv=1\/mv= -1):∀{a s:Int} {d:Pt} {l:List Pce},chain x mv Q a s d l->∀i j,i<=j->j<l.length->eI l i<=eI l j
 |a,s,d,c::l,h,0,0,_,_=>gk _
 |a,s,d,c::l,h,0,j+1,_,D=>by
  obtain⟨M,N,O,S,G⟩:=h;have:=R0 L G j (by simpa using D);unfold eI at*;rw[J6,HK];omega
 |a,s,d,c::l,h,i+1,0,I,_=>by omega
 |a,s,d,c::l,h,i+1,j+1,I,D=>by
  obtain⟨M,N,O,S,G⟩:=h;have:=Q7y L G i j (by omega) (by simpa using D);unfold eI at*;rw[HK,HK];exact this
theorem Qwb {x:Ax3} {mv:Int} {Q:Int->Pt->Prop}:∀{a s:Int} {d:Pt} {l:List Pce},chain x mv Q a s d l->l≠[]->eI l (l.length-1)=C0 a l
 |a,s,d,[c],h,_=>by
  obtain⟨G,-⟩:=h;show eI [c] 0=C0 a [c];unfold eI;rw[J6];simp only[C0];omega
 |a,s,d,c::e::l,h,_=>by
  obtain⟨-,-,-,-,D⟩:=h;have:=Qwb D (by simp);have e1:(c::e::l).length-1=((e::l).length-1)+1:=by simp
  rw[e1];unfold eI at*;rw[HK,this];rfl
def mvP (p:Pth) (a b:Int):Int:=if BC a (AT p.aF)>BC b (AT p.aF)then-1 else 1
theorem Yei (p:Pth) (a b:Int):mvP p a b=1\/mvP p a b= -1:=by unfold mvP;split<;>simp
theorem Qlr {x:Ax3} {d:Pt} {a b:Int} (I:Ax3OK x) (D:GoodPath p) (L:Qy3 p (mvP p a b) Q):
  ∃M,TC x (mvP p a b) Q (EM p x d a b) (BC b (AT p.aF)) M/\(EM p x d a b).aQ=BC a (AT p.aF)/\(EM p x d a b).aT=d:=by
 have S:=U5 D;have T:0<=BC a (AT p.aF)/\BC a (AT p.aF)<=AT p.aF:=by unfold BC;omega
 have hb:0<=BC b (AT p.aF)/\BC b (AT p.aF)<=AT p.aF:=by unfold BC;omega
 have G:=λmv lo N f=>Z99 (p:=p) (x:=x) (mv:=mv) (lo:=lo) (hi:=N) (f:=f) (d:=d) p.aF.length;unfold EM mvP at*;simp only;generalize BC a (AT p.aF)=f at*;generalize BC b (AT p.aF)=t at*;have h:=Zdw (p:=p) (x:=x) (mv:=if f>t then-1 else 1) (lo:=min f t) (hi:=max f t) (f:=f) (d:=d) (Q:=Q) (by split<;>simp) I D.ok (by omega) (by split<;>omega) L p.aF.length (cg _);have O:Kj p.aF (if f>t then-1 else 1) (min f t) (max f t) p.aF.length=t:=by
  unfold Kj;rw[iu,Ua,Zea];by_cases c:f>t
  ·rw[aa c,aa];omega
  ·rw[ab c,ab];omega
 rw[O]at h;exact⟨_,h,(G _ _ _ _).1,(G _ _ _ _).2⟩
theorem Z8i {x:Ax3} {s:Int} (D:u=1\/u= -1) (h:TC x u Q t s a) (hb:t.aE.length<=10000000/\0<=t.length/\t.length<=900000000000000) (N:0<=t.aQ/\t.aQ<=263886834032640):TQ t:=by
 obtain⟨G,L,-,-⟩:=h;refine⟨hb.1,hb.2,λi I=> ?_,Q7y D G,λM=>by rw[Qwb G M,L],N,λi I=> ?_,λi I=> ?_⟩
 ·have:=R0 D G i I;rw[L]at this;exact⟨this.1,this.2.1,this.2.2.1⟩
 ·have:=R0 D G i I;rw[L]at this;unfold eI at this;omega
 ·have:=(R0 D G i I).2.2.2.2;rcases D with rfl|rfl
  ·rcases this with h|h
   ·exact .inl h
   ·exact .inr (.inl h)
  ·rcases this with h|h
   ·exact .inl h
   ·exact .inr (.inr h)
theorem Qxv {x:Ax3} (d:Pt) (a b:Int) (G:Ax3OK x) (D:GoodPath p):TQ (EM p x d a b):=by
 have M:=U5 D;obtain⟨N,I,L,-⟩:=Qlr (d:=d) (a:=a) (b:=b) (Q:=λ_ _=>True) G D (λ_ _ _ _ _ _ _ _=>trivial);exact Z8i (Yei p a b) I (Ykf d a b D G) (by rw[L];unfold BC;omega)
def Ch (a:Axs) (i:Nat):Int:=a.aW.getD i 0
def KJ (a:Axs) (p:Int):Int:=
 if a.aW=[]then 0
 else if p<=a.aV then Ch a 0
 else if(p-a.aV)/a.aO>=a.aW.length-1 then Ch a (a.aW.length-1)
 else Ch a ((p-a.aV)/a.aO).toNat+Bb ((Ch a (((p-a.aV)/a.aO).toNat+1)-Ch a ((p-a.aV)/a.aO).toNat)*(p-a.aV-(p-a.aV)/a.aO*a.aO)) a.aO
def IA (a:Axs) (p:Int):Int:=Bb (p+KJ a p) a.step
def okB (p:Int):Prop:= -1000000000<=p/\p<=1000000000
theorem Q4j {l:List Int} (h:l≠[]):0<l.length:=by
 cases l with
 |nil=>exact absurd rfl h
 |cons _ _=>simp
theorem QQ {a:Axs} (h:AxOK a) {i:Nat} (D:i<a.aW.length): -4096<=Ch a i/\Ch a i<=4096:=by
 have e:Ch a i=a.aW[i]:=by unfold Ch;simp[D]
 rw[e];exact h.aW.1 _ (bf _)
theorem T5 {a:Axs} (D:i<a.aW.length):nth [] (a.aW.map At) i=[I (Ch a i)]:=by
 have e:Ch a i=a.aW[i]:=by unfold Ch;simp[D]
 rw[e];exact Em _ _ _ _ D
theorem Zaz {a:Axs} (h:AxOK a) (D:a.aW≠[]) {p:Int} (G: ¬p<=a.aV) (I: ¬(p-a.aV)/a.aO>=a.aW.length-1):
  ∃(i:Nat) (r:Int),((p-a.aV)/a.aO=i)/\i+1<a.aW.length/\0<=r/\r<a.aO/\p-a.aV=i*a.aO+r/\p-a.aV-(p-a.aV)/a.aO*a.aO=r:=by
 have L:=h.aO D;have e0:=Int.mul_ediv_add_emod (p-a.aV) a.aO;have e1:=Int.emod_nonneg (p-a.aV) (show a.aO≠0 by omega);have e2:=j5 (p-a.aV) (show 0<a.aO by omega);have e3:0<=(p-a.aV)/a.aO:=Int.ediv_nonneg (by omega) (by omega);refine⟨((p-a.aV)/a.aO).toNat,(p-a.aV)%a.aO,by omega,by omega,e1,e2,?_,?_⟩
 ·rw[Int.toNat_of_nonneg e3,i9];omega
 ·rw[i9 ((p-a.aV)/a.aO)];omega
theorem Zih {a:Axs} (h:AxOK a) (D:a.aW≠[]) {i:Nat} (I:i+1<a.aW.length) {r:Int} (G:0<=r/\r<=a.aO):
  (-30<=Ch a (i+1)-Ch a i/\Ch a (i+1)-Ch a i<=30)/\(Bb ((Ch a (i+1)-Ch a i)*r) a.aO).natAbs<=31:=by
 have M:=h.aO D;have N:=h.aW.2 i I;have L: -30<=Ch a (i+1)-Ch a i/\Ch a (i+1)-Ch a i<=30:=by unfold Ch;omega
 refine⟨L,Qhx (by omega) ?_⟩;have m1:(Ch a (i+1)-Ch a i)*r<=31*r:=gf (by omega) G.1;have m2: -31*r<=(Ch a (i+1)-Ch a i)*r:=gf (by omega) G.1;have e:((31:Nat):Int)=31:=rfl;rw[e];omega
theorem Q90 {a:Axs} (h:AxOK a) (p:Int): -5000<=KJ a p/\KJ a p<=5000:=by
 unfold KJ;by_cases c:a.aW=[]
 ·rw[aa c];omega
 ·have I:=Q4j c;rw[ab c];by_cases D:p<=a.aV
  ·rw[aa D];have:=QQ h (show 0<a.aW.length from I);omega
  ·rw[ab D];by_cases G:(p-a.aV)/a.aO>=a.aW.length-1
   ·rw[aa G];have:=QQ h (show a.aW.length-1<a.aW.length by omega);omega
   ·rw[ab G];obtain⟨i,r,e1,e2,e3,M,N,L⟩:=Zaz h c D G;rw[L,e1,ag];have b1:=QQ h (show i<a.aW.length by omega);have b2:=(Zih h c e2 (r:=r) (by omega)).2;omega
theorem Zyu {a:Axs} (h:AxOK a) {v:Int} (D:v.natAbs<=1000010000):KG (Bk a++[I v])=some [I (Bb v a.step)]:=by
 have G:=h.step;have he:=Zny a.step a.aS a.bD a.bE a.low a.aY a.bB a.aV a.aO (a.aW.map At) v;unfold KG;refine dc he ?_;rw[Ad (x:=2*v),Ad (x:=2*v+a.step),Ad (x:=2*a.step)];have L:=Int.tmod_add_mul_tdiv (2*v+a.step) (2*a.step);have M:=Int.tmod_lt_of_pos (2*v+a.step) (show 0<2*a.step by omega);have N:=Int.lt_tmod_of_pos (2*v+a.step) (show 0<2*a.step by omega);have O:((2*v+a.step).tdiv (2*a.step)).natAbs<=(2*v+a.step).natAbs:=by rw[Int.natAbs_tdiv];exact gp _ _
 generalize(2*v+a.step).tdiv (2*a.step)=q at*;generalize(2*v+a.step).tmod (2*a.step)=r at*;have e1:2*a.step*q=q*(2*a.step):=i9 _ _;rw[AQ (by omega),AQ (by omega),AQ (by omega),AQ (by omega),Ad (x:=q)];by_cases h:r<0
 ·rw[Cp h,Ad,Jn (k:=q-1) (by omega)]
  ·rw[Int.sub_mul];omega
  ·rw[Int.sub_add_cancel];omega
 ·rw[AQ h,Jn (k:=q) (by omega)]
  ·omega
  ·rw[jv];omega
theorem Zzg {a:Axs} (h:AxOK a) {p:Int} (T:okB p):J8 (Bk a++[I p])=some [I (KJ a p)]:=by
 unfold okB at T;have ho:=h.aV;have hc:=h.count;have he:=Z8b CY a.step a.aS a.bD a.bE a.low a.aY a.bB a.aV a.aO (a.aW.map At) p;unfold J8;have U:=fun{x y:Int} (hx:x.natAbs<=30) (hy:y.natAbs<=123) (S:4<=a.aO/\a.aO<=123)=>Zed (a:=x) (b:=y) (c:=a.aO) (by omega) (by omega) (by omega);generalize CY=M at*;refine dc he ?_;unfold KJ;rw[ac];by_cases c:a.aW=[]
 ·rw[aa c,c];rfl
 ·have V:=Q4j c;have S:=h.aO c;have e1:O ((a.aW.length:Int)-1)=((a.aW.length-1:Nat):Int):=by rw[Ad];omega
  have e2:O (p-a.aV)=p-a.aV:=Ad;rw[ab c,e2,e1];by_cases L:p<=a.aV
  ·rw[aa L];simp only[go_sem,T5 V];rw[ab,aa,aa]
  ·have e3:O ((p-a.aV).tdiv a.aO)=(p-a.aV)/a.aO:=by
    rw[cz (by omega)];have:=Int.ediv_nonneg (show 0<=p-a.aV by omega) (show 0<=a.aO by omega);have:=Int.ediv_le_self a.aO (show 0<=p-a.aV by omega);exact Ad
   rw[ab L,e3];by_cases N:(p-a.aV)/a.aO>=(a.aW.length:Int)-1
   ·rw[aa N];simp only[go_sem,ag,T5 (show a.aW.length-1<a.aW.length by omega)];rw[ab,ab,ab,ab,aa,aa]
   ·rw[ab N];obtain⟨i,r,g1,g2,g3,g4,g5,X⟩:=Zaz h c L N;obtain⟨n1,n2⟩:=Zih h c g2 (r:=r) (by omega);have b1:=QQ h (show i<a.aW.length by omega);rw[X,g1]at*;rw[ag];have Y:O ((i:Int)+1)=((i+1:Nat):Int):=by rw[Ad];omega
    have hmul:(i:Int)*a.aO=p-a.aV-r:=by omega
    have w2:O (p-a.aV-O ((i:Int)*a.aO))=r:=by rw[hmul,Ad (x:=p-a.aV-r),Ad];omega
    have D:(0:Int)<=(i:Int)/\(i:Int)<(a.aW.length:Int):=by omega
    have G:(0:Int)<=((i+1:Nat):Int)/\((i+1:Nat):Int)<(a.aW.length:Int):=by omega
    simp only[go_sem,Y,w2,ag,T5 (show i<a.aW.length by omega),T5 g2,aa D,aa G];have b2:=QQ h g2;generalize Ch a (i+1)=y at*;generalize Ch a i=z at*;rw[ab,ab,ab,ab,ab,Ad (x:=y-z),U (by omega) (by omega) S];simp only[go_sem];rw[Ad]
theorem Yfw {a:Axs} (h:AxOK a) {p:Int} (D:okB p):M_ (Bk a++[I p])=some [I (IA a p)]:=by
 have hb:=Q90 h p;have G:=Zzg h D;unfold okB at D;have L:=Zyu h (v:=p+KJ a p) (by omega);have he:=Z8w KG J8 a.step a.aS a.bD a.bE a.low a.aY a.bB a.aV a.aO (a.aW.map At) p;unfold M_;generalize KG=M at*;generalize J8=N at*;refine dc he ?_;simp only[Bk,ay,az]at G L;simp only[G,go_sem,Ad (x:=p+KJ a p),L];rfl
def IG (a:Axs) (d:Int):Int:=if d= -1 then-a.bB else 0
def Gd (a:Axs) (bC at_ was aT u:Int):Int:=if bC≠0\/was=aT then IG a aT else if aT= -1 then-min (u-at_) a.bB else min (u-at_) a.bB-a.bB
theorem SO {a:Axs} (hb:0<=a.bB/\a.bB<=1000) (v:Int):JQ (Bk a++[I v])=some [I (IG a v)]:=by
 have he:=Zk3 a.step a.aS a.bD a.bE a.low a.aY a.bB a.aV a.aO (a.aW.map At) v;unfold JQ;refine dc he ?_;unfold IG;by_cases c:v= -1
 ·rw[BP (by simp[c]),aa c,Ad];congr 3;omega
 ·rw[B0 (by simp[c]),ab c]
theorem Z4u {a:Axs} {c:Pce} (S:∀v:Int,M (Bk a++[I v])=some [I (IG a v)]) (hb:0<=a.bB/\a.bB<=1000) (X:0<=u-c.at_/\u-c.at_<=2000000000000000):
  QN M (Bk a++AZ c++[I 0,I u])=some [I (Gd a c.bC c.at_ c.was.x c.aT.x u)]:=by
 have he:=Qnu M a.step a.aS a.bD a.bE a.low a.aY a.bB a.aV a.aO (a.aW.map At) c.at_ c.aR c.s c.bC c.was.x c.was.y c.was.z c.aT.x c.aT.y c.aT.z 0 u;refine dc he ?_;have D:=S c.aT.x;simp only[Bk,ay,az]at D;have e1:O (0+1)=1:=rfl;have e2:O (1+1)=2:=rfl;have T:O (u-c.at_)=u-c.at_:=Ad;have U:O (0-min (u-c.at_) a.bB)= -min (u-c.at_) a.bB:=by rw[Ad];omega
 have V:O (min (u-c.at_) a.bB-a.bB)=min (u-c.at_) a.bB-a.bB:=Ad;unfold Gd;simp only[go_sem,e1,e2,Kl,T,U,V,Nat.reduceAdd,ip,ke,ju,Int.reduceEq,D];by_cases G:c.bC=0
 ·by_cases L:c.was.x=c.aT.x
  ·simp[G,L]
  ·by_cases N:c.aT.x= -1
   ·simp[G,N,show c.was.x≠-1 from λe=>L (by rw[e,N])]
   ·simp[G,L,N]
 ·simp[G]
theorem Zzu {a:Axs} {c:Pce} (S:∀v:Int,M (Bk a++[I v])=some [I (IG a v)]) (hb:0<=a.bB/\a.bB<=1000) (X:0<=u-c.at_/\u-c.at_<=2000000000000000):
  QN M (Bk a++AZ c++[I (O (0+1)),I u])=some [I (Gd a c.bC c.at_ c.was.y c.aT.y u)]:=by
 have he:=Qnu M a.step a.aS a.bD a.bE a.low a.aY a.bB a.aV a.aO (a.aW.map At) c.at_ c.aR c.s c.bC c.was.x c.was.y c.was.z c.aT.x c.aT.y c.aT.z (O (0+1)) u;refine dc he ?_;have D:=S c.aT.y;simp only[Bk,ay,az]at D;have e1:O (0+1)=1:=rfl;have e2:O (1+1)=2:=rfl;have T:O (u-c.at_)=u-c.at_:=Ad;have U:O (0-min (u-c.at_) a.bB)= -min (u-c.at_) a.bB:=by rw[Ad];omega
 have V:O (min (u-c.at_) a.bB-a.bB)=min (u-c.at_) a.bB-a.bB:=Ad;unfold Gd;simp only[go_sem,e1,e2,Kl,T,U,V,Nat.reduceAdd,ip,ke,ju,Int.reduceEq,D];by_cases G:c.bC=0
 ·by_cases L:c.was.y=c.aT.y
  ·simp[G,L]
  ·by_cases N:c.aT.y= -1
   ·simp[G,N,show c.was.y≠-1 from λe=>L (by rw[e,N])]
   ·simp[G,L,N]
 ·simp[G]
theorem Yb0 {a:Axs} {c:Pce} (S:∀v:Int,M (Bk a++[I v])=some [I (IG a v)]) (hb:0<=a.bB/\a.bB<=1000) (X:0<=u-c.at_/\u-c.at_<=2000000000000000):
  QN M (Bk a++AZ c++[I (O (O (0+1)+1)),I u])=some [I (Gd a c.bC c.at_ c.was.z c.aT.z u)]:=by
 have he:=Qnu M a.step a.aS a.bD a.bE a.low a.aY a.bB a.aV a.aO (a.aW.map At) c.at_ c.aR c.s c.bC c.was.x c.was.y c.was.z c.aT.x c.aT.y c.aT.z (O (O (0+1)+1)) u;refine dc he ?_;have D:=S c.aT.z;simp only[Bk,ay,az]at D;have e1:O (0+1)=1:=rfl;have e2:O (1+1)=2:=rfl;have T:O (u-c.at_)=u-c.at_:=Ad;have U:O (0-min (u-c.at_) a.bB)= -min (u-c.at_) a.bB:=by rw[Ad];omega
 have V:O (min (u-c.at_) a.bB-a.bB)=min (u-c.at_) a.bB-a.bB:=Ad;unfold Gd;simp only[go_sem,e1,e2,Kl,T,U,V,Nat.reduceAdd,ip,ke,ju,Int.reduceEq,D];by_cases G:c.bC=0
 ·by_cases L:c.was.z=c.aT.z
  ·simp[G,L]
  ·by_cases N:c.aT.z= -1
   ·simp[G,N,show c.was.z≠-1 from λe=>L (by rw[e,N])]
   ·simp[G,L,N]
 ·simp[G]
theorem Zvr {a:Axs} (hb:0<=a.bB/\a.bB<=1000) {bC at_ was aT u:Int} (D:0<=u-at_): -1000<=Gd a bC at_ was aT u/\Gd a bC at_ was aT u<=1000:=by
 unfold Gd IG
 (repeat' split)<;>omega
theorem Zxf {g:Sgm} (G:bd B26 a) (I:1<=g.len/\g.len<=268435456/\bd B26 g.to) (N:0<=d/\d<=g.len):bd 201326592 (Py a g d):=by
 have key:∀u v:Int,u.natAbs<=B26->v.natAbs<=B26->(v+Bb ((u-v)*d) g.len).natAbs<=201326592:=by
  intro u v O M;have S:=Fp O M;have T:=Q1f (D:=u-v) (L:=g.len) (d:=d) (by omega) (bm S (by decide)) N;have U:v.natAbs<=67108864:=M;omega
 exact⟨key _ _ I.2.2.1 G.1,key _ _ I.2.2.2.1 G.2.1,key _ _ I.2.2.2.2 G.2.2⟩
theorem Z08 (h:GoodPath p) (s:Int):bd 201326592 (atP p s):=by
 unfold atP;by_cases c:p.aF=[]
 ·rw[c];exact AI h.aQ (by decide)
 ·have D:=h.ok;obtain⟨G,I,L,M⟩:=Qlm (l:=p.aF) (a:=p.aQ) (s:=max s 0) c (λg N=>(D.seg g N).1) (by omega);rw[M];exact Zxf (Zi2 h.aQ D G) (D.seg _ (H4 G)) ⟨I,L⟩
theorem YV {a:Axs} (h:AxOK a) {p:Int} (D:okB p):(IA a p).natAbs<=2000000000:=by
 have hb:=Q90 h p;have G:=h.step;unfold okB at D;unfold IA;refine Qhx (by omega) ?_;have e:((2000000000:Nat):Int)=2000000000:=rfl;rw[e];omega
def shT (a:Axs) (t:Trk) (u:Int) (f:Pt->Int):Int:=if t.aE=[]then IG a (f t.aT)else Gd a (pcA t.aE (iT t u)).bC (pcA t.aE (iT t u)).at_ (f (pcA t.aE (iT t u)).was) (f (pcA t.aE (iT t u)).aT) (clT t u)
def TR (p:Pth) (x:Ax3) (s:Int):Pt:=⟨IA x.a (atP p s).x,IA x.b (atP p s).y,IA x.c (atP p s).z⟩
def KY (p:Pth) (x:Ax3) (t:Trk) (u:Int):Pt:=
 ⟨(TR p x (A6 t u)).x+shT x.a t u Pt.x,(TR p x (A6 t u)).y+shT x.b t u Pt.y,(TR p x (A6 t u)).z+shT x.c t u Pt.z⟩
theorem Qyk (h:TQ t) (G:∀i,i+1<t.aE.length->(pcA t.aE (i+1)).at_=eI t.aE i) (M:t.aE≠[]->(pcA t.aE 0).at_=0) (u:Int) (D:t.aE≠[]):(pcA t.aE (iT t u)).at_<=clT t u/\(0<iT t u->(pcA t.aE (iT t u)).at_<clT t u):=by
 have I:=Mm h u D;have N:=OP h u;by_cases c:iT t u=0
 ·rw[c,M D];exact⟨N.1,λg=>absurd g (by omega)⟩
 ·obtain⟨j,L⟩:∃j,iT t u=j+1:=⟨iT t u-1,by omega⟩;rw[L]at I⊢;rw[G j I];have: ¬clT t u<=eI t.aE j:=by
   intro g;have:=U0 (show j<t.aE.length by omega) g;unfold iT at L;omega
  exact⟨by omega,λ_=>by omega⟩
theorem Ygo (h:TQ t) (u:Int):clT t (clT t u)=clT t u:=by have:=h.len;unfold clT BC;omega
theorem Z91 (h:TQ t) (u:Int):A6 t (clT t u)=A6 t u:=by unfold A6 iT;rw[Ygo h]
theorem Q39 (h:TQ t) (u:Int): -3000000000000000<=A6 t u/\A6 t u<=3000000000000000:=by
 unfold A6;by_cases c:t.aE=[]
 ·rw[aa c];have:=h.aQ;omega
 ·have G:=Mm h u c;have I:=h.pos _ G;have L:=h.s _ G;have D:=h.bC _ G;have M:=OP h u;have N:=h.len;rw[ab c];unfold eI at I;rcases D with D|D|D<;>rw[D]<;>omega
theorem Yh0 (h:GoodPath p) (s:Int):okB (atP p s).x/\okB (atP p s).y/\okB (atP p s).z:=by
 obtain⟨D,G,I⟩:=Z08 h s;unfold okB;omega
structure TH (t : Trk) : Prop where
 q:TQ t
 at0:t.aE≠[]->(pcA t.aE 0).at_=0
 at1:∀i,i+1<t.aE.length->(pcA t.aE (i+1)).at_=eI t.aE i
theorem Qnv {a:Axs} (hb:0<=a.bB/\a.bB<=1000) {t:Trk} (h:TH t) (u:Int) (f:Pt->Int): -1000<=shT a t u f/\shT a t u f<=1000:=by
 unfold shT;by_cases c:t.aE=[]
 ·rw[aa c];unfold IG;split<;>omega
 ·rw[ab c];exact Zvr hb (by have:=(Qyk h.q h.at1 h.at0 u c).1;omega)
theorem Zvp {x:Ax3} (hp:GoodPath p) (D:Ax3M x) (G:TH t) (hC:H [I u,I t.length]=some [I (clT t u)]) (hL:S (Bu t++[I (clT t u)])=some [I (A6 t u)]) (hA:T (Bj p++[I (A6 t u)])=some (ptR (atP p (A6 t u))))
  (L:V (Bu t++[I (clT t u)])=some [I (if t.aE=[]then-1 else(iT t u:Int))]) (hM:∀{a:Axs} {q:Int},AxOK a->okB q->W (Bk a++[I q])=some [I (IA a q)]) (hD:∀{a:Axs} (v:Int),(0<=a.bB/\a.bB<=1000)->Z (Bk a++[I v])=some [I (IG a v)])
  (h0:∀{a:Axs} {c:Pce} {u:Int},(0<=a.bB/\a.bB<=1000)->(0<=u-c.at_/\u-c.at_<=2000000000000000)->M (Bk a++AZ c++[I 0,I u])=some [I (Gd a c.bC c.at_ c.was.x c.aT.x u)])
  (h1:∀{a:Axs} {c:Pce} {u:Int},(0<=a.bB/\a.bB<=1000)->(0<=u-c.at_/\u-c.at_<=2000000000000000)->M (Bk a++AZ c++[I (O (0+1)),I u])=some [I (Gd a c.bC c.at_ c.was.y c.aT.y u)])
  (h2:∀{a:Axs} {c:Pce} {u:Int},(0<=a.bB/\a.bB<=1000)->(0<=u-c.at_/\u-c.at_<=2000000000000000)->M (Bk a++AZ c++[I (O (O (0+1)+1)),I u])=some [I (Gd a c.bC c.at_ c.was.z c.aT.z u)]):
  Qfp M Z W V T S H (Bj p++AK x++Bu t++[I u])=some (ptR (KY p x t u)):=by
 have he:=Yg0 M Z W V T S H u p x t;refine dc he ?_;obtain⟨o1,o2,o3⟩:=Yh0 hp (A6 t u);have m1:=hM D.a o1;have m2:=hM D.b o2;have m3:=hM D.c o3;have b1:=YV D.a o1;have b2:=YV D.b o2;have b3:=YV D.c o3;have s1:=Qnv D.ok.a G u Pt.x;have s2:=Qnv D.ok.b G u Pt.y;have s3:=Qnv D.ok.c G u Pt.z;unfold KY TR;generalize IA x.a (atP p (A6 t u)).x=q1 at*;generalize IA x.b (atP p (A6 t u)).y=q2 at*;generalize IA x.c (atP p (A6 t u)).z=q3 at*;have w1:O (q1+shT x.a t u Pt.x)=q1+shT x.a t u Pt.x:=Ad;have w2:O (q2+shT x.b t u Pt.y)=q2+shT x.b t u Pt.y:=Ad;have w3:O (q3+shT x.c t u Pt.z)=q3+shT x.c t u Pt.z:=Ad;by_cases c:t.aE=[]
 ·have N:=hD t.aT.x D.ok.a;have U:=hD t.aT.y D.ok.b;have X:=hD t.aT.z D.ok.c;unfold shT at*;rw[aa c]at L;simp only[aa c]at w1 w2 w3⊢;simp only[Bj,Bu,Bk,ay,az]at hL hA L N U X m1 m2 m3;simp only[hC,hL,hA,L,go_sem,m1,m2,m3,N,U,X,w1,w2,w3];rw[aa,aa,aa]
 ·have hi:=Mm G.q u c;have a1:=G.q.count;have a3:=(Qyk G.q G.at1 G.at0 u c).1;have a4:=OP G.q u;have hlen:=G.q.len;have a2:=G.q.pos _ hi;have a0:(0:Int)<=(iT t u:Int)/\(iT t u:Int)<(t.aE.length:Int):=by omega
  have Y: ¬((iT t u:Int)<0):=by omega
  have N:=h0 (c:=pcA t.aE (iT t u)) (u:=clT t u) D.ok.a (by omega);have U:=h1 (c:=pcA t.aE (iT t u)) (u:=clT t u) D.ok.b (by omega);have X:=h2 (c:=pcA t.aE (iT t u)) (u:=clT t u) D.ok.c (by omega);unfold shT at*;rw[ab c]at L;simp only[ab c]at w1 w2 w3⊢;simp only[Bj,Bu,Bk,AZ,ay,az]at hL hA L N U X m1 m2 m3;simp only[hC,hL,hA,L,go_sem,m1,m2,m3,ac,aa a0,ag,Us hi,ab Y,N,U,X,w1,w2,w3]
theorem Yha {x:Ax3} (M:GoodPath p) (N:Ax3M x) (D:TH t) (u:Int):Fc (Bj p++AK x++Bu t++[I u])=some (ptR (KY p x t u)):=by
 have T:=Q39 D.q u;have G:=VL D.q (clT t u);rw[Z91 D.q]at G;exact Zvp M N D Wb G (Yew M (by unfold i64;omega)) (Q3b D.q u) (λO S=>Yfw O S) (λv hb=>SO hb v) (λhb L=>Z4u (SO hb) hb L) (λhb L=>Zzu (SO hb) hb L) (λhb L=>Yb0 (SO hb) hb L)
theorem Q16 {x:Ax3} {a s:Int} {l:List Pce} (h:chain x u Q a s b l) (D:l≠[]):(pcA l 0).at_=a:=by
 cases l with
 |nil=>exact absurd rfl D
 |cons c l=>rw[J6];exact h.1
theorem Qzn {x:Ax3} {mv:Int} {Q:Int->Pt->Prop}:∀{a s:Int} {d:Pt} {l:List Pce},chain x mv Q a s d l->∀i,i+1<l.length->(pcA l (i+1)).at_=eI l i
 |a,s,d,[],h,i,D=>by simp at D
 |a,s,d,c::l,h,0,D=>by
  obtain⟨I,L,M,N,G⟩:=h;unfold eI;rw[HK,J6,Q16 G (λe=>by rw[e]at D;simp at D),I]
 |a,s,d,c::l,h,i+1,D=>by
  obtain⟨I,L,M,N,G⟩:=h;have:=Qzn G i (by simpa using D);unfold eI at*;rw[HK,HK];exact this
theorem Zvc {x:Ax3} (d:Pt) (a b:Int) (D:Ax3OK x) (G:GoodPath p):TH (EM p x d a b):=by
 obtain⟨L,I,M,-⟩:=Qlr (d:=d) (a:=a) (b:=b) (Q:=λ_ _=>True) D G (λ_ _ _ _ _ _ _ _=>trivial);exact⟨Qxv d a b D G,Q16 I.ch,Qzn I.ch⟩
def wF (z:Int):List Pce->Int
 |[]=> -1
 |c::l=>if c.bC≠0/\0<=(z-c.s)*c.bC/\(z-c.s)*c.bC<=c.aR then c.at_+(z-c.s)*c.bC else wF z l
def Cu (t:Trk) (z:Int):Int:=if z=t.aQ then 0 else wF z t.aE
def plL:List Pce->Int->Int
 |[],_=>0
 |c::l,u=>if u<=c.at_+c.aR then c.s+c.bC*(u-c.at_)else plL l u
theorem Qvt:∀{l:List Pce} {u:Int},fI l u<l.length->plL l u=(pcA l (fI l u)).s+(pcA l (fI l u)).bC*(u-(pcA l (fI l u)).at_)
 |[],_,h=>by simp at h
 |c::l,u,h=>by
  unfold fI at h⊢;unfold plL;by_cases D:u<=c.at_+c.aR
  ·rw[aa D,aa D,J6]
  ·rw[ab D]at h⊢;rw[ab D,HK];exact Qvt (by simpa using h)
theorem Mo (h:TQ t) (u:Int) (D:t.aE≠[]):A6 t u=plL t.aE (clT t u):=by
 have G:=Mm h u D;unfold A6;rw[ab D];exact(Qvt G).symm
theorem Qmc {x:Ax3} {mv:Int} {Q:Int->Pt->Prop} (I:mv=1\/mv= -1):∀{a s:Int} {d:Pt} {l:List Pce},chain x mv Q a s d l->0<=mv*(C9 s l-s)
 |a,s,d,[],_=>by simp[C9]
 |a,s,d,c::l,h=>by
  obtain⟨N,O,S,D,L⟩:=h;have M:=Qmc I L;unfold C9;generalize C9 (s+c.bC*c.aR) l=E at*;have G:c.bC=mv\/c.bC=0:=by rcases D with D|D<;>simp[D.1]
  rcases G with G|G<;>rw[G]at M<;>rcases I with rfl|rfl<;>omega
theorem Q1s {x:Ax3} {mv:Int} {Q:Int->Pt->Prop} (D:mv=1\/mv= -1) (z:Int):∀{a s:Int} {d:Pt} {l:List Pce},chain x mv Q a s d l->
  (mv*(z-s)<0->wF z l= -1)/\(0<mv*(z-C9 s l)->wF z l= -1)/\
  (0<mv*(z-s)->mv*(z-C9 s l)<=0->a<wF z l/\wF z l<=C0 a l/\plL l (wF z l)=z/\∀v,a<=v->v<wF z l->mv*(plL l v-z)<0)
 |a,s,d,[],_=>by
  simp only[C9,wF];exact⟨λ_=>trivial,λ_=>trivial,λL M=>absurd L (by omega)⟩
 |a,s,d,c::l,h=>by
  obtain⟨L,M,h3,O,V⟩:=h;obtain⟨i1,Y,S⟩:=Q1s D z V;have N:=Qmc D V;have a1:=XB V;have G:c.bC=mv\/c.bC=0:=by rcases O with O|O<;>simp[O.1]
  simp only[C9,C0];generalize C9 (s+c.bC*c.aR) l=E at*;generalize C0 (a+c.aR) l=A at*;have key : (0 < mv * (z - (s + c.bC * c.aR)) -> mv * (z - E) <= 0 -> wF z (c :: l) = wF z l -> (∀ v, a <= v -> v <= a + c.aR -> mv * (s + c.bC * (v - a) - z) < 0) ->
    a<wF z (c::l)/\wF z (c::l)<=A/\plL (c::l) (wF z (c::l))=z/\∀v,a<=v->v<wF z (c::l)->mv*(plL (c::l) v-z)<0):=by
   intro g1 g2 g3 g4;obtain⟨k1,k2,k3,k4⟩:=S g1 g2;rw[g3];refine⟨by omega,k2,?_,?_⟩
   ·unfold plL;rw[ab];exact k3
   ·intro v T U;unfold plL;by_cases w3:v<=c.at_+c.aR
    ·rw[aa w3,L,M];exact g4 v T (by omega)
    ·rw[ab w3];exact k4 v (by omega) U
  rcases G with G|G
  ·
   have a0:c.bC≠0:=by rcases D with rfl|rfl<;>omega
   rw[G]at i1 S key;by_cases X:0<=(z-s)*mv/\(z-s)*mv<=c.aR
   ·have I:wF z (c::l)=a+(z-s)*mv:=by unfold wF;rw[M,G,L,aa ⟨by omega,X.1,X.2⟩]
    rw[I];refine⟨λg=> ?_,λg=> ?_,λg1 g2=>⟨?_,?_,?_,?_⟩⟩
    ·rcases D with rfl|rfl<;>omega
    ·rw[G]at N;rcases D with rfl|rfl<;>omega
    ·rcases D with rfl|rfl<;>omega
    ·omega
    ·unfold plL;rw[aa,L,M,G];rcases D with rfl|rfl<;>omega
    ·intro v T U;unfold plL;rw[aa,L,M,G];rcases D with rfl|rfl<;>omega
   ·have I:wF z (c::l)=wF z l:=by
     show(if _ then _ else _)=_;rw[M,G,ab λg=>X g.2]
    refine⟨λg=> ?_,λg=> ?_,λg1 g2=> ?_⟩
    ·rw[I];exact i1 (by rcases D with rfl|rfl<;>omega)
    ·rw[I];exact Y g
    ·refine key (by rcases D with rfl|rfl<;>omega) g2 I ?_;intro v T U;rcases D with rfl|rfl<;>omega
  ·have I:wF z (c::l)=wF z l:=by
    show(if _ then _ else _)=_;rw[ab λg=>g.1 G]
   rw[G]at i1 S key;simp only[j4,ja]at i1 S key;refine⟨λg=> ?_,λg=> ?_,λg1 g2=> ?_⟩
   ·rw[I];exact i1 g
   ·rw[I];exact Y g
   ·refine key g1 g2 I ?_;intro v T U;rcases D with rfl|rfl<;>omega
theorem Qym {t:Trk} (h:TQ t) {z:Int} (X:i64 z):∀(k j:Nat),j+k=t.aE.length->wF z (t.aE.drop j)= -1/\Al R8 [I z, .vC Ap (t.aE.map AZ),I t.aE.length,I j]=some (2,[])\/
  Al R8 [I z, .vC Ap (t.aE.map AZ),I t.aE.length,I j]=some (1,[I (wF z (t.aE.drop j))])
 |0,j,hj=>by
  left;rw[dg (by omega)];refine⟨rfl,AJ (o:=(2,_)) ?_ (by simp)⟩;rw[Qze,AQ (by omega)]
 |k+1,j,hj=>by
  have D:j<t.aE.length:=by omega
  have Y:=h.count;have U:(0:Int)<=(j:Int)/\(j:Int)<(t.aE.length:Int):=by omega
  have S:=h.pos j D;have hl:=h.len;have hs:=h.s j D;have a0:=h.bC j D;have e:t.aE.drop j=pcA t.aE j::t.aE.drop (j+1):=by
   have e1:pcA t.aE j=t.aE[j]:=by unfold pcA;simp[D]
   rw[e1];exact KQ _ _ D
  have M:R8 [I z, .vC Ap (t.aE.map AZ),I t.aE.length,I j]=if(pcA t.aE j).bC≠0/\0<=(z-(pcA t.aE j).s)*(pcA t.aE j).bC/\(z-(pcA t.aE j).s)*(pcA t.aE j).bC<=(pcA t.aE j).aR then
    some (1,[I ((pcA t.aE j).at_+(z-(pcA t.aE j).s)*(pcA t.aE j).bC)])else some (0,[I z, .vC Ap (t.aE.map AZ),I t.aE.length,I (j+1:Nat)]):=by
   rw[Qze];simp only[go_sem,ac,ag,Us D,aa U,Ad (x:=(j:Int)+1)];rw[aa];unfold eI at S;unfold i64 at X;generalize pcA t.aE j=c at*;have L:∀y:Int,-9223372036854775808-2000000000000000<=y->y<=9223372036854775807+2000000000000000->(O y=y/\ -9223372036854775808<=y/\y<=9223372036854775807)\/(O y=y+18446744073709551616/\y< -9223372036854775808)\/(O y=y-18446744073709551616/\y>9223372036854775807):=by
    intro y y1 y2;have hw:=Tz y;unfold i64 at hw;by_cases N: -9223372036854775808<=y/\y<=9223372036854775807
    ·exact .inl ⟨Ad N,N⟩
    ·have:=Qdt y;omega
   by_cases V:c.bC=0
   ·have T: ¬(c.bC≠0/\0<=(z-c.s)*c.bC/\(z-c.s)*c.bC<=c.aR):=λg=>g.1 V;rw[ab,ab T];rfl
   ·rw[aa V];have G:c.bC=1\/c.bC= -1:=by omega
    have a1:=L (z-c.s) (by omega) (by omega);have a3:O (O (z-c.s)*c.bC)=(z-c.s)*c.bC\/((O (O (z-c.s)*c.bC)<0\/O (O (z-c.s)*c.bC)>1000000000000000)/\((z-c.s)*c.bC<0\/(z-c.s)*c.bC>1000000000000000)):=by
     generalize O (z-c.s)=y at*;have a2:=L (y*c.bC) (by rcases G with G|G<;>rw[G]<;>omega) (by rcases G with G|G<;>rw[G]<;>omega);rcases G with G|G<;>rw[G]at a2⊢<;>omega
    generalize O (O (z-c.s)*c.bC)=n at*;by_cases N:0<=(z-c.s)*c.bC/\(z-c.s)*c.bC<=c.aR
    ·have en:n=(z-c.s)*c.bC:=by omega
     have T:c.bC≠0/\0<=(z-c.s)*c.bC/\(z-c.s)*c.bC<=c.aR:=⟨V,N⟩;rw[aa T,en,aa N.1,aa N.2,Ad]
    ·have T: ¬(c.bC≠0/\0<=(z-c.s)*c.bC/\(z-c.s)*c.bC<=c.aR):=λg=>N g.2;rw[ab T];by_cases c2:0<=n
     ·rw[aa c2,ab];rfl
     ·rw[ab c2];rfl
  rw[e];by_cases c:(pcA t.aE j).bC≠0/\0<=(z-(pcA t.aE j).s)*(pcA t.aE j).bC/\(z-(pcA t.aE j).s)*(pcA t.aE j).bC<=(pcA t.aE j).aR
  ·rw[aa c]at M;right;rw[AJ M (by simp)];unfold wF;rw[aa c]
  ·rw[ab c]at M;rw[AS M];unfold wF;rw[ab c];exact Qym h X k (j+1) (by omega)
theorem Zoy (h:TQ t) {z:Int} (M:i64 z):NJ (Bu t++[I z])=some [I (Cu t z)]:=by
 have he:=Yi9 LF (t.aE.map AZ) t.length t.aQ t.aT.x t.aT.y t.aT.z z;unfold NJ;refine dc he ?_;unfold Cu;rw[ac];by_cases c:z=t.aQ
 ·rw[aa c,BP (by simp[c])]
 ·rw[ab c,B0 (by simp[c])];rcases Qym h M t.aE.length 0 (by omega)with⟨L,G⟩|G
  ·rw[fj]at L;have D:LF [I z, .vC Ap (t.aE.map AZ),I t.aE.length,I 0]=some (2,[]):=G;generalize LF=N at*;rw[L];simp only[D,go_sem];rfl
  ·rw[fj]at G;have D:LF [I z, .vC Ap (t.aE.map AZ),I t.aE.length,I 0]=some (1,[I (wF z t.aE)]):=G;generalize LF=N at*;simp only[D,go_sem]
end Go.Bm
namespace Go.Bm
theorem Zrt (l:Rw) (h:l.length<=100000):Out (λo=>(wA o 0).length<=l.length) (R9 [.vC Aa l]):=by
 show Out _ (YZ (Al Qux) [.vC Aa l]);rw[Zwg];refine .bind (p:=λo=>o.1=1/\(wA o.2 0).length<=l.length) ?_ λo g=>by rw[g.1];exact .some g.2
 refine DF (λs:Rw×Nat=>[.vC Aa s.1, .vC Aa l,I (s.2:Int)]) (λs=>1<=s.2/\s.2<=l.length+1/\s.1.length+1<=s.2) (λs=>l.length+1-s.2) _ ?_ ([],1) (by simp);rintro⟨v,i⟩ ⟨g1,g2,D⟩;dsimp only at*;rw[Z9b];rw[Ad (x:=(i:Int)-1),Ad (x:=(i:Int)+1)];refine .cond (λc=> ?_) (λc=> ?_)
 ·have c:=Cw c;refine .cond (λ_=> ?_) λc=>by simp at c;omega
  refine .cond (λ_=> ?_) λc=>by simp at c;omega
  refine .cond (λ_=> ?_) λc=>by rw[Dq (by simp;omega)]at c;cases c
  exact .some (.inl ⟨rfl,(_,i+1),rfl,by simp;omega,by simp;omega⟩)
 ·have c:=B5 c;exact .some (.inr ⟨by simp,rfl,by show v.length<=l.length;omega⟩)
theorem Z53 (l:Rw) (n:Int) (h:l.length<=100000):(QP [.vC Aa l,I n]).isSome=true:=by
 show(VX (Al Wp) [.vC Aa l,I n]).isSome=true;rw[Zna];refine Out.is (p:=λ_=>True) ?_;refine .bind (p:=λo=>o.1=1\/o.1=2) ?_ λo g=>by rcases g with g|g<;>rw[g]<;>exact .some trivial
 refine DF (λs:Nat=>[I n, .vC Aa l,I (l.length:Int),I (s:Int)]) (λs=>s<=l.length) (λs=>l.length-s) _ ?_ 0 (by simp);intro i g;rw[Z6t];rw[Ad (x:=(i:Int)+1)];refine .cond (λc=> ?_) (λc=> ?_)
 ·have c:=Cw c;refine .cond (λ_=> ?_) λc=>by simp at c;omega
  refine .cond (λ_=> .some (.inr ⟨by simp, .inl rfl⟩)) λ_=> .cond (λ_=> .some (.inr ⟨by simp, .inl rfl⟩)) λ_=> ?_;exact .some (.inl ⟨rfl,i+1,rfl,by omega,by omega⟩)
 ·exact .some (.inr ⟨by simp, .inr rfl⟩)
theorem Yga (D:∀l:Rw,l.length<=100000->Out (λo=>(wA o 0).length<=l.length) (Z [.vC Aa l])) (hB:∀(l:Rw) n,l.length<=100000->(M [.vC Aa l,I n]).isSome=true)
  (G L N O S T U V X:Int) (Y l:Rw) (h:l.length<=100000):(Qfy M Z [I G,I L,I N,I O,I S,I T,I U,I V,I X, .vC Aa Y, .vC Aa l]).isSome=true:=by
 rw[Yke];obtain⟨a,ha,ga⟩:=D l h;rw[ha];simp only[ai];generalize wA a 0=la at*;obtain⟨b,hb,gb⟩:=D la (by omega);rw[hb];simp only[ai];generalize wA b 0=lb at*;obtain⟨c,hc,gc⟩:=D lb (by omega);rw[hc];simp only[ai];generalize wA c 0=lc at*;refine PY (hB _ _ (by omega)) λ_ _=>Ed (λ_=>rfl) λ_=>PY (hB _ _ (by omega)) λ_ _=>Ed (λ_=>rfl) λ_=>PY (hB _ _ (by omega)) λ_ _=>Ed (λ_=>rfl) λ_=>rfl
theorem Ye1 (D G L M N O S T U:Int) (V l:Rw) (h:l.length<=100000):(My [I D,I G,I L,I M,I N,I O,I S,I T,I U, .vC Aa V, .vC Aa l]).isSome=true:=Yga Zrt Z53 D G L M N O S T U V l h
theorem Zzz {x:Ax3} (O:0<=k/\k<=2) {l out:Rw} (N:out.length=l.length) (S:l.length<=100000):
  Out (λo=>o.1=1/\∃v:Rw,o.2= .vC Aa v:: .vC kPt l::I k::I k::AK x/\v.length=l.length) (Al (L_ M) (.vC Aa out:: .vC kPt l::I k::I k::I (l.length:Int)::I 0::AK x)):=by
 refine DF (λs:Rw×Nat=> .vC Aa s.1:: .vC kPt l::I k::I k::I (l.length:Int)::I (s.2:Int)::AK x) (λs=>s.1.length=l.length/\s.2<=l.length) (λs=>l.length-s.2) _ ?_ (out,0) ⟨N,by simp⟩;rintro⟨v,i⟩ ⟨g1,g2⟩;dsimp only at*;rw[Zyy];rw[Ad (x:=(i:Int)+1)];refine .cond (λc=> ?_) (λc=> ?_)
 ·have c:=Cw c;refine .cond (λ_=> ?_) λc=>by simp at c;omega
  refine .cond (λ_=> ?_) λD=> .cond (λ_=> ?_) λG=> .cond (λ_=> ?_) λL=> ?_
  ·refine .cond (λ_=> ?_) λc=>by simp at c;omega
   exact .some (.inl ⟨rfl,(_,i+1),rfl,by simp;omega,by simp;omega⟩)
  ·refine .cond (λ_=> ?_) λc=>by simp at c;omega
   exact .some (.inl ⟨rfl,(_,i+1),rfl,by simp;omega,by simp;omega⟩)
  ·refine .cond (λ_=> ?_) λc=>by simp at c;omega
   exact .some (.inl ⟨rfl,(_,i+1),rfl,by simp;omega,by simp;omega⟩)
  ·have D:=B5 D;have G:=B5 G;have L:=B5 L
   simp at D G L;omega
 ·exact .some (.inr ⟨by simp,rfl,v,rfl,g1⟩)
theorem Zq0 (hM:∀(D G L N S T U V X:Int) (Y l:Rw),l.length<=100000->(M [I D,I G,I L,I N,I S,I T,I U,I V,I X, .vC Aa Y, .vC Aa l]).isSome=true) (x:Ax3) {l:Rw} (h1:l.length<=100000):
  (TW M (Al (L_ M)) (Al (Ts M (Al (L_ M)))) (AK x++[.vC kPt l])).isSome=true:=by
 show(TW M (Al (L_ M)) (Al (Ts M (Al (L_ M)))) [I x.a.step,I x.a.aS,I x.a.bD,I x.a.bE,I x.a.low,I x.a.aY,I x.a.bB,I x.a.aV,I x.a.aO, .vC Aa (x.a.aW.map At),I x.b.step,I x.b.aS,I x.b.bD,I x.b.bE,I x.b.low,I x.b.aY,I x.b.bB,I x.b.aV,I x.b.aO, .vC Aa (x.b.aW.map At),I x.c.step,I x.c.aS,I x.c.bD,I x.c.bE,I x.c.low,I x.c.aY,I x.c.bB,I x.c.aV,I x.c.aO, .vC Aa (x.c.aW.map At), .vC kPt l]).isSome=true;rw[Zri];refine Out.is (p:=λ_=>True) ?_;refine .bind (p:=λo=>o.1=1\/o.1=2) ?_ λo g=>by rcases g with g|g<;>rw[g]<;>exact .some trivial
 refine DF (λs:Nat=> .vC kPt l::I (s:Int)::AK x) (λs=>s<=3) (λs=>3-s) _ ?_ 0 (by omega);intro k hk;rw[Zua];refine .cond (λc=> ?_) (λc=> ?_)
 ·have c:=Cw c;refine .cond (λ_=> ?_) λc=>by simp at c
  refine .cond (λ_=> ?_) λc=>by simp at c;omega
  refine .bind (Zzz (M:=M) (x:=x) (k:=(k:Int)) (by omega) (by simp) h1) λo g=> ?_;obtain⟨g1,v,g2,g3⟩:=g;obtain⟨o1,o2⟩:=o;subst g1;subst g2;refine .cond (λ_=> ?_) λc=>by simp at c
  have e:O ((k:Int)+1)=((k+1:Nat):Int):=by rw[Ad];rfl
  have hw:∀(D G L N S T U V X:Int) (Y:Rw),(M [I D,I G,I L,I N,I S,I T,I U,I V,I X, .vC Aa Y, .vC Aa v]).isSome=true:=λD G L N S T U V X Y=>hM D G L N S T U V X Y v (by omega);refine .cond (λ_=> ?_) λc0=> .cond (λ_=> ?_) λc1=> .cond (λ_=> ?_) λc2=> ?_
  ·refine .ibind (hw _ _ _ _ _ _ _ _ _ _) λ_ _=> .cond (λ_=> .some (.inr ⟨by simp, .inl rfl⟩)) λ_=> .some (.inl ⟨rfl,k+1,?_,by omega,by omega⟩);simp only[gA,wA,bA,jA,nth,Ah,AW,e]
  ·refine .ibind (hw _ _ _ _ _ _ _ _ _ _) λ_ _=> .cond (λ_=> .some (.inr ⟨by simp, .inl rfl⟩)) λ_=> .some (.inl ⟨rfl,k+1,?_,by omega,by omega⟩);simp only[gA,wA,bA,jA,nth,Ah,AW,e]
  ·refine .ibind (hw _ _ _ _ _ _ _ _ _ _) λ_ _=> .cond (λ_=> .some (.inr ⟨by simp, .inl rfl⟩)) λ_=> .some (.inl ⟨rfl,k+1,?_,by omega,by omega⟩);simp only[gA,wA,bA,jA,nth,Ah,AW,e]
  ·have c0:=B5 c0;have c1:=B5 c1;have c2:=B5 c2
   simp[gA,wA,bA,jA,nth,Ah]at c0 c1 c2;omega
 ·exact .some (.inr ⟨by simp, .inr rfl⟩)
theorem Zx9 (x:Ax3) {l:Rw} (D:l.length<=100000):(NC (AK x++[.vC kPt l])).isSome=true:=Zq0 Ye1 x D
theorem Zha (u:Int):(IY [I u]).isSome=true:=by
 show(Qsa [I u]).isSome=true;rw[Ygr];exact Ed (λ_=>rfl) λ_=>rfl
structure Fix (p : Pth) (x : Ax3) (t : Trk) : Prop where
 p:GoodPath p
 x:Ax3M x
 t:TH t
theorem Ta {x:Ax3} (h:Fix p x t) (u:Int):Fc (pxt p x t [I u])=some (ptR (KY p x t u)):=Yha h.p h.x h.t u
theorem Ydq {x:Ax3} (L:∀{l:Rw},l.length<=100000->(M (AK x++[.vC kPt l])).isSome=true) (N:∀u,(Z (pxt p x t [I u])).isSome=true) (O:∀u,(W [I u]).isSome=true) {way:Rw} (S:way.length<=100000):
  (Qi6 M Z W (Al (Qbn M Z W)) (pxt p x t [.vC Aa way])).isSome=true:=by
 rw[Zr5];refine Out.is (p:=λ_=>True) ?_;refine .bind (p:=λo=>o.1=1\/o.1=2) ?_ λo g=>by rcases g with g|g<;>rw[g]<;>exact .some trivial
 refine DF (λs:Rw×Nat=> .vC kPt s.1:: .vC Aa way::I (way.length:Int)::I (s.2:Int)::pxt p x t []) (λs=>s.1.length<=4/\s.2<=way.length) (λs=>way.length-s.2) _ ?_ ([],0) (by simp);rintro⟨v,i⟩ ⟨g1,g2⟩;dsimp only at g1 g2;rw[Z9e];try dsimp only[D]
 rw[Ad (x:=(i:Int)+1)];refine .cond (λc=> ?_) (λc=> ?_)
 ·have c:=Cw c;refine .cond (λ_=> ?_) λc=>by simp at c;omega
  refine .ibind (O _) λa _=> .ibind (N _) λb _=> ?_;refine .cond (λ_=> ?_) λc=>by rw[Dq (by simp;omega)]at c;cases c
  generalize [jA b 0,jA b 1,jA b 2]=q;refine .cond (λ_=> ?_) λG=> ?_
  ·refine .cond (λ_=> ?_) λc=>by simp at c;omega
   refine .cond (λ_=> ?_) λc=>by rw[Dq (by simp)]at c;cases c
   refine .ibind (L (l:=List.drop (Int.toNat 1) (v++[q])) (by simp;omega)) λ_ _=> .cond (λ_=> .some (.inr ⟨by simp, .inl rfl⟩)) λ_=> ?_;exact .some (.inl ⟨rfl,(_,i+1),rfl,by simp;omega,by simp;omega⟩)
  ·have G:=B5 G;simp at G;refine .ibind (L (l:=v++[q]) (by simp;omega)) λ_ _=> .cond (λ_=> .some (.inr ⟨by simp, .inl rfl⟩)) λ_=> ?_;exact .some (.inl ⟨rfl,(_,i+1),rfl,by simp;omega,by simp;omega⟩)
 ·exact .some (.inr ⟨by simp, .inr rfl⟩)
theorem Zsy {x:Ax3} (h:Fix p x t) {way:Rw} (D:way.length<=100000):(Rk (pxt p x t [.vC Aa way])).isSome=true:=
 Ydq (Zx9 x) (λu=>by rw[Ta h u];rfl) Zha D
theorem Zs4 {x:Ax3} (G:∀{way:Rw},way.length<=100000->(M (pxt p x t [.vC Aa way])).isSome=true)
  (L:∀a b c N O S T U V,Out (λo=>(wA o 0).length<=4096) (Z [I a,I b,I c,I N,I O,I S,I T,I U,I V])) (a b c m0 m1 m2 m3 m4 m5 l:Int):
  (Qcm M Z (pxt p x t [I a,I b,I c,I m0,I m1,I m2,I m3,I m4,I m5,I l])).isSome=true:=by
 rw[Zmg];obtain⟨o,X,Y⟩:=L a b c m0 m1 m2 m3 m4 m5;rw[X];simp only[ai];generalize wA o 0=D at*;refine Ed (λ_=>rfl) λ_=>Ed (λc=> ?_) λc=> ?_
 ·have c:=Cw c;rw[Ad (x:=(D.length:Int)-1)];refine Ed (λ_=> ?_) λc=>by simp at c;omega
  generalize Ah (nth .vD (nth [] D ((D.length:Int)-1).toNat) 0)=e;refine Ed (λ_=>rfl) λ_=> ?_;refine Ed (λ_=> ?_) λc=>by rw[Dq (by simp;omega)]at c;cases c
  refine Ed (λ_=> ?_) λc=>by rw[Dq (by simp;omega)]at c;cases c
  exact PY (G (by simp;omega)) λ_ _=>rfl
 ·refine Ed (λ_=>rfl) λ_=> ?_;refine Ed (λ_=> ?_) λc=>by rw[Dq (by simp;omega)]at c;cases c
  refine Ed (λ_=> ?_) λc=>by rw[Dq (by simp;omega)]at c;cases c
  exact PY (G (by simp;omega)) λ_ _=>rfl
theorem Ztl {x:Ax3} (h:Fix p x t) (a b c m0 m1 m2 m3 m4 m5 l:Int):(OM (pxt p x t [I a,I b,I c,I m0,I m1,I m2,I m3,I m4,I m5,I l])).isSome=true:=
 Zs4 (Zsy h) Qtw a b c m0 m1 m2 m3 m4 m5 l
theorem Qta {x:Ax3} (h:Fix p x t) (u:Int):i64 (A6 t u):=by
 have:=Q39 h.t.q u;unfold i64;omega
theorem Qdf:∀(l:List Sgm) (s:Int),l≠[]->(Bi l s).1<l.length
 |[],_,h=>absurd rfl h
 |[g],s,_=>by unfold Bi;split<;>simp
 |g::h::l,s,_=>by
  by_cases c:s<g.len
  ·rw[Bi,aa c];simp
  ·rw[Zgg c];have:=Qdf (h::l) (s-g.len) (by simp);simp at this⊢;omega
theorem Ycl {x:Ax3} (h:Fix p x t) {s:Int} (D:i64 s):∃i v:Int,EL (Bj p++[I s])=some [I i,I v]/\(i= -1\/0<=i/\i<p.aF.length)/\(p.aF≠[]->0<=i):=by
 rw[V6 (h.p.ok) D];by_cases c:p.aF=[]
 ·rw[aa c];exact⟨-1,0,rfl, .inl rfl,λh=>absurd c h⟩
 ·rw[ab c];have:=Qdf p.aF (max s 0) c;exact⟨_,_,rfl, .inr ⟨by omega,by omega⟩,λ_=>by omega⟩
theorem Yev (I:j<i*4294967296+A) (L:R<4294967296) (D:j=J*i+P) (h:4294967296<=J\/P*4294967296+R<J*A):(j*4294967296+R)/(i*4294967296+A)<J:=by
 have G:0<i*4294967296+A:=by omega
 rw[fm G];rcases h with h|h
 ·have M:4294967296*(i*4294967296+A)<=J*(i*4294967296+A):=bg _ h;omega
 ·have e:J*(i*4294967296+A)=J*i*4294967296+J*A:=by rw[jg,dz]
  rw[e];clear e;generalize J*i=p at*;generalize J*A=t at*;subst D;rw[dh p P 4294967296,dl];exact Nat.add_lt_add_left h _
theorem Q4c {a b v u q r:Nat} (G:v<a*4294967296+b) (I:v=q*a+r) (h:q*b<=r*4294967296+u):q<=(v*4294967296+u)/(a*4294967296+b):=by
 have D:0<a*4294967296+b:=by omega
 rw[Nat.le_div_iff_mul_le D];have e:q*(a*4294967296+b)=q*a*4294967296+q*b:=by rw[jg,dz]
 rw[e];generalize q*a=p at*;generalize q*b=t at*;omega
theorem Q8f (D:j<i*4294967296+A) (G:R<4294967296):(j*4294967296+R)/(i*4294967296+A)<4294967296:=by
 rw[fm (by omega)];omega
theorem Qv0 {q b:Nat} (D:q<4294967296) (hb:b<4294967296):q*b<=18446744065119617025:=by
 have:=cy (show q<=4294967295 by omega) (show b<=4294967295 by omega);omega
theorem Wg {α:Type} {F G:Nat->Nat->Option α} {a b v u Q:Nat} (D:(v*4294967296+u)/(a*4294967296+b)=Q) (hb:b<4294967296) (V:2147483648<=a) (L:a<4294967296) (I:v<a*4294967296+b) (O:u<4294967296) {X:α}
  (S:∀q r:Nat,q<=4294967297->r<4294967296->F q r=if 4294967296<=q\/r*4294967296+u<q*b then(if 4294967296<=r+a then G (q-1) 0 else F (q-1) (r+a))else G q 0)
  (M:G Q 0=some X):∀(k q r:Nat),q<=Q+k->Q<=q->v=q*a+r->r<4294967296->q<=4294967297->F q r=some X
 |k,q,r,hk,h1,T,Y,h4=>by
  rw[S q r h4 Y];by_cases c:4294967296<=q\/r*4294967296+u<q*b
  ·rw[aa c];have h5:=Yev I O T c;rw[D]at h5;have e:v=(q-1)*a+(r+a):=by
    have:(q-1)*a+a=q*a:=by rw[<-gn];congr 1;omega
    omega
   by_cases U:4294967296<=r+a
   ·rw[aa U];have h6:(q-1)*b<=(r+a)*4294967296+u:=by
     have:=cy (show q-1<=4294967296 by omega) (show b<=4294967296 by omega);omega
    have N:=Q4c I e h6;rw[D]at N;rw[show q-1=Q by omega];exact M
   ·rw[ab U]
    match k with
    |0=>omega
    |k+1=>exact Wg D hb V L I O S M k (q-1) (r+a) (by omega) (by omega) e (by omega) (by omega)
  ·rw[ab c];have N:=Q4c (u:=u) I T (by omega);rw[D]at N;rw[show q=Q by omega];exact M
theorem Zbl (hb:A<4294967296) (G:2147483648<=i) (I:j<i*4294967296+A) (L:R<4294967296):(j*4294967296+R)/(i*4294967296+A)<=j/i/\j/i<=4294967297/\j=j/i*i+j%i/\j%i<i:=by
 have e:j=j/i*i+j%i:=by have:=fu j i;rw[cx]at this;omega
 have D:j%i<i:=gr _ (by omega);refine⟨?_,?_,e,D⟩
 ·rw[<-Nat.lt_succ_iff,fm (by omega)];have e2:(j/i).succ*(i*4294967296+A)=(j/i*i+i)*4294967296+(j/i).succ*A:=by rw[jg,<-dz,gn]
  rw[e2];omega
 ·rw[<-Nat.lt_succ_iff,fm (by omega)];omega
theorem wr {x:Nat} (h:x<=18446744073709551615):wrap .u64 (x:Int)=x:=B8 (by omega)
theorem Z7i {y s v0:Int} (hb:A<4294967296) (T:2147483648<=i) (L:i<4294967296) (V:j<i*4294967296+A) (X:R<4294967296):
  Al (L4 M) [U y,U s,U i,U A,U j,U R,U v0,U ((j/i:Nat):Int),U ((j%i:Nat):Int)]=some (1,[U y,U s,U i,U A,U j,U R,U v0,U (((j*4294967296+R)/(i*4294967296+A):Nat):Int)]):=by
 obtain⟨Y,f2,f3,f4⟩:=Zbl hb T V X;refine Wg (F:=λq r=>Al (L4 M) [U y,U s,U i,U A,U j,U R,U v0,U q,U r]) (G:=λq _=>some (1,[U y,U s,U i,U A,U j,U R,U v0,U q])) rfl hb T L V X ?_ rfl (j/i) _ _ (Nat.le_add_left _ _) Y f3 (by omega) f2;intro q r hq hr;have w1:wrap .u64 ((r:Int)+(i:Int))=((r+i:Nat):Int):=by rw[<-ic,wr (by omega)]
 have w3:wrap .u64 (wrap .u64 (4294967296*(r:Int))+(R:Int))=((r*4294967296+R:Nat):Int):=by rw[show(4294967296:Int)*r=((r*4294967296:Nat):Int) by omega,wr (by omega),<-ic,wr (by omega)]
 have w4:4294967296<=q->wrap .u64 ((q:Int)-1)=((q-1:Nat):Int):=λh=>by rw[show(q:Int)-1=((q-1:Nat):Int) by omega,wr (by omega)]
 have D:=Zwy (DQ:=M) y s i A j R v0 q r;rw[w1,w3]at D;by_cases N:4294967296<=q
 ·rw[Cp (show(q:Int)>=4294967296 by omega),w4 N]at D;show _=if _ then _ else _;rw[aa (.inl N)];by_cases I:4294967296<=r+i
  ·rw[Cp (show((r+i:Nat):Int)>=4294967296 by omega)]at D;rw[aa I];exact AJ D (by simp)
  ·rw[AQ (show¬((r+i:Nat):Int)>=4294967296 by omega)]at D;rw[ab I];exact AS D
 ·have O:=Qv0 (q:=q) (b:=A) (by omega) hb;rw[AQ (show¬(q:Int)>=4294967296 by omega),<-cq,wr (bm O (by decide))]at D;show _=if _ then _ else _;by_cases S:r*4294967296+R<q*A
  ·rw[Cp (show((q*A:Nat):Int)>((r*4294967296+R:Nat):Int) by omega)]at D;rw[aa (.inr S)];have a0:0<q:=by
    rcases dx q with h|h
    ·rw[h]at S;omega
    ·exact h
   rw[show(q:Int)-1=((q-1:Nat):Int) by omega,wr (by omega)]at D;by_cases I:4294967296<=r+i
   ·rw[Cp (show((r+i:Nat):Int)>=4294967296 by omega)]at D;rw[aa I];exact AJ D (by simp)
   ·rw[AQ (show¬((r+i:Nat):Int)>=4294967296 by omega)]at D;rw[ab I];exact AS D
  ·rw[AQ (show¬((q*A:Nat):Int)>((r*4294967296+R:Nat):Int) by omega)]at D;rw[ab (λh=>h.elim N S)];exact AJ D (by simp)
theorem Z5l {y s q1 w:Int} (hb:A<4294967296) (V:2147483648<=i) (L:i<4294967296) (X:j<i*4294967296+A) (Y:R<4294967296):
  Al (Qb M N) [U y,U s,U i,U A,U R,U q1,U ((j%i:Nat):Int),U w,U ((j/i:Nat):Int)]=some (1,[U y,U s,U R,U q1,U w,U (((j*4294967296+R)/(i*4294967296+A):Nat):Int)]):=by
 obtain⟨f1,f2,f3,f4⟩:=Zbl hb V X Y;refine Wg (F:=λq r=>Al (Qb M N) [U y,U s,U i,U A,U R,U q1,U r,U w,U q]) (G:=λq _=>some (1,[U y,U s,U R,U q1,U w,U q])) rfl hb V L X Y ?_ rfl (j/i) _ _ (Nat.le_add_left _ _) f1 f3 (by omega) f2;intro q r hq hr;have w1:wrap .u64 ((r:Int)+(i:Int))=((r+i:Nat):Int):=by rw[<-ic,wr (by omega)]
 have w3:wrap .u64 (wrap .u64 (4294967296*(r:Int))+(R:Int))=((r*4294967296+R:Nat):Int):=by rw[show(4294967296:Int)*r=((r*4294967296:Nat):Int) by omega,wr (by omega),<-ic,wr (by omega)]
 have w4:4294967296<=q->wrap .u64 ((q:Int)-1)=((q-1:Nat):Int):=λh=>by rw[show(q:Int)-1=((q-1:Nat):Int) by omega,wr (by omega)]
 have D:=Zu2 (DQ:=M) (N17:=N) y s i A R q1 r w q;rw[w1,w3]at D;by_cases O:4294967296<=q
 ·rw[Cp (show(q:Int)>=4294967296 by omega),w4 O]at D;show _=if _ then _ else _;rw[aa (.inl O)];by_cases I:4294967296<=r+i
  ·rw[Cp (show((r+i:Nat):Int)>=4294967296 by omega)]at D;rw[aa I];exact AJ D (by simp)
  ·rw[AQ (show¬((r+i:Nat):Int)>=4294967296 by omega)]at D;rw[ab I];exact AS D
 ·have S:=Qv0 (q:=q) (b:=A) (by omega) hb;rw[AQ (show¬(q:Int)>=4294967296 by omega),<-cq,wr (bm S (by decide))]at D;show _=if _ then _ else _;by_cases T:r*4294967296+R<q*A
  ·rw[Cp (show((q*A:Nat):Int)>((r*4294967296+R:Nat):Int) by omega)]at D;rw[aa (.inr T)];have a0:0<q:=by
    rcases dx q with h|h
    ·rw[h]at T;omega
    ·exact h
   rw[show(q:Int)-1=((q-1:Nat):Int) by omega,wr (by omega)]at D;by_cases I:4294967296<=r+i
   ·rw[Cp (show((r+i:Nat):Int)>=4294967296 by omega)]at D;rw[aa I];exact AJ D (by simp)
   ·rw[AQ (show¬((r+i:Nat):Int)>=4294967296 by omega)]at D;rw[ab I];exact AS D
  ·rw[AQ (show¬((q*A:Nat):Int)>((r*4294967296+R:Nat):Int) by omega)]at D;rw[ab (λh=>h.elim O T)];exact AJ D (by simp)
theorem Q8w {s:Nat} (D:s<=63):(2:Int)^min (Int.toNat (s:Int)) IntKind.u64.bits=((2^s:Nat):Int):=by
 have e:min (Int.toNat (s:Int)) IntKind.u64.bits=s:=by
  show min (Int.toNat (s:Int)) 64=s;omega
 rw[e];simp
theorem Yc4 {s:Nat} (D:s<=63):(2:Int)^min (Int.toNat ((64-s:Nat):Int)) IntKind.u64.bits=((2^(64-s):Nat):Int):=by
 have e:min (Int.toNat ((64-s:Nat):Int)) IntKind.u64.bits=64-s:=by
  show min (Int.toNat ((64-s:Nat):Int)) 64=64-s;omega
 rw[e];simp
theorem Zby (x y:Nat):((x:Int)).fdiv (y:Int)=((x/y:Nat):Int):=by
 rw[dy _ (by omega)];rfl
theorem Qao (x y:Nat):((x:Int)).tdiv (y:Int)=((x/y:Nat):Int):=by
 rw[cz (by omega)];rfl
theorem orP {A B s:Nat} (hB:B<2^s) (h:A*2^s+B<w64):wrap .u64 (((BitVec.ofInt IntKind.u64.bits ((A*2^s:Nat):Int)|||BitVec.ofInt IntKind.u64.bits (B:Int)).toNat:Nat):Int)=((A*2^s+B:Nat):Int):=by
 rw[A_]at h;have e:(BitVec.ofInt IntKind.u64.bits ((A*2^s:Nat):Int)|||BitVec.ofInt IntKind.u64.bits (B:Int)).toNat=A*2^s+B:=by
  rw[BitVec.toNat_or];have e1:∀v:Nat,v<18446744073709551616->(BitVec.ofInt IntKind.u64.bits (v:Int)).toNat=v:=by
   intro v D;simp only[IntKind.bits,gw];omega
  have:=(jp hB A).symm;rw[cx]at this;generalize A*2^s=X at*;rw[e1 _ (by omega),e1 _ (by omega)];exact this
 rw[e,wr (by omega)]
theorem Q7d {v u D y:Nat} (I:y<w64) (L:D=(v*4294967296+u)/y) (G:0<y):wrap .u64 (wrap .u64 (wrap .u64 ((v:Int)*4294967296)+(u:Int))-wrap .u64 ((D:Int)*(y:Int)))=(((v*4294967296+u)%y:Nat):Int):=by
 have M:=fu (v*4294967296+u) y;have N:=gr (v*4294967296+u) G;rw[<-L,cx]at M;rw[A_]at I;rw[LC,LC,LC,LC,<-cq];generalize D*y=p at*;generalize(v*4294967296+u)%y=r at*;omega
theorem Zdg (D:0<A) (G:i<w64):wrap .u64 ((i:Int)-wrap .u64 (wrap .u64 ((i/A:Nat):Int)*(A:Int)))=((i%A:Nat):Int):=by
 have I:=fu i A;have L:=gr i D;have M:=gp i A;rw[A_]at G;rw[wr (x:=i/A) (by omega),<-cq];rw[cx]at I;generalize i/A*A=p at*;generalize i%A=r at*;rw[wr (x:=p) (by omega),show(i:Int)-(p:Int)=(r:Int) by omega,wr (by omega)]
theorem Yf1 {v u1 u0 Y:Nat} (D:0<Y):(v*w64+(u1*4294967296+u0))/Y=(v*4294967296+u1)/Y*4294967296+((v*4294967296+u1)%Y*4294967296+u0)/Y/\
  (v*w64+(u1*4294967296+u0))%Y=((v*4294967296+u1)%Y*4294967296+u0)%Y:=by
 have e:v*w64+(u1*4294967296+u0)=((v*4294967296+u1)%Y*4294967296+u0)+(v*4294967296+u1)/Y*4294967296*Y:=by
  have h:=fu (v*4294967296+u1) Y;rw[cx]at h;rw[A_];generalize(v*4294967296+u1)%Y=r at*;have e2:(v*4294967296+u1)/Y*4294967296*Y=(v*4294967296+u1)/Y*Y*4294967296:=by rw[dz,cx 4294967296,<-dz]
  rw[e2];generalize(v*4294967296+u1)/Y*Y=p at*;omega
 rw[e,Nat.add_mul_div_right _ _ D,Nat.add_mul_mod_self_right];exact⟨j0 _ _,rfl⟩
theorem Z3l {D lo y s:Nat} (h0:0<D) (h1:D<y) (a9:y<w64) (a5:lo<w64) (hs:s<=63) (h2:9223372036854775808<=y*2^s) (G:y*2^s<w64) (hM:M [U y]=some [I s]):
  Qgb M (Al (L4 M)) (Al (Qb M (Al (L4 M)))) [U D,U lo,U y]=some [U (((D*w64+lo)/y:Nat):Int),U (((D*w64+lo)%y:Nat):Int)]:=by
 have hP:0<2^s:=eg _;have a1:2^s*2^(64-s)=w64:=by rw[A_,<-Nat.pow_add,show s+(64-s)=64 by omega]
 have hT:0<2^(64-s):=eg _;have es:wrap .u64 (s:Int)=s:=wr (by omega);have et:wrap .u64 (64-(s:Int))=((64-s:Nat):Int):=by rw[show(64:Int)-s=((64-s:Nat):Int) by omega,wr (by omega)]
 have hB:lo/2^(64-s)<2^s:=by rw[fm hT,a1];exact a5
 have hv:D*2^s+lo/2^(64-s)<y*2^s:=by
  have:D*2^s+2^s<=y*2^s:=by rw[<-gn];exact bg _ h1
  omega
 have hN:(D*w64+lo)*2^s=(D*2^s+lo/2^(64-s))*w64+lo*2^s%w64:=by
  have e1:lo*2^s/w64=lo/2^(64-s):=by
   rw[<-a1,cx lo,Nat.mul_div_mul_left _ _ hP]
  have e2:=fu (lo*2^s) w64;rw[e1]at e2;rw[dh,dh,dl,cx (lo/2^(64-s)),e2];congr 1;rw[dz,cx w64,dz]
 have hU:lo*2^s%w64<w64:=gr _ Sg;have ey:wrap .u64 ((y:Int)*((2^s:Nat):Int))=((y*2^s:Nat):Int):=by rw[<-cq,wr (Nat.le_of_lt_succ (by rw[A_]at G;exact G))]
 have eh:wrap .u64 ((D:Int)*((2^s:Nat):Int))=((D*2^s:Nat):Int):=by
  rw[<-cq,wr (Nat.le_of_lt_succ (by have:=ew h1 hP;rw[A_]at G;exact Nat.lt_trans this G))]
 have el:wrap .u64 ((lo:Int)*((2^s:Nat):Int))=((lo*2^s%w64:Nat):Int):=by
  rw[<-cq,LC,A_];rfl
 have eo:=orP (A:=D) (B:=lo/2^(64-s)) (s:=s) hB (by omega);have hq:(D*w64+lo)/y=(D*w64+lo)*2^s/(y*2^s):=(Nat.mul_div_mul_right _ _ hP).symm;have hr:(D*w64+lo)%y=(D*w64+lo)*2^s%(y*2^s)/2^s:=by rw[Nat.mul_mod_mul_right,Nat.mul_div_cancel _ hP]
 rw[hq,hr,hN];rw[Q44];simp only[hM,ai,F0,KX,KA,Pb,Ql,UO,Qh0,Qf8,FP,gA,jA,wA,bA,es,et,Q8w hs,Yc4 hs,ey,eh,el,Zby,eo];rw[B0 (by simp;omega),AQ (show¬(y:Int)<=D by omega),B0 (by simp;omega),AQ (show¬(s:Int)<0 by omega),AQ (show¬(s:Int)<0 by omega),AQ (show¬((64-s:Nat):Int)<0 by omega),AQ (show¬(s:Int)<0 by omega)];rw[LO,OF _ G,LO,OF _ hU];have T:y*2^s=y*2^s/4294967296*4294967296+y*2^s%4294967296:=by omega
 have hW:lo*2^s%w64=lo*2^s%w64/4294967296*4294967296+lo*2^s%w64%4294967296:=by omega
 have hb:y*2^s%4294967296<4294967296:=gr _ (by omega);have a2:lo*2^s%w64%4294967296<4294967296:=gr _ (by omega);have a3:lo*2^s%w64/4294967296<4294967296:=by rw[A_]at hU⊢;omega
 have ha:2147483648<=y*2^s/4294967296:=by omega
 have a4:y*2^s/4294967296<4294967296:=by rw[A_]at G;omega
 clear hN hq hr eh el eo ey hB;generalize D*2^s+lo/2^(64-s)=v at*;generalize lo*2^s%w64=w at*;generalize y*2^s=Y at*;generalize w/4294967296=u1 at*;generalize w%4294967296=u0 at*;generalize Y/4294967296=a at*;generalize Y%4294967296=b at*;subst hW;rw[AQ (show¬(a:Int)=0 by omega),Qao,Zdg (by omega) (Nat.lt_trans hv G),wr (x:=v/a) (by have:=gp v a;rw[A_]at G;omega)];have hl:=Z7i (M:=M) (y:=(Y:Int)) (s:=s) (v0:=u0) hb ha a4 (by rw[<-T];exact hv) a3;rw[hl];rw[<-T];have L:0<Y:=by omega
 have V:=Q7d (v:=v) (u:=u1) (y:=Y) G rfl L;have a6:(v*4294967296+u1)/Y<4294967296:=by rw[T];exact Q8f (by rw[<-T];exact hv) a3
 have O:=gr (v*4294967296+u1) L;obtain⟨k1,k2⟩:=Yf1 (v:=v) (u1:=u1) (u0:=u0) L;rw[k1,k2];clear hl k1 k2;obtain⟨X,g1⟩:∃X,(v*4294967296+u1)/Y=X:=⟨_,rfl⟩;obtain⟨S,g2⟩:∃S,(v*4294967296+u1)%Y=S:=⟨_,rfl⟩;rw[g1]at V a6⊢;rw[g2]at V O⊢;simp only[ai,F0,KX,KA,Pb,Ql,UO,Qh0,Qf8,FP,V];rw[show Nat.beq 1 1=true from rfl,ah,AQ (show¬(a:Int)=0 by omega),Qao,Zdg (by omega) (Nat.lt_trans O G),wr (x:=S/a) (by have:=gp S a;rw[A_]at G;omega)];have a7:=Z5l (M:=M) (N:=Al (L4 M)) (y:=(Y:Int)) (s:=s) (q1:=X) (w:=S) hb ha a4 (by rw[<-T];exact O) a2;rw[a7];rw[<-T];have a0:=Q7d (v:=S) (u:=u0) (y:=Y) G rfl L;have a8:(S*4294967296+u0)/Y<4294967296:=by rw[T];exact Q8f (by rw[<-T];exact O) a2
 obtain⟨q0,g3⟩:∃q0,(S*4294967296+u0)/Y=q0:=⟨_,rfl⟩;obtain⟨r0,g4⟩:∃r0,(S*4294967296+u0)%Y=r0:=⟨_,rfl⟩;rw[g3]at a0 a8⊢;rw[g4]at a0⊢;simp only[ai,F0,KX,KA,Pb,Ql,UO,FP,a0];rw[show Nat.beq 1 1=true from rfl,ah,AQ (show¬(s:Int)<0 by omega),Q8w hs,Zby];have w1:wrap .u64 (wrap .u64 ((X:Int)*4294967296)+(q0:Int))=((X*4294967296+q0:Nat):Int):=by
  rw[show(X:Int)*4294967296=((X*4294967296:Nat):Int) by omega,wr (by omega),<-ic,wr (by omega)]
 rw[w1]
theorem Z2p (S:0<i) (h:i<w64):∃s:Nat,IS [U i]=some [I s]/\s<=63/\9223372036854775808<=i*2^s/\i*2^s<w64:=by
 have G:=A_;obtain⟨b1,b2,b3⟩:=Lib.bitLenAux_bounds 64 i (by rw[<-show w64=2^64 by rw[G]];exact h) (by omega);have N:Lib.bitLen i=Lib.bitLenAux 64 i:=rfl;generalize hb:Lib.bitLenAux 64 i=L at*;have M:L<=64:=by
  by_cases c:L<=64
  ·exact c
  ·have:=Nat.pow_le_pow_right (show 0<2 by omega) (show 64<=L-1 by omega);rw[show(2:Nat)^64=18446744073709551616 from rfl]at this;omega
 refine⟨64-L,?_,by omega,?_,?_⟩
 ·unfold IS;have D:FQ=18446744073709551616:=rfl;have O:inU (i:Int)=true:=by
   simp only[inU,D,al,bz];omega
  simp only[F0,FP,gA,jA,wA,bA,O,ah,ag,N];rw[show(64:Int)-(L:Int)=((64-L:Nat):Int) by omega]
 ·have e:2^(L-1)*2^(64-L)=9223372036854775808:=by rw[<-Nat.pow_add,show L-1+(64-L)=63 by omega]
  rw[<-e];exact bg _ b2
 ·have e:2^L*2^(64-L)=w64:=by rw[<-Nat.pow_add,show L+(64-L)=64 by omega,G]
  rw[<-e];exact ew b3 (eg _)
theorem Ygq (G:i<j) (I:j<w64) (D:A<w64):GX [U i,U A,U j]=some [U (((i*w64+A)/j:Nat):Int),U (((i*w64+A)%j:Nat):Int)]:=by
 rcases dx i with h|h
 ·subst h;rw[iq,dt];exact Ze8 D G
 ·obtain⟨s,e,e1,e2,e3⟩:=Z2p (show 0<j by omega) I;exact Z3l h G I D e1 e2 e3 e
structure Plan3 (a b c : Int) : Prop where
 a:1<=a/\a<=65536
 b:2<=b/\b<=65536
 c:1<=c/\c<=16777216
abbrev La (m0 m1 m3 m4 v:Int):List AC:=[I (O (m0+v)),I v,I (O (v-m1)),I m0,I m3,I m4]
theorem Yet (m0 m1 m2 m3 m4 m5 v:Int):Ps [I m0,I m1,I m2,I m3,I m4,I m5,I v]=some (La m0 m1 m3 m4 v):=by
 show V5 [I m0,I m1,I m2,I m3,I m4,I m5,I v]=some (La m0 m1 m3 m4 v);rw[Ydh]
theorem Gl (a:AC) (l:List AC):nth .vD (a::l) 0=a:=rfl
theorem LU (a:AC) (l:List AC) (n:Nat):nth .vD (a::l) (n+1)=nth .vD l n:=rfl
theorem JP (n:Int):Ah (.int .i64 n)=n:=rfl
def Zgk (k b:Int):Int:=if b<=0 then 0 else(b-1)/k*b-k*((b-1)/k*((b-1)/k+1)/2)
def Q8a (j k v a:Int):Prop:= -j<=a/\a<=j/\Zgk k (-a)<=v/\v<=16777216-Zgk k a/\(v=0->a<=k)
instance (j k v a:Int):Decidable (Q8a j k v a):=by unfold Q8a;infer_instance
end Go.Bm
noncomputable section
namespace Go.Bm
theorem Yfk {α:Type} (l:List α) (x y:α) (r:List α):(l++x::r).set l.length y=l++y::r:=by
 rw[List.set_append_right _ _ (cg _)];simp
def Jk (j:Int) (l:Rw):Prop:=∀r∈l,-j<=gA r 0/\gA r 0<=j
theorem Jk.snoc {r:List AC} (h:Jk u l) (G: -u<=gA r 0/\gA r 0<=u):Jk u (l++[r]):=λx D=>by
 rcases bt.1 D with D|D
 ·exact h x D
 ·rw[ff]at D;subst D;exact G
theorem Z0x (G:0<=u/\u<=65536):Out (λo=>o.1=1/\(wA o.2 0).length<=65536/\Jk u (wA o.2 0)) (Al Ru [.vC Aa [],I u]):=by
 refine DF (λs:Rw×Int=>[.vC Aa s.1,I s.2]) (λs=>0<=s.2/\s.2<=u/\s.1.length+s.2<=65536/\Jk u s.1) (λs=>s.2.toNat) _ ?_ ([],u) ⟨G.1,gk _,by simp;omega,λr h=>by cases h⟩;rintro⟨v,k⟩ ⟨g1,g0,g2,D⟩;dsimp only at g0 g1 g2 D;rw[Zpy,cz g1,Ad (x:=k/2)];refine .cond (λc=> ?_) (λc=> ?_)
 ·have c:=Cw c;refine .cond (λ_=> ?_) λc=>by rw[Dq (by simp;omega)]at c;cases c
  exact .some (.inl ⟨rfl,(v++[[I k]],k/2),rfl,⟨by dsimp only;omega,by dsimp only;omega,by simp;omega,D.snoc (by show-u<=k/\k<=u;omega)⟩,by dsimp only;omega⟩)
 ·exact .some (.inr ⟨by simp,rfl,by show v.length<=65536;omega,D⟩)
theorem Zj2 {up out:Rw} (S:0<=u/\u<=65536) (T:up.length<=65536) (G:Jk u up) (U:out.length=up.length+1) (L:Jk u out):Out (λo=>o.1=1/\(wA o.2 0).length<=140000/\Jk u (wA o.2 0)) (Al (Sr N) [.vC Aa up, .vC Aa out,I ((up.length:Int)-1)]):=by
 refine DF (λs:Rw×Int=>[.vC Aa up, .vC Aa s.1,I s.2]) (λs=> -1<=s.2/\s.2<up.length/\s.1.length+s.2<=2*up.length/\Jk u s.1) (λs=>(s.2+1).toNat) _ ?_ (out,(up.length:Int)-1) ⟨by simp only;omega,by simp only;omega,by simp only;omega,L⟩;rintro⟨v,k⟩ ⟨g1,g2,M,D⟩;dsimp only at g1 g2 M D;rw[Z9y,Ad (x:=k-1)];refine .cond (λc=> ?_) (λc=> ?_)
 ·have c:=Cw c;refine .cond (λ_=> ?_) λc=>by simp at c;omega
  refine .cond (λ_=> ?_) λc=>by rw[Dq (by simp;omega)]at c;cases c
  have V: -u<=gA (nth [] up k.toNat) 0/\gA (nth [] up k.toNat) 0<=u:=by
   rw[Fx [] up k.toNat (by omega)];exact G _ (bf _)
  exact .some (.inl ⟨rfl,(_,k-1),rfl,⟨by dsimp only;omega,by dsimp only;omega,by simp;omega,D.snoc (by show-u<=O (0-gA (nth [] up k.toNat) 0)/\O (0-gA (nth [] up k.toNat) 0)<=u;rw[Ad];omega)⟩,by dsimp only;omega⟩)
 ·have c:=B5 c;exact .some (.inr ⟨by simp,rfl,by show v.length<=140000;omega,D⟩)
theorem Zpe (D:0<=u/\u<=65536):Out (λo=>(wA o 0).length<=140000/\Jk u (wA o 0)) (P1 [I u]):=by
 show Out _ (Qau (Al Ru) (Al (Sr (Al Ru))) [I u]);rw[Zy4];refine .bind (Z0x D) λo g=> ?_;rw[g.1];obtain⟨-,g2,G⟩:=g;generalize wA o.2 0=up at*;refine .cond (λ_=> ?_) λc=>by simp at c
 refine .cond (λ_=> ?_) λc=>by rw[Dq (by simp;omega)]at c;cases c
 refine .cond (λ_=> ?_) λc=>by rw[Dq (by simp;omega)]at c;cases c
 rw[Ad (x:=(up.length:Int)-1)];refine .bind (Zj2 D g2 G (by simp) (by rw[az];exact G.snoc (by show-u<=0/\0<=u;omega))) λo g=> ?_;rw[g.1];exact .some g.2
def Q4i (m0 m1 m3 m4:Int) (Q R:Int->Prop) (o:List AC):Prop:=∃v:Int,o=La m0 m1 m3 m4 v/\(Q v\/∃r:Int,v=O (m1+r)/\R r)
theorem Zta {x:Ax3} {a b c o0 o1:Int} {D b1 b2:Bool} (hb:0<=b/\b<=65536) {m0 m1 m2 m3 m4 m5 l:Int} {Q R F:Int->Prop}
  (hB:Out (λo=>∃r:Int,o=[I r]/\R r) (M [I a,I b,I c,I m1,I m2]))
  (hS:∀v:Int,0<=v->F v->(∃k:Int,-b<=k/\k<=b/\v=O (m1+O (m2+k)))->Out (λo=>bA o 0=true->Q v) (Z (pxt p x t [I a,I b,I c,I (O (m0+v)),I v,I (O (v-m1)),I m0,I m3,I m4,I l])))
  (hF:∀v:Int,Out (λo=>bA o 0=true->F v) (W (Fg p t [I a,I b,I c,I o0,I o1,B D,B b1,B b2,I (O (m0+v)),I v,I (O (v-m1)),I m0,I m3,I m4])))
  (L:∀m0 m1 m2 m3 m4 m5 v,V [I m0,I m1,I m2,I m3,I m4,I m5,I v]=some (La m0 m1 m3 m4 v))
  (hR:∀a b c v x,(T [I a,I b,I c,I v,I x]).isSome=true)
  (hC:∀j,0<=j/\j<=65536->Out (λo=>(wA o 0).length<=140000/\Jk j (wA o 0)) (S [I j])):
  Out (Q4i m0 m1 m3 m4 Q R) (Qpj M Z W V T S (Al (Qq6 M Z W V T S)) (pxt p x t [I a,I b,I c,I o0,I o1,B D,B b1,B b2,I m0,I m1,I m2,I m3,I m4,I m5,I l])):=by
 rw[Ydi];refine .bind (hC b hb) λq N=> ?_;obtain⟨N,hJ⟩:=N;generalize wA q 0=ch at*;refine .bind (p:=λo=>o.1=1/\((∃v:Int,∃g0 g1 g2 U X Y:Int,o.2=B true::I a::I b::I c::I m0::I m1::I m2::I m3::I m4::I m5::I g0::I g1::I g2::I U::I X::I Y::La m0 m1 m3 m4 v/\Q v)\/∃l:List AC,o.2=B false::I a::I b::I c::I m0::I m1::I m2::I m3::I m4::I m5::l)) ?_ λo g=>by
  obtain⟨g,g2⟩:=g;rw[g];refine .cond (λ_=> ?_) λc=>by simp at c
  rcases g2 with⟨v,g0,g1,g2,U,X,Y,e,G⟩|⟨l',e⟩
  ·rw[e];refine .cond (λ_=> .some ⟨v,rfl, .inl G⟩) λc=>by simp[gA,wA,bA,jA,nth,EZ]at c
  ·rw[e];refine .cond (λc=>by simp[gA,wA,bA,jA,nth,EZ]at c) λ_=> ?_;simp only[gA,wA,bA,jA,nth,Ah];refine .bind hB λo g=> ?_;obtain⟨r,rfl,hr⟩:=g;simp only[gA,wA,bA,jA,nth,Ah];rw[L];exact .some ⟨_,rfl, .inr ⟨r,rfl,hr⟩⟩
 refine DF (λs:Nat×(Int×Int×Int×Int×Int×Int)=>I l::B false:: .vC Aa ch::I (ch.length:Int)::I (s.1:Int)::pxt p x t [I a,I b,I c,I o0,I o1,B D,B b1,B b2,I m0,I m1,I m2,I m3,I m4,I m5,I 0,I 0,I 0,I 0,I 0,I 0,I s.2.1,I s.2.2.1,I s.2.2.2.1,I s.2.2.2.2.1,I s.2.2.2.2.2.1,I s.2.2.2.2.2.2])
  (λs=>s.1<=ch.length) (λs=>ch.length-s.1) _ ?_ (0,(0,0,0,0,0,0)) (by simp)
 rintro⟨i,f0,f1,f2,f3,f4,f5⟩ g;dsimp only at g;rw[Z1r];rw[Ad (x:=(i:Int)+1)];refine .cond (λc=> ?_) (λc=> ?_)
 ·have c:=Cw c;refine .cond (λ_=> ?_) λc=>by simp at c;omega
  refine .cond (λ_=> ?_) λpos=> ?_
  ·exact .some (.inl ⟨rfl,(i+1,f0,f1,f2,f3,f4,f5),rfl,by dsimp only;omega,by dsimp only;omega⟩)
  ·have pos:=B5 pos;refine .ibind (hR _ _ _ _ _) λ_ _=> .cond (λ_=> ?_) λ_=> ?_
   ·exact .some (.inl ⟨rfl,(i+1,f0,f1,f2,f3,f4,f5),rfl,by dsimp only;omega,by dsimp only;omega⟩)
   ·have hk:∃k:Int,-b<=k/\k<=b/\O (m1+O (m2+gA (nth [] ch (i:Int).toNat) 0))=O (m1+O (m2+k)):=by
     have:=hJ _ (bf (show i<ch.length by omega));rw[ag,Fx [] ch i (by omega)];exact⟨_,this.1,this.2,rfl⟩
    generalize O (m1+O (m2+gA (nth [] ch (i:Int).toNat) 0))=v at*;rw[L];simp only[ai,gA,wA,bA,jA,nth,Ah];refine .bind (hF v) λof fit=> .cond (λcf=> ?_) λ_=> ?_
    ·refine .bind (hS v (by omega) (fit cf) hk) λo G=> .cond (λc=> ?_) λ_=> ?_
     ·exact .some (.inr ⟨by simp,rfl, .inl ⟨v,0,0,0,0,0,0,rfl,G c⟩⟩)
     ·exact .some (.inl ⟨rfl,(i+1,_,_,_,_,_,_),rfl,by dsimp only;omega,by dsimp only;omega⟩)
    ·exact .some (.inl ⟨rfl,(i+1,_,_,_,_,_,_),rfl,by dsimp only;omega,by dsimp only;omega⟩)
 ·exact .some (.inr ⟨by simp,rfl, .inr ⟨_,rfl⟩⟩)
structure KOK (K : Kf) : Prop where
 f:Fix K.p K.x K.t
 plan:Plan3 K.pa K.pb K.pc
 aF:∀g∈K.p.aF,0<=g.aU/\g.aU<K.aA.length/\i64 g.aX
 aD:∀m∈K.p.aD,0<=m.aU/\m.aU<K.aA.length/\i64 m.at_
 count:K.p.aD.length<=1000000
 aS:∀it∈K.aA,it.aP=8->i64 it.aS
 len:i64 K.len
 set:i64 K.set
theorem SN (K:Kf) (c:Cv):DM (Aj K c)=some [I (O (c.m0.tdiv 256))]:=by
 show Qlx (Aj K c)=_;rw[Z28]
abbrev CA (c:Cv):Int:=O (c.m0.tdiv 256)
theorem Yjs {c:Cv} {s:Int} (D:Z (Aj K c)=some [I (CA c)]) (G:M (Bu K.t++[I (CA c)])=some [I s]):Qaq M Z (Aj K c)=some [I s]:=by
 rw[Ybj,D];simp only[ai,gA,wA,bA,jA,Gl,JP];rw[G];rfl
abbrev Dp (K:Kf) (c:Cv):Int:=A6 K.t (CA c)
theorem Zfn (h:KOK K) (c:Cv):GW (Aj K c)=some [I (Dp K c)]:=Yjs (SN K c) (VL h.f.t.q (CA c))
def nxL (K:Kf) (c:Cv) (l:Int):List AC:=pxt K.p K.x K.t [I K.pa,I K.pb,I K.pc,I c.o0,I c.o1,B c.o2,B c.o3,B c.o4,I c.m0,I c.m1,I c.m2,I c.m3,I c.m4,I c.m5,I l]
theorem Z7k (o0 o1:Int) (b1 b2:Bool) (a b c:Int) (r:List AC):Ro (I o0::I o1::B true::B b1::B b2::I a::I b::I c::AF Ag r)=some [I 0]:=by
 rw[Zca];show Qoi _=_;rw[Yc7];rfl
theorem Yey {a b c o0 o1:Int} {b1 b2:Bool} (L:∀r,M (I o0::I o1::B true::B b1::B b2::I a::I b::I c::AF Ag r)=some [I 0])
  (N:∀s,i64 s->∃i v:Int,Z (Bj p++[I s])=some [I i,I v]/\(i= -1\/0<=i/\i<p.aF.length)/\(p.aF≠[]->0<=i)) (O:∀u,∃s,W (Bu t++[I u])=some [I s]/\i64 s) (S:∀u,(V [I u]).isSome=true) (D:p.aF≠[]) (u:Int):
  Out (λo=>gA o 0=0) (Qm6 M Z W V (Fg p t [I a,I b,I c,I o0,I o1,B true,B b1,B b2,I u])):=by
 rw[Zwo];refine .ibind (S _) λq _=> ?_;obtain⟨s,T,U⟩:=O (gA q 0);refine .bind (p:=λo=>o=[I s]) ⟨_,T,rfl⟩ λo e=> ?_;subst e;obtain⟨i,v,g1,g2,G⟩:=N s U;refine .bind (p:=λo=>o=[I i,I v]) ⟨_,g1,rfl⟩ λo e=> ?_;subst e;have G:=G D;refine .cond (λ_=> ?_) λc=> ?_
 ·refine .bind (p:=λo=>o=[I 0]) ⟨_,L _,rfl⟩ λo e=> ?_;subst e;exact .some rfl
 ·refine(inB (show 0<=i from G) (show i<((p.aF.map Az).length:Int)from ?_) c).elim;rw[ac];omega
theorem Z3x {x:Ax3} (h:Fix p x t) (D:p.aF≠[]) (a b c o0 o1:Int) (b1 b2:Bool) (u:Int):
  Out (λo=>gA o 0=0) (NT (Fg p t [I a,I b,I c,I o0,I o1,B true,B b1,B b2,I u])):=
 Yey (λr=>Z7k o0 o1 b1 b2 a b c r) (λ_ G=>Ycl h G) (λu=>⟨_,VL h.t.q u,Qta h u⟩) Zha D u
theorem Ydf {a b c o0 o1:Int} {b1 b2:Bool} (D:p.aF≠[]->∀u,Out (λo=>gA o 0=0) (M (Fg p t [I a,I b,I c,I o0,I o1,B true,B b1,B b2,I u])))
  (T:∀a b c U V X Y x7 x8,Out (λo=>(wA o 0).length<=4096) (Z [I a,I b,I c,I U,I V,I X,I Y,I x7,I x8])) (m0 m1 m2 m3 m4 m5:Int):
  Out (λo=>bA o 0=true->m1<=0) (Qk7 M Z (Al (X_ M Z)) (Fg p t [I a,I b,I c,I o0,I o1,B true,B b1,B b2,I m0,I m1,I m2,I m3,I m4,I m5])):=by
 rw[Zr3];refine .bind (T a b c m0 m1 m2 m3 m4 m5) λo h2=> ?_;have L:∀{x:List AC},x=[B false]->bA x 0=true->m1<=0:=λe h=>by subst e;simp[bA,nth,EZ]at h
 generalize wA o 0=G at*;refine .cond (λ_=> .some (L rfl)) λ_=> .cond (λ_=> .some (L rfl)) λS=> ?_;have N:p.aF≠[]:=by
  intro e;rw[e]at S;simp at S
 have D:=D N;refine .bind (D _) λq hq=> .cond (λ_=> .some (L rfl)) λO=> ?_;have O: ¬m1>gA q 0:=B5 O;rw[hq]at O;refine .bind (p:=λo=>o.1=1\/o.1=2) ?_ λo g=>by rcases g with g|g<;>rw[g]<;>exact .some λ_=>by omega
 refine DF (λs:Int×Nat=>I s.1:: .vC Aa G::I (G.length:Int)::I (s.2:Int)::Fg p t [I a,I b,I c,I o0,I o1,B true,B b1,B b2]) (λs=>s.2<=G.length) (λs=>G.length-s.2) _ ?_ (m0,0) (by simp);rintro⟨v,i⟩ g;dsimp only at g;rw[Zq3];rw[Ad (x:=(i:Int)+1)];refine .cond (λc=> ?_) (λc=> ?_)
 ·have c:=Cw c;refine .cond (λ_=> ?_) λc=>by simp at c;omega
  refine .bind (D _) λ_ _=> .cond (λ_=> .some (.inr ⟨by simp, .inl rfl⟩)) λ_=> ?_;exact .some (.inl ⟨rfl,(_,i+1),rfl,by dsimp only;omega,by dsimp only;omega⟩)
 ·exact .some (.inr ⟨by simp, .inr rfl⟩)
theorem Zkj {x:Ax3} (h:Fix p x t) (a b c o0 o1:Int) (b1 b2:Bool) (m0 m1 m2 m3 m4 m5:Int):
  Out (λo=>bA o 0=true->m1<=0) (Pp (Fg p t [I a,I b,I c,I o0,I o1,B true,B b1,B b2,I m0,I m1,I m2,I m3,I m4,I m5])):=
 Ydf (λD u=>Z3x h D a b c o0 o1 b1 b2 u) Qtw m0 m1 m2 m3 m4 m5
theorem Zyq (K:Kf) {i:Nat} (h:i<K.aA.length):nth [] (K.aA.map Af) i=Af K.aA[i]:=by
 rw[B7,List.getD,d8,aj h];rfl
theorem Yda (K:Kf) {i:Nat} (h:i<K.p.aD.length):nth [] (K.p.aD.map Aq) i=Aq K.p.aD[i]:=by
 rw[B7,List.getD,d8,aj h];rfl
theorem Z1m {c:Cv} (h:c.way=0):Lc (Aj K c)=some (I 0::B false::Aj K c):=by
 have key:∀{A B':Fn},Y7 A B' (Aj K c)=some (I 0::B false::Aj K c):=by
  intro A B';rw[Zw1,BP (by simp[h])]
 exact key
abbrev Qec (c:Cv):Cv:={c with m0:=O (CA c*256),m1:=0,m2:=0,m3:=O (CA c*256),m4:=O (CA c*256),m5:=O (CA c*256)}
theorem Q40 (u:Int):JC [I u]=some [I (O (u*256)),I 0,I 0,I (O (u*256)),I (O (u*256)),I (O (u*256))]:=by
 show Qd3 [I u]=_;rw[Ye5]
theorem Zqx {c:Cv} (D:Z (Aj K c)=some [I (CA c)]) (G:∀u:Int,M [I u]=some [I (O (u*256)),I 0,I 0,I (O (u*256)),I (O (u*256)),I (O (u*256))]):
  Qm8 M Z (Aj K c)=some (if c.g0=2 then I 6::B true::Aj K (Qec c)else I 0::B false::Aj K c):=by
 rw[Zzt];by_cases h:c.g0=2
 ·rw[aa h,B0 (by simp[h]),D];simp only[ai,gA,wA,bA,jA,Gl,JP];rw[G];rfl
 ·rw[ab h,BP (by simpa using h)]
theorem Z1u (K:Kf) (c:Cv):Lw (Aj K c)=some (if c.g0=2 then I 6::B true::Aj K (Qec c)else I 0::B false::Aj K c):=Zqx (SN K c) Q40
theorem Zpm (K:Kf) (c:Cv):Kg (Aj K c)=some (I c.aI::B (c.aI !=0)::Aj K c):=by
 show Wi (Aj K c)=_;rw[Zlo]
theorem Zye (K:Kf) (c:Cv):LP (Aj K c)=some (if c.aH=true/\c.aM=true then I 8::B true::Aj K {c with aI:=8}else I 0::B false::Aj K c):=by
 show Qmk (Aj K c)=_;rw[Zs6];by_cases h:c.aH=true
 ·by_cases D:c.aM=true
  ·rw[aa ⟨h,D⟩,B0 (by simp[h]),B0 (by simp[D]),h,D]
  ·rw[ab (λe=>D e.2),B0 (by simp[h]),BP (by simpa using D)]
 ·rw[ab (λe=>h e.1),BP (by simpa using h)]
theorem Out.eqv {α:Type} {p:α->Prop} {a b:Option α} (h:a=b) (g:Out p b):Out p a:=h▸g
abbrev S0 (D outs:Rw) (mode s:Int) (m:Pt) (G fault:Int):List AC:=[.vC kPt D, .vC Aa outs,I mode,I s,I m.x,I m.y,I m.z,I G,I fault]
abbrev FF:List AC:=[.vC kPt [], .vC Aa [],I 0,I 0,I 0,I 0,I 0,I 0,I 0]
theorem Zy5 (r k:Int):(AY r k=r/\A0 r k=0)\/(AY r k=0/\A0 r k=r)\/(AY r k= -r/\A0 r k=0)\/(AY r k=0/\A0 r k= -r):=by
 have D:k%4=0\/k%4=1\/k%4=2\/k%4=3:=by omega
 unfold AY A0;rcases D with h|h|h|h<;>simp[h]
theorem Zcr (r k:Int):sq2 (AY r k) (A0 r k)=r*r:=by
 unfold sq2;rcases Zy5 r k with⟨D,G⟩|⟨D,G⟩|⟨D,G⟩|⟨D,G⟩<;>rw[D,G]<;>grind
theorem Zoz (G:v=1\/v=2\/v=3) (I:0<u) (L:0<d):crs (AY u k) (A0 u k) (AY d (k+v)) (A0 d (k+v))≠0\/dt2 (AY u k) (A0 u k) (AY d (k+v)) (A0 d (k+v))<0:=by
 have M:k%4=0\/k%4=1\/k%4=2\/k%4=3:=by omega
 have N:0<u*d:=Int.mul_pos I L;have T: -u*d= -(u*d)/\u* -d= -(u*d)/\ -u* -d=u*d:=⟨Int.neg_mul ..,Int.mul_neg ..,Int.neg_mul_neg ..⟩;have e:∀j:Int,(k+v)%4=j->∀i:Int,k%4=i->crs (AY u k) (A0 u k) (AY d (k+v)) (A0 d (k+v))=(if i=0 then u else if i=2 then-u else 0)*(if j=1 then d else if j=3 then-d else 0)-(if i=1 then u else if i=3 then-u else 0)*(if j=0 then d else if j=2 then-d else 0)/\
   dt2 (AY u k) (A0 u k) (AY d (k+v)) (A0 d (k+v))=(if i=0 then u else if i=2 then-u else 0)*(if j=0 then d else if j=2 then-d else 0)+(if i=1 then u else if i=3 then-u else 0)*(if j=1 then d else if j=3 then-d else 0):=by
  intro j O i S;subst O S;exact⟨rfl,rfl⟩
 rcases G with rfl|rfl|rfl<;>rcases M with D|D|D|D
 ·obtain⟨e1,e2⟩:=e 1 (by omega) _ D;simp at e1 e2;omega
 ·obtain⟨e1,e2⟩:=e 2 (by omega) _ D;simp at e1 e2;omega
 ·obtain⟨e1,e2⟩:=e 3 (by omega) _ D;simp at e1 e2;omega
 ·obtain⟨e1,e2⟩:=e 0 (by omega) _ D;simp at e1 e2;omega
 ·obtain⟨e1,e2⟩:=e 2 (by omega) _ D;simp at e1 e2;omega
 ·obtain⟨e1,e2⟩:=e 3 (by omega) _ D;simp at e1 e2;omega
 ·obtain⟨e1,e2⟩:=e 0 (by omega) _ D;simp at e1 e2;omega
 ·obtain⟨e1,e2⟩:=e 1 (by omega) _ D;simp at e1 e2;omega
 ·obtain⟨e1,e2⟩:=e 3 (by omega) _ D;simp at e1 e2;omega
 ·obtain⟨e1,e2⟩:=e 0 (by omega) _ D;simp at e1 e2;omega
 ·obtain⟨e1,e2⟩:=e 1 (by omega) _ D;simp at e1 e2;omega
 ·obtain⟨e1,e2⟩:=e 2 (by omega) _ D;simp at e1 e2;omega
theorem Z19 {it:Itm} (h:ArcMade u it):Qk6 it:=by
 obtain⟨r,k,t,g,x,M,h2,h3,h4,h5,h6,N,T,h9,O,I,D,L⟩:=h.ends;have G:=h.aG;have a1:dU it it.fr=AY r k:=by unfold dU;rw[D,(G8 G).1];omega
 have a2:dW it it.fr=A0 r k:=by unfold dW;rw[D,(G8 G).2.1];omega
 have a3:dU it it.to=AY (r+g) (k+t):=by unfold dU;rw[D,L,(G8 G).1,(G8 G).1];omega
 have a4:dW it it.to=A0 (r+g) (k+t):=by unfold dW;rw[D,L,(G8 G).2.1,(G8 G).2.1];omega
 have V:qA it=r*r:=by unfold qA;rw[a1,a2,Zcr]
 have X:qB it=(r+g)*(r+g):=by unfold qB;rw[a3,a4,Zcr]
 have m1:64<=r*r:=by
  have:=fc M M (by omega) (by omega);omega
 have m2:64<=(r+g)*(r+g):=by
  have:=fc (show(8:Int)<=r+g by omega) (show(8:Int)<=r+g by omega) (by omega) (by omega);omega
 unfold Qk6;refine⟨by omega,by omega,?_,?_,?_⟩
 ·rw[V,X];unfold Fk;right;have hg:g*g<=16:=by
   have:=fc T T N (by omega);omega
  have e1:r*r+(r+g)*(r+g)-16=2*(r*(r+g))+(g*g-16):=by grind
  have U:0<=r*(r+g):=ii (by omega) (by omega);have Y:64<=r*(r+g):=by
   have:=fc M (show(8:Int)<=r+g by omega) (by omega) (by omega);omega
  have a0:0<=g*g:=ii N N;have e2:4*(r*r)*((r+g)*(r+g))=(2*(r*(r+g)))*(2*(r*(r+g))):=by grind
  rw[e1,e2];generalize 2*(r*(r+g))=m at*;exact ie (by omega) (by omega)
 ·intro hf;rw[I]at hf;have S:=of_decide_eq_true hf;rw[a1,a2,a3,a4,S,O S,ja,ja];exact⟨rfl,rfl⟩
 ·intro hf;rw[I]at hf;have S:=of_decide_eq_false hf;unfold cAB dAB;rw[a1,a2,a3,a4];exact Zoz (by omega) (by omega) (by omega)
theorem Zfv {it:Itm} (h:Made it) (G:bd 1000000 it.fr) (I:bd 1000000 it.to):BK it:=by
 refine⟨h.aP,AI G (by omega),AI I (by omega),λL=> ?_⟩;have D:=h.arc L;exact⟨D.aG,D.dir,AI (U2 D (by omega) G).2 (by omega),Z19 D⟩
end Go.Bm
namespace Go.Bm
open Classical
structure Oth (it : Itm) : Prop where
 aP:7<=it.aP/\it.aP<=14
 spin:it.aP=8->3<=it.n/\it.n<=5/\0<=it.aS/\it.aS<=4000
 dwell:it.aP=7->0<=it.n/\it.n<=4
 out:it.aP=10->0<=it.n/\it.n<=15
def Le:Pt->List Itm->Prop
 |_,[]=>True
 |p,it::l=>if AB it then it.fr=p/\Le it.to l else Le p l
structure Items (A : Nat) (p : Pt) (l : List Itm) : Prop where
 link:Le p l
 made:∀it∈l,(AB it/\Made it/\Hh it/\bd A it.fr/\bd A it.to)\/Oth it
theorem Q2b {it:Itm} (h:Oth it): ¬AB it:=λg=>by have:=h.aP;have:=g.2;omega
theorem Qqk {A:Nat} {aA:List Itm} (G:A<=1000000) (L:∀it∈aA,(AB it/\Made it/\Hh it/\bd A it.fr/\bd A it.to)\/Oth it):∀(k i:Nat) (last:Int) (p:Pt),i+k=aA.length->Le p (aA.drop i)->(0<=last->(vE aA last.toNat).to=p)->EC aA k i last=0
 |0,_,_,_,_,_,_=>rfl
 |k+1,i,last,p,hi,h,O=>by
  have D:i<aA.length:=by omega
  have M:=L _ (Zjc D);rw[RY D]at h;unfold Le at h;unfold EC;have S: ¬Bq (vE aA i):=by
   rcases M with⟨T,I,h3,U,V⟩|N
   ·have X:=Zfv I (AI U G) (AI V G);have hf:=I.aZ;have hb:=I.bH;have Y:=I.aP;rintro(g|g|⟨-,g|g|g|g⟩|⟨g,-⟩)
    ·omega
    ·omega
    ·exact g X
    ·omega
    ·omega
    ·omega
    ·exact g T
   ·have Y:=N.aP;rintro(g|g|⟨g,-⟩|⟨-,g1,g2⟩)
    ·omega
    ·omega
    ·exact Q2b N g
    ·have:=N.spin g1;omega
  rw[ab S];by_cases c:AB (vE aA i)
  ·rw[aa c]at h⊢;rw[ab (λg=>g.2 (by rw[O g.1];exact h.1.symm))];exact Qqk G L k (i+1) i _ (by omega) h.2 (λ_=>by rw[ag])
  ·rw[ab c]at h⊢;exact Qqk G L k (i+1) last p (by omega) h O
theorem Za6 (D:A<=1000000) (h:Items A a z) (G:z.length<=20000):BZ z=0:=by
 unfold BZ;rw[ab];exact Qqk D h.made z.length 0 (-1) a (by omega) (by rw[fj];exact h.link) (λh=>by omega)
end Go.Bm
namespace Go.Bm
theorem Zpw (S:∀{hi lo y:Nat},hi<y->y<w64->lo<w64->M [U hi,U lo,U y]=some [U (((hi*w64+lo)/y:Nat):Int),U (((hi*w64+lo)%y:Nat):Int)])
  {hi lo y:Nat} (G:hi<w64) (I:lo<w64) (D:0<y) (T:y<w64):
  ∃L N:Nat,Qe0 M [U hi,U lo,U y]=some [U L,U N,B (decide (0<(hi*w64+lo)%y))]/\L<w64/\N<w64/\L*w64+N=(hi*w64+lo)/y:=by
 have V:=S (hi:=0) (lo:=hi) D T G;rw[iq,dt,show((0:Nat):Int)=0 from rfl]at V;have X:=gr hi D;have Y:=S (hi:=hi%y) (lo:=lo) X T I;have e:=fu hi y;have e2:hi*w64+lo=hi%y*w64+lo+hi/y*w64*y:=by
  have:hi*w64=hi/y*w64*y+hi%y*w64:=by
   rw[<-e,Nat.mul_add_mod,Nat.mod_mod];rw[show(y*(hi/y)+hi%y)/y=hi/y from by rw[e]];rw[dh,cx y,dz,cx y,dz]
  omega
 have hq:(hi*w64+lo)/y=(hi%y*w64+lo)/y+hi/y*w64:=by rw[e2,Nat.add_mul_div_right _ _ D]
 have hr:(hi*w64+lo)%y=(hi%y*w64+lo)%y:=by rw[e2,Nat.add_mul_mod_self_right]
 have O:(hi%y*w64+lo)/y<w64:=by
  rw[fm D];have:hi%y*w64+w64<=y*w64:=by rw[<-gn];exact bg _ X
  rw[cx w64];omega
 refine⟨hi/y,(hi%y*w64+lo)/y,?_,Nat.lt_of_le_of_lt (gp _ _) G,O,by rw[hq];omega⟩;rw[Zt6];simp only[go_sem,V,Y,hr];by_cases c:0<(hi%y*w64+lo)%y
 ·rw[ak c,ak (show(((hi%y*w64+lo)%y:Nat):Int)>0 by omega)]
 ·rw[am c,am (show¬(((hi%y*w64+lo)%y:Nat):Int)>0 by omega)]
theorem Z1p {A n t:Nat} (D:0<n) (L:t*t<=2*A*(2*A)/n) (M:2*A*(2*A)/n<(t+1)*(t+1)) (down:Bool) {E:Prop} [Decidable E] (N:E↔(2*A*(2*A)%n=0/\t*t=2*A*(2*A)/n)):
  ED A n down (if t%2=1/\(¬E\/down=false)then t/2+1 else t/2):=by
 have U:2*A*(2*A)=4*(A*A):=by grind
 have G:t*t*n<=2*A*(2*A):=(Nat.le_div_iff_mul_le D).1 L;have V:2*A*(2*A)<(t+1)*(t+1)*n:=(fm D).1 M;have O:(2*A*(2*A)%n=0/\t*t=2*A*(2*A)/n)↔t*t*n=2*A*(2*A):=by
  have hd:=fu (2*A*(2*A)) n;constructor
  ·rintro⟨g1,g2⟩;rw[g2,cx];omega
  ·intro g;rw[<-g];exact⟨Nat.mul_mod_left _ _,(Nat.mul_div_cancel _ D).symm⟩
 have I:=N.trans O;rw[U]at G V I;clear N O L M;generalize X:4*(A*A)=Q at*;unfold ED;rw[X];rcases Nat.mod_two_eq_zero_or_one t with S|S
 ·rw[ab];obtain⟨m,rfl⟩:∃m,t=2*m:=⟨t/2,by omega⟩;rw[show 2*m/2=m by omega];have h5:(2*m+1)*(2*m+1)*n<=(2*m+1)*(2*m+1)*n:=cg _;refine⟨?_,?_⟩
  ·rcases dx m with T|T
   ·exact .inl T
   ·right;have Y:(2*m-1)*(2*m-1)*n<2*m*(2*m)*n:=ew (gz (by omega)) D;split<;>omega
  ·split<;>omega
 ·obtain⟨m,rfl⟩:∃m,t=2*m+1:=⟨t/2,by omega⟩;rw[show(2*m+1)/2=m by omega];have Y:(2*m+1+1)*(2*m+1+1)*n<=(2*(m+1)+1)*(2*(m+1)+1)*n:=RE (by omega);have h7:(2*m-1)*(2*m-1)*n<(2*m+1)*(2*m+1)*n:=ew (gz (by omega)) D;have h8:2*(m+1)-1=2*m+1:=by omega
  by_cases c: ¬E\/down=false
  ·rw[aa ⟨S,c⟩,h8];refine⟨.inr ?_,?_⟩
   ·cases down
    ·simp only[df,f9];exact G
    ·simp only[dp];rcases c with c|c
     ·exact Nat.lt_of_le_of_ne G λh=>c (I.2 h)
     ·cases c
   ·split<;>omega
  ·have c1:(2*m+1)*(2*m+1)*n=Q:=by
    by_cases g:E
    ·exact I.1 g
    ·exact absurd (.inl g) c
   have c2:down=true:=by
    cases down
    ·exact absurd (.inr rfl) c
    ·rfl
   subst c2;rw[ab (λh=>c h.2)];simp only[dp];exact⟨.inr (by omega),by omega⟩
theorem Zow {x d:Int}:sgn x d<0↔x*d<0:=by
 rcases Um x d with⟨h,g⟩|⟨h,g⟩|⟨h,g⟩<;>omega
theorem Ycy {x d:Int} {n X D Y l1 qh ql t O l2:Nat} (hX:X<=2147483648) (hD:D<=2147483648) (hn:0<n/\n<=4611686018427387904)
  (z1:G [I x]=some [U X]) (z2:G [I d]=some [U D]) (hk:H [I 2]=some [B true]) (a4:S [U ((2*(X*D):Nat):Int),U ((2*(X*D):Nat):Int)]=some [U Y,U l1])
  (a5:T [U Y,U l1,U n]=some [U qh,U ql,B (decide (0<2*(X*D)*(2*(X*D))%n))]) (a6:qh*w64+ql=2*(X*D)*(2*(X*D))/n) (a7:ql<w64) (a8:V [U qh,U ql]=some [U t]) (a3:t<w64)
  (a9:S [U t,U t]=some [U O,U l2]) (b0:O*w64+l2=t*t) (b1:l2<w64) (hs:W [I x,I d]=some [I (sgn x d)])
  (hg:∀(more:Int) (some_ neg:Bool),Z [I 2,I more,B some_,B neg]=some [B (if more>0 then true else if more=0 then !neg else false)])
  (g1:∀{n:Nat},n<9223372036854775808->M [U n,B false]=some [I n,B true]) (g2:∀{n:Nat},n<=9223372036854775808->M [U n,B true]=some [I (-(n:Int)),B true]) {J:Nat}
  (a0:t%2=1->(¬(2*(X*D)*(2*(X*D))%n=0/\t*t=2*(X*D)*(2*(X*D))/n)\/ ¬sgn x d<0)->J=t/2+1) (a2: ¬(t%2=1/\(¬(2*(X*D)*(2*(X*D))%n=0/\t*t=2*(X*D)*(2*(X*D))/n)\/ ¬sgn x d<0))->J=t/2) (b4:t<=9223372036854775808):
  Ya M Z W V T S H G [I x,I d,I n,I 2]=some [I (if sgn x d<0 then-(J:Int)else J),B true]:=by
 have b5:X*D<=2147483648*2147483648:=cy hX hD;have w1:wrap .u64 (2*wrap .u64 ((X:Int)*(D:Int)))=((2*(X*D):Nat):Int):=by
  rw[<-cq,wr (by omega),show(2:Int)*((X*D:Nat):Int)=((2*(X*D):Nat):Int) by omega,wr (by omega)]
 have w2:wrap .u64 (n:Int)=n:=wr (by omega);have w3:((t:Int)).tdiv 2=((t/2:Nat):Int):=Qao t 2;have w4:wrap .u64 ((t/2:Nat):Int)=((t/2:Nat):Int):=wr (by rw[A_]at a3;omega);have w5:wrap .u64 (((t/2:Nat):Int)+1)=((t/2+1:Nat):Int):=by rw[show((t/2:Nat):Int)+1=((t/2+1:Nat):Int) by omega,wr (by rw[A_]at a3;omega)]
 have w6:((t:Int).tmod 2=1)=(t%2=1):=by
  rw[iz (by omega)];exact propext ⟨by omega,by omega⟩
 have b2:∀(neg:Bool) (k:Nat),k<9223372036854775808->M [U k,B neg]=some [I (if neg=true then-(k:Int)else k),B true]:=by
  intro neg k hk;cases neg
  ·exact g1 hk
  ·exact g2 (by omega)
 have key:∀(neg:Bool) (k:Nat),decide (sgn x d<0)=neg->J=k->k<9223372036854775808->M [U k,B neg]=some [I (if sgn x d<0 then-(J:Int)else J),B true]:=by
  intro neg k Y O h3;rw[b2 neg k h3,O];congr 3;by_cases c:sgn x d<0
  ·rw[aa c,aa (by rw[<-Y];exact ak c)]
  ·rw[ab c,ab (by rw[<-Y];simpa using c)]
 have b3:(O=qh/\l2=ql)↔t*t=2*(X*D)*(2*(X*D))/n:=by
  rw[<-b0,<-a6];constructor
  ·rintro⟨rfl,rfl⟩;rfl
  ·intro h;have a1:∀p q u v:Nat,u<w64->v<w64->p*w64+u=q*w64+v->p=q/\u=v:=by
    intro p q u v hu hv h;rcases Nat.lt_trichotomy p q with c|c|c
    ·have:=bg w64 (show p+1<=q from c);rw[gn]at this;omega
    ·subst c;exact⟨rfl,by omega⟩
    ·have:=bg w64 (show q+1<=p from c);rw[gn]at this;omega
   exact a1 _ _ _ _ b1 a7 h
 rw[Znu];simp only[go_sem,z1,z2,hk,w1,w2,a4,a5,a8,hs,a9,w3,w4,w5,hg];rw[ab,ab,ab,ab,ab (by simp)];have N:t/2+1<9223372036854775808:=by omega
 have hT:∀k:Nat,J=k->k<9223372036854775808->((M [U (k:Int),B (decide (sgn x d<0))]).bind λo=>some [I (Ah (nth .vD o 0)),B (EZ (nth .vD o 1))])=some [I (if sgn x d<0 then-(J:Int)else J),B true]:=by
  intro k Y O;rw[key _ k rfl Y O];rfl
 have e3:((O:Int)=qh/\(l2:Int)=ql/\True)=(t*t=2*(X*D)*(2*(X*D))/n):=by
  rw[<-propext b3];exact propext ⟨λh=>⟨by omega,by omega⟩,λh=>⟨by omega,by omega,trivial⟩⟩
 simp only[e3,w6];have n1:((1:Int)>0)=True:=by simp
 have n2:((-1:Int)>0)=False:=by simp
 have n3:((-1:Int)=0)=False:=by simp
 have n4:((0:Int)>0)=False:=by simp
 by_cases cR:2*(X*D)*(2*(X*D))%n=0
 ·rw[ab (show¬0<2*(X*D)*(2*(X*D))%n by omega)];by_cases L:t%2=1
  ·by_cases cE:t*t=2*(X*D)*(2*(X*D))/n
   ·by_cases cn:sgn x d<0
    ·have:=a2 (λh=>h.2.elim (λg=>g ⟨cR,cE⟩) λg=>g cn);simp only[n1,n2,n3,n4,df,L,cE,je,dp,f9];rw[ab (by simp[cn])];exact hT _ this (by omega)
    ·have:=a0 L (.inr cn);simp only[n1,n2,n3,n4,df,L,cE,je,dp,f9];rw[aa (by simp;omega)];exact hT _ this N
   ·have:=a0 L (.inl λg=>cE g.2);simp only[n1,n2,n3,n4,df,L,cE,je,jf,dp,f9];exact hT _ this N
  ·have:=a2 (λh=>L h.1);simp only[n1,n2,n3,n4,df,L,f9,ite_self];exact hT _ this (by omega)
 ·rw[aa (show 0<2*(X*D)*(2*(X*D))%n by omega)];by_cases L:t%2=1
  ·have:=a0 L (.inl λg=>cR g.1);simp only[n1,n2,n3,n4,df,L,jf,dp];exact hT _ this N
  ·have:=a2 (λh=>L h.1);simp only[n1,n2,n3,n4,df,L,jf,dp,f9];exact hT _ this (by omega)
theorem Z6d {x d:Int} {n:Nat} (N:0<n) (O:0<=d) (G:ED (x.natAbs*d.natAbs) n (decide (x*d<0)) J):(if x*d<0 then-(J:Int)else J)=Bf x d n:=by
 unfold Bf;rw[jd];by_cases L:x<0
 ·rw[aa L];by_cases M:d=0
  ·subst M;rw[Int.mul_zero,ab];rw[show x.natAbs*(0:Int).natAbs=0 from by simp]at G⊢;have e1:ED 0 n true 0:=⟨.inl rfl,by simp⟩;rw[Qd e1];obtain⟨I,-⟩:=G;rw[am (by simp)]at I;simp only[df,f9]at I;rcases I with I|I
   ·omega
   ·rcases dx J with S|S
    ·omega
    ·have T:=Nat.mul_pos (Nat.mul_pos (show 0<2*J-1 by omega) (show 0<2*J-1 by omega)) N;omega
  ·have D:x*d<0:=Int.mul_neg_of_neg_of_pos L (by omega);rw[ak D]at G;rw[aa D,Qd G]
 ·rw[ab L];have D: ¬x*d<0:=by have:=ii (show 0<=x by omega) O;omega
  rw[am D]at G;rw[ab D,Qd G]
theorem Y5 {x d n:Int} (hx:x.natAbs<=2147483648) (hd:0<=d/\d<=2147483648) (hn:0<n/\n<=4611686018427387904):IE [I x,I d,I n,I 2]=some [I (Bf x d n),B true]:=by
 obtain⟨N,rfl⟩:=bj (show 0<=n by omega);have hD:d.natAbs<=2147483648:=by omega
 have a1:x.natAbs*d.natAbs<=2147483648*2147483648:=cy hx hD;have O:0<N/\N<=4611686018427387904:=by omega
 have S:2*(x.natAbs*d.natAbs)<w64:=by rw[A_];omega
 obtain⟨G,l1,e1,e2,e3⟩:=Pq S S;have T:N<w64:=by rw[A_];omega
 have U:G<w64:=by
  have:=Nat.mul_lt_mul'' S S;rw[<-e2]at this;by_cases c:G<w64
  ·exact c
  ·have:=bg w64 (show w64<=G by omega);omega
 obtain⟨qh,ql,q1,q2,q3,V⟩:=Zpw (M:=GX) Ygq U e3 O.1 T;rw[e2]at q1 V;obtain⟨t,r1,Y,r3,r4⟩:=Zjr q2 q3;rw[V]at Y r3;obtain⟨h2,l2,p1,p2,p3⟩:=Pq r4 r4;have ht:t<=9223372036854775808:=by
  have k1:t*t<=2*(x.natAbs*d.natAbs)*(2*(x.natAbs*d.natAbs)):=bm Y (gp _ _);have k2:=Nat.mul_self_le_mul_self_iff.1 k1;omega
 have hi:=Z1p O.1 Y r3 (decide (x*d<0)) (E:=2*(x.natAbs*d.natAbs)*(2*(x.natAbs*d.natAbs))%N=0/\t*t=2*(x.natAbs*d.natAbs)*(2*(x.natAbs*d.natAbs))/N) Iff.rfl;have L:=Z6d O.1 hd.1 hi;rw[<-L];have:= @Zow x d;have a0:∀a:Int,(if x*d<0 then-a else a)=if sgn x d<0 then-a else a:=by
  intro a;by_cases c:x*d<0
  ·rw[aa c,aa (this.2 c)]
  ·rw[ab c,ab (λh=>c (this.1 h))]
 rw[a0];refine Ycy (X:=x.natAbs) (D:=d.natAbs) hx hD O (JF (by unfold i64;omega)) (JF (by unfold i64;omega)) (Qmm (.inr (.inr rfl))) e1 q1 V q3 r1 r4 p1 p2 p3 (Ze x d) Zhe Qir Qz2 (λG h2=> ?_) (λh=> ?_) ht
 ·rw[aa ⟨G,h2.imp id λh=>am λg=>h (this.2 g)⟩]
 ·rw[ab λg=>h ⟨g.1,g.2.imp id λk g2=>by rw[decide_eq_false_iff_not]at k;exact k (this.1 g2)⟩]
theorem Zeq (D:bd 67108864 a) (hb:bd 67108864 b):
    O (O (O (0+O (O (a.x-b.x)*O (a.x-b.x)))+O (O (a.y-b.y)*O (a.y-b.y)))+O (O (a.z-b.z)*O (a.z-b.z)))=sqD a b:=by
  have h:∀x y:Int,x.natAbs<=67108864->y.natAbs<=67108864->0<=(x-y)*(x-y)/\(x-y)*(x-y)<=18014398509481984:=by
    intro x y G I;exact Cn (x:=x-y) (A:=134217728) (by omega)
  have L:=h _ _ D.1 hb.1;have M:=h _ _ D.2.1 hb.2.1;have N:=h _ _ D.2.2 hb.2.2;obtain⟨a1,a2,a3⟩:=D;obtain⟨b1,b2,b3⟩:=hb;rw[Ad (x:=a.x-b.x),Ad (x:=a.y-b.y),Ad (x:=a.z-b.z)];unfold sqD IJ Ce;simp only;generalize(a.x-b.x)*(a.x-b.x)=u at*;generalize(a.y-b.y)*(a.y-b.y)=v at*;generalize(a.z-b.z)*(a.z-b.z)=w at*;rw[Ad (x:=u),Ad (x:=0+u),Ad (x:=v),Ad (x:=0+u+v),Ad (x:=w),Ad,Int.zero_add]
theorem Zpa {n:Nat} (G:bd 67108864 a) (hb:bd 67108864 b) (D:sqD a b=n)
    (L:∃r:Nat,M [I n,I 1]=some [I ((if((1:Int)=1/\r*r<n)\/((1:Int)=2/\r*r+r<n)then r+1 else r:Nat):Int),B true]/\r*r<=n/\n<(r+1)*(r+1)):
    Xq M [I a.x,I a.y,I a.z,I b.x,I b.y,I b.z]=some [I (Ax a b)]:=by
  obtain⟨r,N,O,S⟩:=L;have T:=Q7t O S;rw[Z58,Zeq G hb,D];simp only[go_sem,N];unfold Ax;rw[D,Zjd T];congr 3;by_cases c:r*r<n
  · rw[aa (.inl ⟨trivial,c⟩),aa c]
  · rw[ab (by simp[c]),ab c]
theorem Qfv (D:bd 67108864 a) (hb:bd 67108864 b):Jo [I a.x,I a.y,I a.z,I b.x,I b.y,I b.z]=some [I (Ax a b)]:=by
  have G:=NP a b;have M:=NF D hb (cg _);obtain⟨n,L⟩:=bj G;exact Zpa D hb L (Q05 (by omega) (.inl rfl))
theorem Yhp {MO:Fn} {a b:Spk} {u w:Int} (N:okS a) (hb:okS b) (S:u.natAbs<=100000000) (T:w.natAbs<=100000000)
    (U: ¬(u=0/\w=0)->MO [I u,I (hf a.r b.r),I (sq2 u w),I 2]=some [I (Bf u (hf a.r b.r) (sq2 u w)),B true]/\MO [I w,I (hf a.r b.r),I (sq2 u w),I 2]=some [I (Bf w (hf a.r b.r) (sq2 u w)),B true]):
    (bif u == 0 then
      bif w==0 then some [AC.int IntKind.i64 0,AC.int IntKind.i64 0,AC.int IntKind.i64 0,AC.int IntKind.i64 0,AC.bool false]
      else(MO [AC.int IntKind.i64 u,AC.int IntKind.i64 ((O (O (a.r+b.r)+1)).fdiv (2^min (Int.toNat 1) IntKind.i64.bits)),AC.int IntKind.i64 (O (O (u*u)+O (w*w))),AC.int IntKind.i64 2]).bind λD=>
       (MO [AC.int IntKind.i64 w,AC.int IntKind.i64 ((O (O (a.r+b.r)+1)).fdiv (2^min (Int.toNat 1) IntKind.i64.bits)),AC.int IntKind.i64 (O (O (u*u)+O (w*w))),AC.int IntKind.i64 2]).bind λG=>
       some [AC.int IntKind.i64 (Ah (nth AC.vD D 0)),AC.int IntKind.i64 (Ah (nth AC.vD G 0)),AC.int IntKind.i64 ((O (O (a.r+b.r)+1)).fdiv (2^min (Int.toNat 1) IntKind.i64.bits)),AC.int IntKind.i64 ((O (O (a.h+b.h)+1)).fdiv (2^min (Int.toNat 1) IntKind.i64.bits)),AC.bool true]
     else(MO [AC.int IntKind.i64 u,AC.int IntKind.i64 ((O (O (a.r+b.r)+1)).fdiv (2^min (Int.toNat 1) IntKind.i64.bits)),AC.int IntKind.i64 (O (O (u*u)+O (w*w))),AC.int IntKind.i64 2]).bind λD=>
       (MO [AC.int IntKind.i64 w,AC.int IntKind.i64 ((O (O (a.r+b.r)+1)).fdiv (2^min (Int.toNat 1) IntKind.i64.bits)),AC.int IntKind.i64 (O (O (u*u)+O (w*w))),AC.int IntKind.i64 2]).bind λG=>
       some [AC.int IntKind.i64 (Ah (nth AC.vD D 0)),AC.int IntKind.i64 (Ah (nth AC.vD G 0)),AC.int IntKind.i64 ((O (O (a.r+b.r)+1)).fdiv (2^min (Int.toNat 1) IntKind.i64.bits)),AC.int IntKind.i64 ((O (O (a.h+b.h)+1)).fdiv (2^min (Int.toNat 1) IntKind.i64.bits)),AC.bool true])=
    some (AX (EF a b u w)++[B (decide (¬(u=0/\w=0)))]):=by
  have q1:=Cn S;have q2:=Cn T;have e:O (O (u*u)+O (w*w))=sq2 u w:=by
    unfold sq2;generalize u*u=x at*;generalize w*w=y at*;rw[Ad (x:=x),Ad (x:=y),Ad]
  have V:(O (O (a.r+b.r)+1)).fdiv (2^min (Int.toNat 1) IntKind.i64.bits)=hf a.r b.r:=by
    have X:=N.2.2.1;have Y:=hb.2.2.1;rw[Ad (x:=a.r+b.r),Ad (x:=a.r+b.r+1),show(2^min (Int.toNat 1) IntKind.i64.bits:Int)=2 from rfl,dy _ (by omega)];rfl
  have eh:(O (O (a.h+b.h)+1)).fdiv (2^min (Int.toNat 1) IntKind.i64.bits)=hf a.h b.h:=by
    have X:=N.2.2.2;have Y:=hb.2.2.2;rw[Ad (x:=a.h+b.h),Ad (x:=a.h+b.h+1),show(2^min (Int.toNat 1) IntKind.i64.bits:Int)=2 from rfl,dy _ (by omega)];rfl
  simp only[V,eh,e];simp only[go_sem];unfold EF;by_cases h:u=0/\w=0
  · rw[aa h.1,aa h.2,aa h]
    simp[h]
  · obtain⟨n1,n2⟩:=U h
    rw[ab h];simp only[n1,n2,go_sem];have hd:decide (¬(u=0/\w=0))=true:=ak h;rw[hd];by_cases L:u=0
    · rw[aa L,ab (λM=>h ⟨L,M⟩)];try rfl
    · rw[ab L];try rfl
theorem Zq8 {a b:Spk} (S:okS a) (hb:okS b) {dir:Int} (G:dir=1\/dir= -1) (bG:Bool)
    (hO:∀{u w:Int},u.natAbs<=100000000->w.natAbs<=100000000-> ¬(u=0/\w=0)->M [I u,I (hf a.r b.r),I (sq2 u w),I 2]=some [I (Bf u (hf a.r b.r) (sq2 u w)),B true]/\M [I w,I (hf a.r b.r),I (sq2 u w),I 2]=some [I (Bf w (hf a.r b.r) (sq2 u w)),B true])
    (hC:Z [I a.u,I a.w,I a.r,I a.h,I b.u,I b.w,I b.r,I b.h]=some [I (crs a.u a.w b.u b.w)]) (hD:W [I a.u,I a.w,I a.r,I a.h,I b.u,I b.w,I b.r,I b.h]=some [I (dt2 a.u a.w b.u b.w)])
    (a0:(crs a.u a.w b.u b.w).natAbs<=5000000000000000):
    Qhf M Z W [I a.u,I a.w,I a.r,I a.h,I b.u,I b.w,I b.r,I b.h,I dir,B bG]=some (AX (B9 a b dir bG)++[B (decide (¬((BE a b dir bG).1=0/\(BE a b dir bG).2=0)))]):=by
  have key:=fun{u w:Int} (V:u.natAbs<=100000000) (X:w.natAbs<=100000000)=>Yhp (MO:=M) (a:=a) (b:=b) S hb V X (hO V X);have L:=KH S hb G bG;obtain⟨a1,a2,-⟩:=S;obtain⟨b1,b2,-⟩:=hb;have w1:O (0-a.u)= -a.u:=by rw[Ad];omega
  have w2:O (0-a.w)= -a.w:=by rw[Ad];omega
  have w3:O (a.u+b.u)=a.u+b.u:=Ad;have w4:O (a.w+b.w)=a.w+b.w:=Ad;have w5:O (0-(a.u+b.u))= -(a.u+b.u):=by rw[Ad];omega
  have w6:O (0-(a.w+b.w))= -(a.w+b.w):=by rw[Ad];omega
  have w7:O (b.w-a.w)=b.w-a.w:=Ad;have w8:O (a.u-b.u)=a.u-b.u:=Ad;have w9:O (dir*(b.w-a.w))=dir*(b.w-a.w):=by rcases G with rfl|rfl<;>exact Ad
  have T:O (dir*(a.u-b.u))=dir*(a.u-b.u):=by rcases G with rfl|rfl<;>exact Ad
  have U:O (crs a.u a.w b.u b.w*dir)=crs a.u a.w b.u b.w*dir:=by rcases G with rfl|rfl<;>exact Ad
  rw[Zwn];try dsimp only[go_sem]
  unfold B9;simp only[w1,w2,w3,w4,w5,w6,w7,w8,w9,T,hC,hD,ai,F0,FP,gA,jA,wA,bA,U];have fin:∀{x:Option (List AC)},x=some (AX (EF a b (BE a b dir bG).1 (BE a b dir bG).2)++[B (decide (¬((BE a b dir bG).1=0/\(BE a b dir bG).2=0)))])->
      (bif dir !=1 then bif dir != -1 then some [AC.int IntKind.i64 0,AC.int IntKind.i64 0,AC.int IntKind.i64 0,AC.int IntKind.i64 0,AC.bool false]else x else x)=some (AX (EF a b (BE a b dir bG).1 (BE a b dir bG).2)++[B (decide (¬((BE a b dir bG).1=0/\(BE a b dir bG).2=0)))]):=by
    intro x Y;rcases G with rfl|rfl
    · rw[B0 (by decide)];exact Y
    · rw[BP (by decide),B0 (by decide)];exact Y
  refine fin ?_;have D:=key L.1 L.2;unfold BE at*;cases bG
  · simp only[aq,df,f9]at D⊢
    by_cases N:0<dt2 a.u a.w b.u b.w
    · rw[AQ (show¬dt2 a.u a.w b.u b.w<=0 by omega)]
      by_cases c2:0<crs a.u a.w b.u b.w*dir
      · rw[AQ (show¬crs a.u a.w b.u b.w*dir<=0 by omega)]
        rw[aa ⟨N,c2⟩]at D⊢;exact D
      · rw[Cp (show crs a.u a.w b.u b.w*dir<=0 by omega)]
        rw[ab (λh=>c2 h.2),aa N]at D⊢;exact D
    · rw[Cp (show dt2 a.u a.w b.u b.w<=0 by omega)]
      rw[ab (λh=>N h.1),ab N]at D⊢;exact D
  · simp only[ah,dp]at D⊢
    exact D
theorem Yf2 {u w r:Int} (D:u.natAbs<=100000000) (G:w.natAbs<=100000000) (L:0<=r/\r<=50000000) (h: ¬(u=0/\w=0)):
    IE [I u,I r,I (sq2 u w),I 2]=some [I (Bf u r (sq2 u w)),B true]/\IE [I w,I r,I (sq2 u w),I 2]=some [I (Bf w r (sq2 u w)),B true]:=by
  have M:=SE h;have N:=Cn D;have O:=Cn G;have S:sq2 u w<=20000000000000000:=by unfold sq2;omega
  exact⟨Y5 (by omega) (by omega) (by omega),Y5 (by omega) (by omega) (by omega)⟩
theorem Zsa {a b:Spk} (D:okS a) (hb:okS b) {dir:Int} (G:dir=1\/dir= -1) (bG:Bool):
    Mx [I a.u,I a.w,I a.r,I a.h,I b.u,I b.w,I b.r,I b.h,I dir,B bG]=some (AX (B9 a b dir bG)++[B (decide (¬((BE a b dir bG).1=0/\(BE a b dir bG).2=0)))]):=by
  have L:=(Up D.1 D.2.1 hb.1 hb.2.1).2;exact Zq8 D hb G bG (λM N h=>Yf2 M N (TX D.2.2.1 hb.2.2.1) h)
    (Qqa (De D.1) (De D.2.1) (De hb.1) (De hb.2.1)) (Qmv (De D.1) (De D.2.1) (De hb.1) (De hb.2.1)) L
def okT (s:Spk):Prop:=okS s/\ ¬(s.u=0/\s.w=0)/\1<=s.r
theorem Qvm {a b:Spk} (I: ¬(a.u=0/\a.w=0)) (hb: ¬(b.u=0/\b.w=0)) {dir:Int} (L:dir=1\/dir= -1) (bG:Bool): ¬((BE a b dir bG).1=0/\(BE a b dir bG).2=0):=by
  have M:=SE I;unfold sq2 at M;unfold BE;split
  · simp only;omega
  · rename_i hf
    have key:0<dt2 a.u a.w b.u b.w-> ¬(a.u+b.u=0/\a.w+b.w=0):=by
      intro G ⟨N,O⟩;have e1:b.u= -a.u:=by omega
      have e2:b.w= -a.w:=by omega
      unfold dt2 at G;rw[e1,e2,Int.mul_neg,Int.mul_neg]at G;omega
    split
    · rename_i c;exact key c.1
    · split
      · rename_i S D
        have:=key D;simp only;omega
      · rename_i S D
        simp only;rintro⟨N,O⟩;have e1:b.w=a.w/\a.u=b.u:=by rcases L with rfl|rfl<;>omega
        unfold dt2 at D;rw[e1.1,<-e1.2]at D;omega
theorem Yfb {u w r:Int} (G:u.natAbs<=100000000) (I:w.natAbs<=100000000) (T:1<=r/\r<=50000000) (h: ¬(u=0/\w=0)): ¬(Bf u r (sq2 u w)=0/\Bf w r (sq2 u w)=0):=by
  have U:=SE h;have V:=Cn G;have X:=Cn I;have Y:sq2 u w<=20000000000000000:=by unfold sq2;omega
  obtain⟨L,M⟩:=Ze6 u w;have key:∀x:Int,x.natAbs<=100000000->x*x<=sq2 u w->Bf x r (sq2 u w)=0->4*(x*x)<=sq2 u w:=by
    intro x N O S;obtain⟨-,-,D⟩:=Ra (x:=x) (r:=r) (n:=sq2 u w) (bm N (by decide)) (by omega) (by omega) O;rw[S]at D;obtain⟨-,D⟩:=D;have g4:4*(x.natAbs*r.natAbs*(x.natAbs*r.natAbs))<=(sq2 u w).natAbs:=by
      rw[show(0:Int).natAbs=0 from rfl]at D;split at D<;>omega
    have e1:x.natAbs*r.natAbs*(x.natAbs*r.natAbs)=x.natAbs*x.natAbs*(r.natAbs*r.natAbs):=by grind
    have g5:x.natAbs*x.natAbs*1<=x.natAbs*x.natAbs*(r.natAbs*r.natAbs):=jq _ (cy (show 1<=r.natAbs by omega) (show 1<=r.natAbs by omega));have e2:((x.natAbs*x.natAbs:Nat):Int)=x*x:=f8;omega
  rintro⟨g1,g2⟩;have k1:=key u G L g1;have k2:=key w I M g2;unfold sq2 at*;omega
theorem Yb4 {a b:Spk} (D:okT a) (hb:okT b) {dir:Int} (I:dir=1\/dir= -1) (bG:Bool):okT (B9 a b dir bG):=by
  have L:=Qvm D.2.1 hb.2.1 I bG;have G:=KH D.1 hb.1 I bG;have N:=D.1.2.2.1;have O:=hb.1.2.2.1;have S:=D.2.2;have T:=hb.2.2;have M:1<=hf a.r b.r/\hf a.r b.r<=50000000:=by unfold hf;omega
  refine⟨Tv D.1 hb.1 I bG,?_,?_⟩
  · unfold B9 EF
    rw[ab L];exact Yfb G.1 G.2 M L
  · unfold B9 EF
    rw[ab L];exact M.1
theorem Z8r {r n:Int} (D:0<=r/\r<=50000000):Ot [I r,I n]=some [B (decide (n<=32*r-64))]:=by
  unfold Ot;rw[Z8c,Ad (x:=8*r),Ad (x:=8*r*4),Ad (x:=8*r*4-64),show 8*r*4-64=32*r-64 by omega]
theorem Zqg {a b:Spk} (L:okS a) (hb:okS b) {dir:Int} (T:dir=1\/dir= -1) (bG:Bool)
    (U:∀{r n:Int},(0<=r/\r<=50000000)->M [I r,I n]=some [B (decide (n<=32*r-64))])
    (V:Z [I a.u,I a.w,I a.r,I a.h,I b.u,I b.w,I b.r,I b.h]=some [I (crs a.u a.w b.u b.w)]) (X:(crs a.u a.w b.u b.w).natAbs<=5000000000000000):
    Qkz M Z [.vC BS l,I a.u,I a.w,I a.r,I a.h,I b.u,I b.w,I b.r,I b.h,B bG,I dir]=some [.vC BS l,B (decide (EK a b dir bG)),I dir]:=by
  have Y:0<=mn a.r b.r/\mn a.r b.r<=50000000:=by
    have h1:=L.2.2.1;have h2:=hb.2.2.1;unfold mn;split<;>omega
  obtain⟨a1,a2,-⟩:=L;obtain⟨b1,b2,-⟩:=hb;have N:=Fp a1 b1;have S:=Fp a2 b2;have q1:=Cn N;have q2:=Cn S;have e:O (O ((a.u-b.u)*(a.u-b.u))+O ((a.w-b.w)*(a.w-b.w)))=sq2 (a.u-b.u) (a.w-b.w):=by
    unfold sq2;generalize(a.u-b.u)*(a.u-b.u)=x at*;generalize(a.w-b.w)*(a.w-b.w)=y at*;rw[Ad (x:=x),Ad (x:=y),Ad]
  have G:O (crs a.u a.w b.u b.w*dir)=crs a.u a.w b.u b.w*dir:=by rcases T with rfl|rfl<;>exact Ad
  rw[Zog,Ez N (by decide),Ez S (by decide),e];cases bG
  · simp only[Bool.not_false,ah,V,ai,F0,FP,gA,jA,wA,bA,G,U Y,R7]
    by_cases c:0<crs a.u a.w b.u b.w*dir
    · rw[Cp (show crs a.u a.w b.u b.w*dir>0 from c)]
      by_cases D:sq2 (a.u-b.u) (a.w-b.w)<=32*mn a.r b.r-64
      · rw[ak D,ak (show EK a b dir false from⟨rfl,c,D⟩)]
      · rw[am D,am (λh:EK a b dir false=>D h.2.2)]
    · rw[AQ (show¬crs a.u a.w b.u b.w*dir>0 from c),am (λh:EK a b dir false=>c h.2.1)]
  · simp only[j9,aq]
    rw[am (λh:EK a b dir true=>by cases h.1)]
theorem Zms {out:Rw} {a b:Spk} (D:okS a) (hb:okS b) {dir:Int} (G:dir=1\/dir= -1) (bG:Bool):
    LG [.vC BS out,I a.u,I a.w,I a.r,I a.h,I b.u,I b.w,I b.r,I b.h,B bG,I dir]=some [.vC BS out,B (decide (EK a b dir bG)),I dir]:=
  Zqg D hb G bG Z8r (Qqa (De D.1) (De D.2.1) (De hb.1) (De hb.2.1)) (Up D.1 D.2.1 hb.1 hb.2.1).2
theorem Qt8 {dir:Int} (D:dir=1\/dir= -1):∀(n k:Nat) (bG:Bool) (a b:Spk) (out:List Spk),k<=16->k<n->okT a->okT b->out.length+2^k<=1000000->
    OI n [.vC BS (out.map AX),I a.u,I a.w,I a.r,I a.h,I b.u,I b.w,I b.r,I b.h,B bG,I (16-k:Int),I dir]=some [.vC BS ((out++BN dir k bG a b).map AX),I dir]
  |0,k,_,_,_,_,_,M,_,_,_=>by omega
  |n+1,0,bG,a,b,out,_,_,G,hb,N=>by
    show Vf _ _ _ _=_;rw[Qwe,AQ (by omega),BP]
    · unfold BN
      rw[bn];rfl
    · exact fo (by simp only[ap,ac,ba,bv];omega)
  |n+1,k+1,bG,a,b,out,M,T,G,hb,N=>by
    have L:=Yb4 G hb D bG;have O:=Qvm G.2.1 hb.2.1 D bG;have e3:2^(k+1)=2^k+2^k:=by rw[eu];omega
    have U:0<2^k:=eg _;have V:=(PR k false a (B9 a b dir bG) (dir:=dir)).2;have i1:=Qt8 D n k false a (B9 a b dir bG) out (by omega) (by omega) G L (by omega);have S:=Qt8 D n k false (B9 a b dir bG) b (out++BN dir k false a (B9 a b dir bG)) (by omega) (by omega) L hb (by rw[ap];omega);have e1:=Zms (out:=out.map AX) G.1 hb.1 D bG;have e2:=Zsa G.1 hb.1 D bG;rw[ak O]at e2;show Vf (OI n) Mx LG _=_;generalize OI n=X at*;generalize Mx=Y at*;generalize LG=MS at*;rw[Qwe,Cp (by omega),Ad,show(16-((k+1:Nat):Int)+1)=16-(k:Int) by omega];unfold BN;generalize B9 a b dir bG=m at*;generalize BN dir k false a m=p1 at*;generalize BN dir k false m b=p2 at*;simp only[ay,az,AX]at e2;simp only[e1,e2,ai,F0,KX,KA,Pb,Ql,FP,gA,jA,wA,bA,R7,i1,S,Vz];by_cases c:EK a b dir bG
    · rw[aa c,B0 (by simp[c]),BP]
      · rw[bn];rfl
      · exact fo (by simp only[ap,ac,ba,bv];omega)
    · rw[ab c,BP (by simp[c]),ah,fd]
theorem Q8k {it:Itm} (D:bd 1048576 it.ce) (G:bd 1048576 a) (I:64<=sq2 (dU it a) (dW it a)):okT (Bx it a):=by
 obtain⟨T,U,L,M⟩:=LT D G;have e:sq2 (dU it a*16) (dW it a*16)=256*sq2 (dU it a) (dW it a):=by unfold sq2;grind
 refine⟨L7 D G,?_,?_⟩
 ·show¬(dU it a*16=0/\dW it a*16=0);rintro⟨g1,g2⟩;rw[show dU it a=0 by omega,show dW it a=0 by omega]at I;simp[sq2]at I
 ·show 1<=EI _;obtain⟨n,N⟩:=bj L;rw[N]at M⊢;obtain⟨r,-,O,S,-⟩:=PJ (n:=n) (by omega);rw[N0 (Oo O S)];have:1<=r:=by
   rcases dx r with h|h
   ·subst h;omega
   ·exact h
  split<;>omega
theorem Zj0 {n:Nat} (M:n<=2251799813685248):IZ [I n,I 2]=some [I (EI n),B true]:=by
 obtain⟨r,D,G,L⟩:=Q05 (n:=n) (mode:=2) (by omega) (.inr rfl);rw[D,N0 (Oo G L)];congr 3;by_cases c:r*r+r<n
 ·rw[aa (.inr ⟨rfl,c⟩),aa c]
 ·rw[ab (by simp;omega),ab c]
theorem Z90 {it:Itm} (hV:∃v,T (Af it)=some [B v]/\(v=true↔BK it)) (h:BK it)
  (O:it.aP=3->V (Af it)=some [I (dU it it.fr*16),I (dW it it.fr*16),I 0,I (plH it.aG it.fr*16),I (dU it it.to*16),I (dW it it.to*16),I 0,I (plH it.aG it.to*16)])
  (L:∀p:Pt,it.aP=3->(p=it.fr\/p=it.to)->W [I (dU it p*16),I (dW it p*16),I 0,I (plH it.aG p*16),I (dU it p*16),I (dW it p*16),I 0,I (plH it.aG p*16)]=some [I (sq2 (dU it p*16) (dW it p*16))])
  (N:∀p:Pt,it.aP=3->(p=it.fr\/p=it.to)->Z [I (sq2 (dU it p*16) (dW it p*16)),I 2]=some [I (EI (sq2 (dU it p*16) (dW it p*16))),B true])
  (S:it.aP=3->M (.vC BS [AX (Bx it it.fr)]::AX (Bx it it.fr)++AX (Bx it it.to)++[B it.bG,I 0,I it.dir])=some [.vC BS ((B3 it).map AX),I it.dir]):
  Qrp M Z W V T (Af it)=if it.aP=3 then some [.vC BS ((B3 it).map AX),B true]else some [.vC BS [],B false]:=by
 obtain⟨v,U,G⟩:=hV;rw[Yai];by_cases D:it.aP=3
 ·have e:=O D;have p:=S D;have X:=L it.fr D (.inl rfl);have Y:=L it.to D (.inr rfl);have q1:=N it.fr D (.inl rfl);have q2:=N it.to D (.inr rfl);simp only[ay,az,Bx,AX]at p;simp only[go_sem,U,e,X,Y,q1,q2,p];rw[ab (by simp[D]),ab (by simp[G.2 h]),aa D]
 ·simp only[go_sem];rw[aa D,ab D]
theorem Zk8 {it:Itm} (h:BK it):Pm (Af it)=if it.aP=3 then some [.vC BS ((B3 it).map AX),B true]else some [.vC BS [],B false]:=by
 have hb:it.aP=3->∀p:Pt,(p=it.fr\/p=it.to)->bd 1048576 it.ce/\bd 1048576 p:=by
  intro G p I;obtain⟨-,M,N,O⟩:=h;obtain⟨-,-,D,-⟩:=O G;rcases I with rfl|rfl
  ·exact⟨D,M⟩
  ·exact⟨D,N⟩
 refine Z90 (Qr7 it) h (λG=> ?_) (λp G I=> ?_) (λp G I=> ?_) λG=> ?_
 ·obtain⟨-,M,N,O⟩:=h;obtain⟨I,-,D,-⟩:=O G;exact Zh5 I M N D
 ·obtain⟨D,L⟩:=hb G p I;obtain⟨g1,g2,-⟩:=LT D L;exact Qmv (bm g1 (by decide)) (bm g2 (by decide)) (bm g1 (by decide)) (bm g2 (by decide))
 ·obtain⟨D,L⟩:=hb G p I;obtain⟨-,-,S,T⟩:=LT D L;obtain⟨n,U⟩:=bj S;rw[U]at T⊢;exact Zj0 (by omega)
 ·obtain⟨-,M,N,O⟩:=h;obtain⟨I,V,D,X,Y,-⟩:=O G;have:=Qt8 V 20 16 it.bG (Bx it it.fr) (Bx it it.to) [Bx it it.fr] (by omega) (by omega) (Q8k D M X) (Q8k D N Y) (show 1+2^16<=1000000 by decide);exact this
theorem Z3j {u w h pl:Int} (G:BY pl):Nc [I u,I w,I h,I pl]=some (ptR (spP pl u w h)):=by
 show Qla FG _=_;have D:=Qiz pl;generalize FG=M at*;rw[Z4k];rcases G with rfl|rfl|rfl
 ·have e:axI 17=(0,1,2):=rfl;rw[e]at D;rw[D];rfl
 ·have e:axI 18=(2,0,1):=rfl;rw[e]at D;rw[D];rfl
 ·have e:axI 19=(1,2,0):=rfl;rw[e]at D;rw[D];rfl
theorem Zof {α:Type} (pre rest:List α) (x z:α):(pre++x::rest).set pre.length z=(pre++[z])++rest:=by
 rw[List.set_append_right _ _ (cg _),iu];simp
def Eh {α:Type} (f:Nat->α) (z:α) (n i:Nat):List α:=(List.range i).map f++List.replicate (n-i) z
theorem Zef {α:Type} (f:Nat->α) (z:α) {n i:Nat} (h:i<=n):(Eh f z n i).length=n:=by unfold Eh;simp;omega
theorem Q83 {α:Type} (f:Nat->α) (z:α) {n i:Nat} (h:i<n):(Eh f z n i).set i (f i)=Eh f z n (i+1):=by
 unfold Eh;have e:n-i=(n-(i+1))+1:=by omega
 rw[e,jr];have:=Zof ((List.range i).map f) (List.replicate (n-(i+1)) z) z (f i);rw[ac,List.length_range]at this;rw[this,List.range_succ,bn];rfl
theorem Qzl {α:Type} (f:Nat->α) (z:α) (n:Nat):Eh f z n n=(List.range n).map f:=by unfold Eh;simp
theorem Zoc {α:Type} (l:List α) (d:α):(List.range l.length).map (λi=>l.getD i d)=l:=by
 apply List.ext_getElem
 ·simp
 ·intro i G D;simp[D]
def J0:Spk:=⟨0,0,0,0⟩
theorem Qzd {MS MP MF MK MV:Fn} {it:Itm} {l:List Spk} {cu cw:Int} (U:l.length<=65537) (N:cu.natAbs<=16777216) (O:cw.natAbs<=16777216) (L:∀s∈l,okS s)
  (T:∀{u w h:Int},MS [I u,I w,I h,I it.aG]=some (ptR (spP it.aG u w h))) {f:Nat->List AC} (hf:∀i,f i=ptR (spP it.aG (cu+(l.getD i J0).u) (cw+(l.getD i J0).w) (l.getD i J0).h)):
  ∀(k i:Nat),i+k=l.length->Al (OB MS MP MF MK MV) (.vC kPt (Eh f [I 0,I 0,I 0] l.length i)::I cu::I cw:: .vC BS (l.map AX)::I l.length::I i::Af it)=
   some (1,[.vC kPt ((List.range l.length).map f)])
 |0,i,V=>by
  refine AJ ?_ (by simp);rw[Q62];simp only[go_sem];rw[ab,show i=l.length by omega,Qzl]
 |k+1,i,V=>by
  have D:i<l.length:=by omega
  have X:OB MS MP MF MK MV (.vC kPt (Eh f [I 0,I 0,I 0] l.length i)::I cu::I cw:: .vC BS (l.map AX)::I l.length::I i::Af it)=
    some (0, .vC kPt (Eh f [I 0,I 0,I 0] l.length (i+1))::I cu::I cw:: .vC BS (l.map AX)::I l.length::I (i+1:Nat)::Af it):=by
   rw[Q62];have Y:nth [] (l.map AX) i=AX l[i]:=Em _ _ _ _ D;have ho:=L _ (bf D);have S:=Zef f [I 0,I 0,I 0] (show i<=l.length by omega);have M:=hf i;rw[show l.getD i J0=l[i] by simp[D]]at M;have G:=Q83 f [I 0,I 0,I 0] D;rw[M]at G;generalize l[i]=s at*;obtain⟨s1,s2,-⟩:=ho;simp only[go_sem,ag,ac,Y];rw[aa,aa,Ad (x:=cu+s.u),Ad (x:=cw+s.w),Ad (x:=(i:Int)+1)];simp only[T,go_sem,S];rw[aa,G];rfl
  rw[AS X];exact Qzd U N O L T hf k (i+1) (by omega)
theorem Z51 {MS G L MK M:Fn} {it:Itm} {S:List Spk} {f:Pt} {u w h:Int} (O:M (Af it)=some [B true])
  (T:MK (Af it)=some [.vC BS (S.map AX),B true]) (hf:L [I it.ce.x,I it.ce.y,I it.ce.z]=some (ptR f)) (D:G [I f.x,I f.y,I f.z,I it.aG]=some [I u,I w,I h]) (V:S.length<=65537)
  (U:N [.vC kPt (List.replicate S.length [I 0,I 0,I 0]),I u,I w, .vC BS (S.map AX),I S.length,I 0,I it.aP,I it.block,I it.fr.x,I it.fr.y,I it.fr.z,I it.to.x,I it.to.y,I it.to.z,I it.aG,I it.ce.x,I it.ce.y,I it.ce.z,I it.dir,B it.bG,I it.aZ,B it.perRev,I it.side,I it.radius,I it.bH,I it.n,I it.aS,B it.on]=some (1,[.vC kPt l])):
  UZ MS G L MK M N (Af it)=some [.vC kPt l,B true]:=by
 rw[WD];simp only[go_sem,O,T,hf,D,ac,ag,U];rw[ab (by simp),ab (by simp),aa]
theorem Yfs {it:Itm} (hV:∃v,T (Af it)=some [B v]/\(v=true↔BK it)) (h:BK it)
  (O:V (Af it)=if it.aP=3 then some [.vC BS ((B3 it).map AX),B true]else some [.vC BS [],B false])
  (S:∀{p:Pt},bd 100000000 p->W [I p.x,I p.y,I p.z]=some (ptR (Aw p))) (hP:BY it.aG->∀{p:Pt},Z [I p.x,I p.y,I p.z,I it.aG]=some [I (plU it.aG p),I (plW it.aG p),I (plH it.aG p)])
  (hS:BY it.aG->∀{u w h:Int},M [I u,I w,I h,I it.aG]=some (ptR (spP it.aG u w h))):
  UZ M Z W V T (Al (OB M Z W V T)) (Af it)=some [.vC kPt ((Bt it).map ptR),B true]:=by
 obtain⟨v,hv,U⟩:=hV;rw[WD];have X:=U.2 h;subst X;obtain⟨-,h1,h2,ha⟩:=id h;by_cases D:it.aP=3
 ·obtain⟨hp,hd,hc,-⟩:=ha D;rw[aa D]at O;obtain⟨c1,c2,c3⟩:=D8 (pl:=it.aG) (DD hc);have G:=(Tk it).2;have Y:=Qzd (MS:=M) (MP:=Z) (MF:=W) (MK:=V) (MV:=T) (it:=it) (l:=B3 it) (cu:=plU it.aG (Aw it.ce)) (cw:=plW it.aG (Aw it.ce)) G c1 c2 (Qnm h D) (hS hp)
   (f:=λi=>ptR (IL it ((B3 it).getD i J0))) (λ_=>rfl) (B3 it).length 0 (by omega)
  have L:(List.range (B3 it).length).map (λi=>ptR (IL it ((B3 it).getD i J0)))=((B3 it).map (IL it)).map ptR:=by
   rw[List.map_map]
   conv=>rhs;rw[<-Zoc (B3 it) J0]
   rw[List.map_map];rfl
  rw[L]at Y;have a0:Eh (λi=>ptR (IL it ((B3 it).getD i J0))) [I 0,I 0,I 0] (B3 it).length 0=List.replicate (B3 it).length [I 0,I 0,I 0]:=by unfold Eh;simp
  rw[a0]at Y;have hf:=S (AI hc (by decide));have a1:= @hP hp (Aw it.ce);have:=Z51 (MS:=M) (N:=Al (OB M Z W V T)) hv O hf a1 G Y;rw[WD]at this;unfold Bt;rw[aa D];exact this
 ·rw[ab D]at O;have f1:=S (AI h1 (by decide));have f2:=S (AI h2 (by decide));unfold Bt;rw[ab D];simp only[go_sem,hv,O,f1,f2];simp
theorem Yhd {it:Itm} (h:BK it):Qt (Af it)=some [.vC kPt ((Bt it).map ptR),B true]:=
 Yfs (Qr7 it) h (Zk8 h) Q8s (λD=>Q0i D) (λD=>Z3j D)
end Go.Bm
