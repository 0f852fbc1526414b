/- laid together -/
import Derived.Test.YtnnpdlgenmnekaaGreatDoorPrTf
import Derived.Test.YtnnpdlgenmnekaaGreatDoorMx3
set_option linter.unusedVariables false
set_option linter.defProp false
set_option linter.unusedSimpArgs false
set_option maxRecDepth 100000
open Go.IntKind (wrap)
variable {a u b k v e R S:Int} {p:Go.Bm.Pth} {i A:Nat} {t:Go.Bm.Trk} {M Z V P H G F:Go.Bm.Fn} {l:Go.Bm.Rw} {d q h:Go.Bm.Pt} {Q:Int->Go.Bm.Pt->Prop} {g:Go.Bm.Sgm} {N:Go.Bm.Lp}
namespace Go.Bm
open Classical
def Iz (sp:Int) (l:List Int):Prop:=(∀v∈l,-4096<=v/\v<=4096)/\∀i,i+1<l.length-> -sp<=4*(l.getD (i+1) 0-l.getD i 0)/\4*(l.getD (i+1) 0-l.getD i 0)<=sp
structure AxOK (a : Axs) : Prop where
 step:4<=a.step/\a.step<=64
 bB:0<=a.bB/\a.bB<=6
 aV: -200<=a.aV/\a.aV<=200
 aO:a.aW≠[]->4<=a.aO/\a.aO<=123
 aW:Iz a.aO a.aW
 count:a.aW.length<=4
 lim:1<=a.aS/\a.aS<=1000/\2<=a.bF/\a.bF<=1000/\4<=a.bG/\a.bG<=1000/\a.low= -16777216/\a.aY=16777216
def Z40 {sp v w:Int} {l:List Int} (h:Iz sp (l++[v])) (I: -4096<=w/\w<=4096) (hd: -sp<=4*(w-v)/\4*(w-v)<=sp):Iz sp (l++[v]++[w]):=by
 refine⟨?_,?_⟩
 ·intro x D;rcases bt.1 D with D|D
  ·exact h.1 x D
  grind
 intro i G;simp only[cg,gh,ff]at G;by_cases c:i+1<(l++[v]).length
 ·have:=h.2 i c
  grind
 simp only[cg,gh,ff]at c;have e:i=l.length:=by omega
 simp_all
def Z6m {l:List Int} (h:Iz a (l++[v])):Iz a l:=by
 refine⟨λx D=>h.1 x (by grind),λi G=> ?_⟩;have:=h.2 i (by grind)
 grind
def Zyl (D: -4096<=v/\v<=4096):Iz a ([]++[v]):=⟨λx G=>by grind,λi I=>by grind⟩
def Z9b (h:0<=v/\v<6):∃x,Af (nth .vD (nth [] [[I 8],[I 4],[I 5],[I 16],[I 23],[I 64]] v.toNat) 0)=x/\4<=x/\x<=64:=by
 have D:v=0\/v=1\/v=2\/v=3\/v=4\/v=5:=by omega
 rcases D with rfl|rfl|rfl|rfl|rfl|rfl<;>exact⟨_,rfl,by decide⟩
def Qhs (h:0<=v/\v<5):∃x y z,Af (nth .vD (nth [] [[I 40],[I 1],[I 3],[I 9],[I 1000]] v.toNat) 0)=x/\Af (nth .vD (nth [] [[I 20],[I 2],[I 3],[I 5],[I 1000]] v.toNat) 0)=y/\Af (nth .vD (nth [] [[I 30],[I 4],[I 5],[I 8],[I 1000]] v.toNat) 0)=z/\1<=x/\x<=1000/\2<=y/\y<=1000/\4<=z/\z<=1000:=by
 have D:v=0\/v=1\/v=2\/v=3\/v=4:=by omega
 rcases D with rfl|rfl|rfl|rfl|rfl<;>exact⟨_,_,_,rfl,rfl,rfl,by decide⟩
def Z21 (h:0<=v/\v<4):∃x,Af (nth .vD (nth [] [[I 0],[I 1],[I 3],[I 6]] v.toNat) 0)=x/\0<=x/\x<=6:=by
 have D:v=0\/v=1\/v=2\/v=3:=by omega
 rcases D with rfl|rfl|rfl|rfl<;>exact⟨_,rfl,by decide⟩
abbrev axS (l:Rw) (D:List Int) (n v:Int) (j:Nat) (a:Axs) (k:Nat):List AC:=
 [.vC Aa [], .vC Aa (D.map Ap),I n,I v,I j,I 0,I 0,I 0,I 0,I 0,I 0,I 0,I 0,I 0,I a.step,I a.aS,I a.bF,I a.bG,I a.low,I a.aY,I a.bB,I a.aV,I a.aO, .vC Aa l,I k]
def Znd {MN:Fn} {l:Rw} (N:He l MN) {a:Axs} (L:4<=a.aO/\a.aO<=123):∀(r j:Nat) (D:List Int) (v:Int) (k:Nat),j+r<=4->D.length=j->Iz a.aO (D++[v])->
  ∃(G:List Int) (k':Nat),Ak (T3 MN) (axS l D (j+r:Nat) v j a k)=some (1,[.vC Aa [], .vC Aa (G.map Ap),I 0,I 0,I 0,I 0,I 0,I 0,I 0,I 0,I 0,I a.step,I a.aS,I a.bF,I a.bG,I a.low,I a.aY,I a.bB,I a.aV,I a.aO, .vC Aa l,I k'])/\G.length=j+r/\Iz a.aO G
 |0,j,D,v,k,_,V,h=>by
  refine⟨D,k,Bc (o:=(1,_)) ?_ (by simp),by omega,Z6m h⟩;simp[Zdg]
 |r+1,j,D,v,k,hj,V,h=>by
  have hv:=h.1 v (by simp);have X:O (a.aO.tdiv 4)=a.aO/4:=by rw[dg (by omega),Ad]
  have Y:O (O (2*(a.aO/4))+1)=2*(a.aO/4)+1:=by rw[Ad (x:=2*(a.aO/4)),Ad]
  obtain⟨w,U,hw,w0,w1,-⟩:=N k (n:=2*(a.aO/4)+1) (by omega);have e6:O (O (v+w)-a.aO/4)=v+w-a.aO/4:=by rw[Ad (x:=v+w),Ad]
  have hle:(D.map Ap++[[I v]]).length*8<=140737488355328:=by rw[cg,aj];simp only[gh,ff];omega
  have M:T3 MN (axS l D (j+(r+1):Nat) v j a k)=some (0,axS l (D++[v]) (j+1+r:Nat) (min (max (v+w-a.aO/4) (-4096)) 4096) (j+1) a U):=by
   rw[Zdg];simp only[go_sem,ac hle,X,Y,hw,e6,JP,Np];rw[ac,Ad (x:=(j:Int)+1),show j+(r+1)=j+1+r by omega];simp only[axS,d8,bz,fx,Ap,je,ik]
  rw[Bw M];obtain⟨p',k',h1,h2,h3⟩:=Znd N L r (j+1) (D++[v]) (min (max (v+w-a.aO/4) (-4096)) 4096) U (by omega) (by grind) (Z40 h (by omega) (by omega))
  grind
def Zuk (G:He l M)
  (hL:∀{a:Axs} {n:Nat} {v:Int} {k:Nat},(4<=a.aO/\a.aO<=123)->n<=4->Iz a.aO ([]++[v])->∃(D:List Int) (k':Nat),N (axS l [] n v 0 a k)=some (1,[.vC Aa [], .vC Aa (D.map Ap),I 0,I 0,I 0,I 0,I 0,I 0,I 0,I 0,I 0,I a.step,I a.aS,I a.bF,I a.bG,I a.low,I a.aY,I a.bB,I a.aV,I a.aO, .vC Aa l,I k'])/\D.length=n/\Iz a.aO D) (k:Nat):
  ∃(a:Axs) (k':Nat),Yc M N [.vC Aa l,I k]=some (BK a++[.vC Aa l,I k'])/\AxOK a:=by
 obtain⟨v1,k1,h1,a1,b1,-⟩:=G k (n:=6) (by omega);obtain⟨v2,k2,h2,a2,b2,-⟩:=G k1 (n:=4) (by omega);obtain⟨v3,k3,h3,a3,b3,-⟩:=G k2 (n:=5) (by omega);obtain⟨v4,k4,h4,a4,b4,-⟩:=G k3 (n:=5) (by omega);obtain⟨v5,k5,h5,a5,b5,-⟩:=G k4 (n:=5) (by omega);obtain⟨L,k6,h6,a6,b6,-⟩:=G k5 (n:=5) (by omega);obtain⟨v7,k7,h7,a7,b7,-⟩:=G k6 (n:=400) (by omega);obtain⟨v8,k8,h8,a8,b8,-⟩:=G k7 (n:=120) (by omega);obtain⟨v9,k9,h9,a9,b9,-⟩:=G k8 (n:=9) (by omega);obtain⟨O,e1,s1⟩:=Z9b ⟨a1,b1⟩;obtain⟨U,e2,s2⟩:=Z21 ⟨a2,b2⟩;have i1:(0:Int)<=v1/\v1<(([[I 8],[I 4],[I 5],[I 16],[I 23],[I 64]]:Rw).length:Int):=⟨a1,by omega⟩;have i2:(0:Int)<=v2/\v2<(([[I 0],[I 1],[I 3],[I 6]]:Rw).length:Int):=⟨a2,by omega⟩;have i3:(0:Int)<=v3/\v3<(([[I 40],[I 1],[I 3],[I 9],[I 1000]]:Rw).length:Int):=⟨a3,by omega⟩;have i4:(0:Int)<=v4/\v4<(([[I 20],[I 2],[I 3],[I 5],[I 1000]]:Rw).length:Int):=⟨a4,by omega⟩;have i5:(0:Int)<=v5/\v5<(([[I 30],[I 4],[I 5],[I 8],[I 1000]]:Rw).length:Int):=⟨a5,by omega⟩;obtain⟨V,_,_,a0,-,-,s3,t3,-⟩:=Qhs ⟨a3,b3⟩;obtain⟨_,X,_,-,b0,-,-,-,s4,t4,-⟩:=Qhs ⟨a4,b4⟩;obtain⟨_,_,Y,-,-,c0,-,-,-,-,s5,t5⟩:=Qhs ⟨a5,b5⟩;have main : ∀ R, R = (if L = 0 then some [I O, I V, I X, I Y, I (-16777216), I 16777216, I U, I 0, I 0, .vC Aa [], .vC Aa l, I k6] else
   (N (axS l [] L.toNat (v9-4) 0 ⟨O,V,X,Y,-16777216,16777216,U,v7-200,4+v8,[]⟩ k9)).bind λo=>if o.1=1 then some [I (Af (nth .vD o.2 11)),I (Af (nth .vD o.2 12)),I (Af (nth .vD o.2 13)),I (Af (nth .vD o.2 14)),I (Af (nth .vD o.2 15)),I (Af (nth .vD o.2 16)),I (Af (nth .vD o.2 17)),I (Af (nth .vD o.2 18)),I (Af (nth .vD o.2 19)), .vC Aa (BI (nth .vD o.2 1)), .vC Aa (BI (nth .vD o.2 20)),I (Af (nth .vD o.2 21))]else none)->
   ∃(a:Axs) (k':Nat),R=some (BK a++[.vC Aa l,I k'])/\AxOK a:=by
  intro R hR;by_cases c:L=0
  ·rw[ac c]at hR;refine⟨⟨O,V,X,Y,-16777216,16777216,U,0,0,[]⟩,k6,hR,?_⟩;exact⟨s1,s2,by simp,λh=>absurd rfl h,⟨by simp,by simp⟩,by simp,⟨s3,t3,s4,t4,s5,t5,rfl,rfl⟩⟩
  rw[ab c]at hR;obtain⟨c1,k',g1,g2,g3⟩:=hL (a:=⟨O,V,X,Y,-16777216,16777216,U,v7-200,4+v8,[]⟩) (n:=L.toNat) (v:=v9-4) (k:=k9) (by grind) (by omega) (Zyl (by omega));rw[g1]at hR;refine⟨⟨O,V,X,Y,-16777216,16777216,U,v7-200,4+v8,c1⟩,k',?_,?_⟩
  ·rw[hR];rfl
  exact⟨s1,s2,by grind,λ_=>by grind,g3,by grind,⟨s3,t3,s4,t4,s5,t5,rfl,rfl⟩⟩
 refine main _ ?_;rw[Zqk];simp only[go_sem,h1,h2,h3,h4,h5,h6,ac i1,ac i2,ac i3,ac i4,ac i5,e1,e2,a0,b0,c0];by_cases c:L=0
 ·grind
 rw[ab c,ab c];simp only[h7,h8,h9,go_sem,Ad (x:=v9-4),Ad (x:=v7-200),Ad (x:=4+v8)]
 grind
def Qka (D:Src l) (k:Nat):∃(a:Axs) (k':Nat),Rl [.vC Aa l,I k]=some (BK a++[.vC Aa l,I k'])/\AxOK a:=by
 refine Zuk (N:=Qjb) (HX D) (fun{a n v k} M hn O=> ?_) k;obtain⟨p,k',G,L,U⟩:=Znd (MN:=C0) (HX D) M n 0 [] v k (by omega) rfl O;rw[fw]at G L;exact⟨p,k',G,L,U⟩
structure Ax3M (x : Ax3) : Prop where
 a:AxOK x.a
 b:AxOK x.b
 c:AxOK x.c
theorem Ax3M.ok {x:Ax3} (h:Ax3M x):Ax3OK x:=⟨by grind [h.a.bB],by grind [h.b.bB],by grind [h.c.bB]⟩
def Z52 (G:Src l):∃x:Ax3,SC [.vC Aa l]=some (AF x)/\Ax3M x:=by
 obtain⟨a,L,O,g1⟩:=Qka G 0;obtain⟨b,U,M,g2⟩:=Qka G L;obtain⟨c,Y,N,V⟩:=Qka G U;refine⟨⟨a,b,c⟩,?_,g1,g2,V⟩;have hf:=RZ l;unfold SC;generalize Rl=X at*;generalize DR=MF at*;rw[Yd4];have D:X [.vC Aa l,I 0]=some (BK a++[.vC Aa l,I L]):=O;simp only[BK,da,cq]at D M N;simp only[go_sem,hf,D,M,N]
def Z7i {x:Ax3} {mv lo hi f:Int} (j:Nat):(Cn p x mv lo hi (⟨[],0,f,d⟩,d) j).1.aQ=f/\(Cn p x mv lo hi (⟨[],0,f,d⟩,d) j).1.aT=d:=by
 induction j with
 |zero=>exact⟨rfl,rfl⟩
 |succ j D=>grind [Cn,Z99]
def Zj9 {p:Pth} {x:Ax3} {lo D mv f:Int} {d:Pt} (L:mv=1\/mv= -1) (G:GoodPath p) (I:Ax3OK x):∀(k j:Nat),j+k=p.aF.length->∀w,w=Cn p x mv lo D (⟨[],0,f,d⟩,d) j->
  Ak (Xg I9 SJ) (Q9 p x lo D mv w.1 w.2 j)=some (1,OD x mv (Cn p x mv lo D (⟨[],0,f,d⟩,d) p.aF.length).1 (Cn p x mv lo D (⟨[],0,f,d⟩,d) p.aF.length).2)
 |0,j,V,w,O=>by simp_all [Bc,Zf5]
 |k+1,j,V,w,O=>by
  have U:=G.count;have hb:=ZC (mv:=mv) (lo:=lo) (hi:=D) (f:=f) (d:=d) I G.ok j (by omega);rw[<-O]at hb;have M:=Z5z (N:=SJ) (lo:=lo) (hi:=D) (now:=w.2) (j:=j) L G I hb (by omega) (by omega) (by omega) (fun{a b s aR} X=>Z23 L I hb (by omega) (by omega) (by omega) X);rw[Bw M];exact Zj9 L G I k (j+1) (by omega) _ (by grind [Cn])
def Zor {N G:Lp} {x:Ax3} {lo D mv f:Int}
  (O:N (SG p x lo D mv ⟨[],0,f,d⟩ d 0 [] 0)=some (1,[.vC Aa (Gf p.aF p.aF.length), .vC An [],I lo,I D,I mv,I p.aQ.x,I p.aQ.y,I p.aQ.z, .vC Ai (p.aF.map At), .vC AN (p.aD.map Aq),I d.x,I d.y,I d.z,I mv,I x.a.step,I x.a.aS,I x.a.bF,I x.a.bG,I x.a.low,I x.a.aY,I x.a.bB,I x.a.aV,I x.a.aO, .vC Aa (x.a.aW.map Ap),I x.b.step,I x.b.aS,I x.b.bF,I x.b.bG,I x.b.low,I x.b.aY,I x.b.bB,I x.b.aV,I x.b.aO, .vC Aa (x.b.aW.map Ap),I x.c.step,I x.c.aS,I x.c.bF,I x.c.bG,I x.c.low,I x.c.aY,I x.c.bB,I x.c.aV,I x.c.aO, .vC Aa (x.c.aW.map Ap),I 0,I f,I d.x,I d.y,I d.z]))
  (L:G (Q9 p x lo D mv ⟨[],0,f,d⟩ d 0)=some (1,OD x mv (Cn p x mv lo D (⟨[],0,f,d⟩,d) p.aF.length).1 (Cn p x mv lo D (⟨[],0,f,d⟩,d) p.aF.length).2)):
  Qco M N G [.vC An [],I p.aQ.x,I p.aQ.y,I p.aQ.z, .vC Ai (p.aF.map At), .vC AN (p.aD.map Aq),I lo,I D,I mv,I d.x,I d.y,I d.z,I mv,I x.a.step,I x.a.aS,I x.a.bF,I x.a.bG,I x.a.low,I x.a.aY,I x.a.bB,I x.a.aV,I x.a.aO, .vC Aa (x.a.aW.map Ap),I x.b.step,I x.b.aS,I x.b.bF,I x.b.bG,I x.b.low,I x.b.aY,I x.b.bB,I x.b.aV,I x.b.aO, .vC Aa (x.b.aW.map Ap),I x.c.step,I x.c.aS,I x.c.bF,I x.c.bG,I x.c.low,I x.c.aY,I x.c.bB,I x.c.aV,I x.c.aO, .vC Aa (x.c.aW.map Ap),I 0,I f,I d.x,I d.y,I d.z]=some (OD x mv (Cn p x mv lo D (⟨[],0,f,d⟩,d) p.aF.length).1 (Cn p x mv lo D (⟨[],0,f,d⟩,d) p.aF.length).2):=by
 rw[Zy1];simp only[SG,fx,ik]at O;simp only[Q9,fx,ik]at L;simp only[go_sem,aj,O,L]
def Zph {x:Ax3} {lo D mv f:Int} (L:mv=1\/mv= -1) (G:GoodPath p) (N:Ax3OK x):
  T9 [.vC An [],I p.aQ.x,I p.aQ.y,I p.aQ.z, .vC Ai (p.aF.map At), .vC AN (p.aD.map Aq),I lo,I D,I mv,I d.x,I d.y,I d.z,I mv,I x.a.step,I x.a.aS,I x.a.bF,I x.a.bG,I x.a.low,I x.a.aY,I x.a.bB,I x.a.aV,I x.a.aO, .vC Aa (x.a.aW.map Ap),I x.b.step,I x.b.aS,I x.b.bF,I x.b.bG,I x.b.low,I x.b.aY,I x.b.bB,I x.b.aV,I x.b.aO, .vC Aa (x.b.aW.map Ap),I x.c.step,I x.c.aS,I x.c.bF,I x.c.bG,I x.c.low,I x.c.aY,I x.c.bB,I x.c.aV,I x.c.aO, .vC Aa (x.c.aW.map Ap),I 0,I f,I d.x,I d.y,I d.z]=some (OD x mv (Cn p x mv lo D (⟨[],0,f,d⟩,d) p.aF.length).1 (Cn p x mv lo D (⟨[],0,f,d⟩,d) p.aF.length).2):=by
 refine Zor ?_ (Zj9 L G N p.aF.length 0 (by omega) _ rfl);have h:=Q6a (M:=I9) (x:=x) (lo:=lo) (hi:=D) (mv:=mv) (t:=⟨[],0,f,d⟩) (now:=d) G.ok p.aF.length 0 (by omega);exact h
def Ydn {x:Ax3} (G:H (BG p)=some [I (AJ p.aF)]) (L:∀n h:Int,P [I n,I h]=some [I (Be n h)])
  (D:∀{lo hi mv f:Int},(mv=1\/mv= -1)->M [.vC An [],I p.aQ.x,I p.aQ.y,I p.aQ.z, .vC Ai (p.aF.map At), .vC AN (p.aD.map Aq),I lo,I hi,I mv,I d.x,I d.y,I d.z,I mv,I x.a.step,I x.a.aS,I x.a.bF,I x.a.bG,I x.a.low,I x.a.aY,I x.a.bB,I x.a.aV,I x.a.aO, .vC Aa (x.a.aW.map Ap),I x.b.step,I x.b.aS,I x.b.bF,I x.b.bG,I x.b.low,I x.b.aY,I x.b.bB,I x.b.aV,I x.b.aO, .vC Aa (x.b.aW.map Ap),I x.c.step,I x.c.aS,I x.c.bF,I x.c.bG,I x.c.low,I x.c.aY,I x.c.bB,I x.c.aV,I x.c.aO, .vC Aa (x.c.aW.map Ap),I 0,I f,I d.x,I d.y,I d.z]=some (OD x mv (Cn p x mv lo hi (⟨[],0,f,d⟩,d) p.aF.length).1 (Cn p x mv lo hi (⟨[],0,f,d⟩,d) p.aF.length).2)):
  Qea M Z V P H (BG p++AF x++[I d.x,I d.y,I d.z,I a,I u])=some (Bh (Bg p x d a u)):=by
 have he:=Zrl M Z V P H p.aQ.x p.aQ.y p.aQ.z (p.aF.map At) (p.aD.map Aq) x.a.step x.a.aS x.a.bF x.a.bG x.a.low x.a.aY x.a.bB x.a.aV x.a.aO (x.a.aW.map Ap) x.b.step x.b.aS x.b.bF x.b.bG x.b.low x.b.aY x.b.bB x.b.aV x.b.aO (x.b.aW.map Ap) x.c.step x.c.aS x.c.bF x.c.bG x.c.low x.c.aY x.c.bB x.c.aV x.c.aO (x.c.aW.map Ap) d.x d.y d.z a u;refine de he ?_;unfold Bg;simp only[G,L,go_sem,JP,Np];generalize Be a (AJ p.aF)=f at*;generalize Be u (AJ p.aF)=t at*;by_cases c:t<f
 ·have h:=D (lo:=min f t) (hi:=max f t) (f:=f) (.inr rfl);simp only[h,go_sem,c]
 have h:=D (lo:=min f t) (hi:=max f t) (f:=f) (.inl rfl);simp only[h,go_sem,c]
def Zf1 {x:Ax3} {from_ to:Int} (D:GoodPath p) (G:Ax3OK x):OH (BG p++AF x++[I d.x,I d.y,I d.z,I from_,I to])=some (Bh (Bg p x d from_ to)):=
 Ydn (Ze1 D.ok) (λ_ _=>TI) λL=>Zph L D G
def Qt (t:Trk):Pt:=if t.aE=[]then t.aT else(Bu t.aE).aT
theorem Yfc {x:Ax3} (d:Pt) (a b:Int) (D:GoodPath p) (G:Ax3OK x):(Bg p x d a b).aE.length<=10000000/\0<=(Bg p x d a b).length/\(Bg p x d a b).length<=900000000000000:=by
 have I:=D.count;have h:=ZC (mv:=if Be a (AJ p.aF)>Be b (AJ p.aF)then-1 else 1) (lo:=min (Be a (AJ p.aF)) (Be b (AJ p.aF))) (hi:=max (Be a (AJ p.aF)) (Be b (AJ p.aF))) (f:=Be a (AJ p.aF)) (d:=d) G D.ok p.aF.length (dm _);obtain⟨L,M,-⟩:=h
 grind [Bg]
def YJ {x:Ax3} {mv:Int} {Q:Int->Pt->Prop}:∀{a s:Int} {d:Pt} {l:List Pce},DE x mv Q a s d l->a<=B2 a l
 |a,_,_,[],_=>fa _
 |a,s,d,c::l,h=>by
  obtain⟨-,-,G,-,D⟩:=h;have:=YJ D
  grind [B2]
def S_ {x:Ax3} {mv:Int} {Q:Int->Pt->Prop} (G:mv=1\/mv= -1):∀{a s:Int} {d:Pt} {l:List Pce},DE x mv Q a s d l->∀i,i<l.length->
  a<=(pcA l i).at_/\1<=(pcA l i).aR/\eI l i<=B2 a l/\(s-((pcA l i).at_-a)<=(pcA l i).s/\(pcA l i).s<=s+((pcA l i).at_-a))/\((pcA l i).bD=0\/(pcA l i).bD=mv)
 |a,s,d,c::l,h,0,_=>by
  obtain⟨I,L,M,N,D⟩:=h;have:=YJ D
  grind [eI,IH,B2]
 |a,s,d,c::l,h,i+1,U=>by
  obtain⟨I,L,M,N,D⟩:=h;have O:=S_ G D i (by grind);unfold eI at O⊢;rw[Gw]
  grind [B2]
def Q4q {x:Ax3} {mv:Int} {Q:Int->Pt->Prop} (I:mv=1\/mv= -1):∀{a s:Int} {d:Pt} {l:List Pce},DE x mv Q a s d l->∀i j,i<=j->j<l.length->eI l i<=eI l j
 |a,s,d,c::l,h,0,0,_,_=>fa _
 |a,s,d,c::l,h,0,j+1,_,L=>by
  obtain⟨M,N,O,U,D⟩:=h;have:=S_ I D j (by grind)
  grind [eI,IH,Gw]
 |a,s,d,c::l,h,i+1,0,G,_=>by omega
 |a,s,d,c::l,h,i+1,j+1,G,L=>by
  obtain⟨M,N,O,U,D⟩:=h;have:=Q4q I D i j (by omega) (by grind)
  grind [eI,Gw]
theorem Qlr {x:Ax3} {mv:Int} {Q:Int->Pt->Prop}:∀{a s:Int} {d:Pt} {l:List Pce},DE x mv Q a s d l->l≠[]->eI l (l.length-1)=B2 a l
 |a,s,d,[c],h,_=>by
  obtain⟨G,-⟩:=h
  grind [eI,B2,IH]
 |a,s,d,c::e::l,h,_=>by
  obtain⟨-,-,-,-,D⟩:=h;have:=Qlr D (by simp);have e1:(c::e::l).length-1=((e::l).length-1)+1:=by simp
  rw[e1];unfold eI at*;rw[Gw,this];rfl
def mvP (p:Pth) (a b:Int):Int:=if Be a (AJ p.aF)>Be b (AJ p.aF)then-1 else 1
theorem QH (p:Pth) (a b:Int):mvP p a b=1\/mvP p a b= -1:=by grind [mvP]
def Lw {x:Ax3} (G:Ax3OK x) (D:GoodPath p) (I:Y0 p (mvP p a b) Q):
  ∃L,TC x (mvP p a b) Q (Bg p x d a b) (Be b (AJ p.aF)) L/\(Bg p x d a b).aQ=Be a (AJ p.aF)/\(Bg p x d a b).aT=d:=by
 have hn:=WL D;have N:0<=Be a (AJ p.aF)/\Be a (AJ p.aF)<=AJ p.aF:=by unfold Be;omega
 have hb:0<=Be b (AJ p.aF)/\Be b (AJ p.aF)<=AJ p.aF:=by unfold Be;omega
 have O:=λmv lo M f=>Z7i (p:=p) (x:=x) (mv:=mv) (lo:=lo) (hi:=M) (f:=f) (d:=d) p.aF.length;unfold Bg mvP at*;simp only;generalize Be a (AJ p.aF)=f at*;generalize Be b (AJ p.aF)=t at*;have h:=Ze3 (lo:=min f t) (hi:=max f t) (f:=f) (d:=d) (by omega) G D.ok (by omega) (by omega) I p.aF.length (dm _);have U:KV p.aF (if f>t then-1 else 1) (min f t) (max f t) p.aF.length=t:=by
  unfold KV;rw[Nat.sub_self,VO,Zfq];by_cases c:f>t
  ·omega
  omega
 grind
theorem Z53 {x:Ax3} {s:Int} (G:a=1\/a= -1) (h:TC x a Q t s d) (hb:t.aE.length<=10000000/\0<=t.length/\t.length<=900000000000000) (L:0<=t.aQ/\t.aQ<=263886834032640):TQ t:=by
 obtain⟨I,N,-,-⟩:=h;refine⟨hb.1,hb.2,λi D=> ?_,Q4q G I,λM=>by grind [Qlr],L,λi D=> ?_,λi D=> ?_⟩
 ·have:=S_ G I i D;omega
 ·have:=S_ G I i D
  grind [eI]
 have:=(S_ G I i D).2.2.2.2;omega
def Rh {x:Ax3} (d:Pt) (a b:Int) (G:Ax3OK x) (D:GoodPath p):TQ (Bg p x d a b):=by
 have hn:=WL D;obtain⟨I,L,M,-⟩:=Lw (d:=d) (a:=a) (b:=b) (Q:=λ_ _=>True) G D (λ_ _ _ _ _ _ _ _=>trivial)
 grind [Z53,QH,Yfc,Be]
def A4 (a:Axs) (i:Nat):Int:=a.aW.getD i 0
def Bs (a:Axs) (p:Int):Int:=
 if a.aW=[]then 0
 else if p<=a.aV then A4 a 0
 else if(p-a.aV)/a.aO>=a.aW.length-1 then A4 a (a.aW.length-1)
 else A4 a ((p-a.aV)/a.aO).toNat+AA ((A4 a (((p-a.aV)/a.aO).toNat+1)-A4 a ((p-a.aV)/a.aO).toNat)*(p-a.aV-(p-a.aV)/a.aO*a.aO)) a.aO
def A1 (a:Axs) (p:Int):Int:=AA (p+Bs a p) a.step
def okB (p:Int):Prop:= -1000000000<=p/\p<=1000000000
def Vi {l:List Int} (h:l≠[]):0<l.length:=by grind
def Pg {a:Axs} (h:AxOK a) {i:Nat} (D:i<a.aW.length): -4096<=A4 a i/\A4 a i<=4096:=by
 have e:A4 a i=a.aW[i]:=by unfold A4;simp[D]
 rw[e];exact h.aW.1 _ (dl _)
theorem VH {a:Axs} (D:i<a.aW.length):nth [] (a.aW.map Ap) i=[I (A4 a i)]:=by
 have e:A4 a i=a.aW[i]:=by unfold A4;simp[D]
 rw[e];exact IS _ _ _ _ D
def Q9p {a:Axs} (h:AxOK a) (D:a.aW≠[]) {p:Int} (G: ¬p<=a.aV) (I: ¬(p-a.aV)/a.aO>=a.aW.length-1):
  ∃(i:Nat) (r:Int),((p-a.aV)/a.aO=i)/\i+1<a.aW.length/\0<=r/\r<a.aO/\p-a.aV=i*a.aO+r/\p-a.aV-(p-a.aV)/a.aO*a.aO=r:=by
 have L:=h.aO D;have e0:=Int.mul_ediv_add_emod (p-a.aV) a.aO;have e1:=ju (p-a.aV) (show a.aO≠0 by omega);have e2:=jf (p-a.aV) (show 0<a.aO by omega);have e3:0<=(p-a.aV)/a.aO:=jv (by omega) (by omega);refine⟨((p-a.aV)/a.aO).toNat,(p-a.aV)%a.aO,by omega,by omega,e1,e2,?_,?_⟩
 ·grind
 grind
def Zk6 {a:Axs} (h:AxOK a) (D:a.aW≠[]) {i:Nat} (I:i+1<a.aW.length) {r:Int} (G:0<=r/\r<=a.aO):
  (-30<=A4 a (i+1)-A4 a i/\A4 a (i+1)-A4 a i<=30)/\(AA ((A4 a (i+1)-A4 a i)*r) a.aO).natAbs<=31:=by
 have L:=h.aO D;have M:=h.aW.2 i I;have hd: -30<=A4 a (i+1)-A4 a i/\A4 a (i+1)-A4 a i<=30:=by unfold A4;omega
 refine⟨hd,Qc9 (by omega) ?_⟩;have m1:(A4 a (i+1)-A4 a i)*r<=31*r:=ap (by omega) G.1;have m2: -31*r<=(A4 a (i+1)-A4 a i)*r:=ap (by omega) G.1;omega
def Q7l {a:Axs} (h:AxOK a) (p:Int): -5000<=Bs a p/\Bs a p<=5000:=by
 unfold Bs;by_cases c:a.aW=[]
 ·grind
 have I:=Vi c;by_cases D:p<=a.aV
 ·rw[ac D];have:=Pg h (I);omega
 rw[ab D];by_cases G:(p-a.aV)/a.aO>=a.aW.length-1
 ·rw[ac G];have:=Pg h (show a.aW.length-1<a.aW.length by omega);omega
 rw[ab G];obtain⟨i,r,e1,e2,e3,M,N,L⟩:=Q9p h c D G;rw[L,e1,ag];have b1:=Pg h (show i<a.aW.length by omega);have b2:=(Zk6 h c e2 (r:=r) (by omega)).2;omega
def Zyj {a:Axs} (h:AxOK a) {v:Int} (D:v.natAbs<=1000010000):Sz (BK a++[I v])=some [I (AA v a.step)]:=by
 have G:=h.step;have he:=Zqp a.step a.aS a.bF a.bG a.low a.aY a.bB a.aV a.aO (a.aW.map Ap) v;refine de he ?_;rw[Ad (x:=2*v),Ad (x:=2*v+a.step),Ad];have L:=Int.tmod_add_mul_tdiv (2*v+a.step) (2*a.step);have M:=Int.tmod_lt_of_pos (2*v+a.step) (show 0<2*a.step by omega);have N:=Int.lt_tmod_of_pos (2*v+a.step) (show 0<2*a.step by omega);have O:((2*v+a.step).tdiv (2*a.step)).natAbs<=(2*v+a.step).natAbs:=by rw[Int.natAbs_tdiv];exact gy _ _
 generalize(2*v+a.step).tdiv (2*a.step)=q at*;generalize(2*v+a.step).tmod (2*a.step)=r at*;have e1:2*a.step*q=q*(2*a.step):=jk _ _;rw[BX (by omega),BX (by omega),BX (by omega),BX (by omega),Ad (x:=q)];by_cases h:r<0
 ·rw[E0 h,Ad,F6 (by omega)]
  ·grind
  grind
 rw[BX h,F6 (by omega)]
 ·omega
 grind
def Qzl {a:Axs} (h:AxOK a) {p:Int} (V:okB p):G1 (BK a++[I p])=some [I (Bs a p)]:=by
 unfold okB at V;have ho:=h.aV;have hc:=h.count;have he:=Z5w Cy a.step a.aS a.bF a.bG a.low a.aY a.bB a.aV a.aO (a.aW.map Ap) p;unfold G1;have X:=fun{x y:Int} (hx:x.natAbs<=30) (hy:y.natAbs<=123) (U:4<=a.aO/\a.aO<=123)=>Zfs (a:=x) (b:=y) (c:=a.aO) (by omega) (by omega) (by omega);generalize Cy=M at*;refine de he ?_;unfold Bs;rw[aj];by_cases c:a.aW=[]
 ·rw[ac c,c];rfl
 have Y:=Vi c;have U:=h.aO c;have e1:O ((a.aW.length:Int)-1)=((a.aW.length-1:Nat):Int):=by rw[Ad];omega
 have e2:O (p-a.aV)=p-a.aV:=Ad;rw[ab c,e2,e1];by_cases L:p<=a.aV
 ·rw[ac L];simp only[go_sem,VH Y]
  grind
 have e3:O ((p-a.aV).tdiv a.aO)=(p-a.aV)/a.aO:=by
  rw[dg (by omega)];have:=jv (show 0<=p-a.aV by omega) (show 0<=a.aO by omega);have:=Int.ediv_le_self a.aO (show 0<=p-a.aV by omega);exact Ad
 rw[ab L,e3];by_cases N:(p-a.aV)/a.aO>=(a.aW.length:Int)-1
 ·rw[ac N];simp only[go_sem,ag,VH (show a.aW.length-1<a.aW.length by omega)]
  grind
 rw[ab N];obtain⟨i,r,g1,g2,g3,g4,g5,g6⟩:=Q9p h c L N;obtain⟨n1,n2⟩:=Zk6 h c g2 (r:=r) (by omega);have b1:=Pg h (show i<a.aW.length by omega);rw[g6,g1]at*;rw[ag];have w1:O ((i:Int)+1)=((i+1:Nat):Int):=by rw[Ad];omega
 have hmul:(i:Int)*a.aO=p-a.aV-r:=by omega
 have w2:O (p-a.aV-O ((i:Int)*a.aO))=r:=by rw[hmul,Ad (x:=p-a.aV-r),Ad];omega
 have D:(0:Int)<=(i:Int)/\(i:Int)<(a.aW.length:Int):=by omega
 have G:(0:Int)<=((i+1:Nat):Int)/\((i+1:Nat):Int)<(a.aW.length:Int):=by omega
 simp only[go_sem,w1,w2,ag,VH (show i<a.aW.length by omega),VH g2,ac D,ac G];have b2:=Pg h g2;generalize A4 a (i+1)=y at*;generalize A4 a i=z at*;rw[ab,ab,ab,ab,ab,Ad (x:=y-z),X (by omega) (by omega) U];simp only[go_sem];rw[Ad]
def Xo {a:Axs} (h:AxOK a) {p:Int} (D:okB p):OB (BK a++[I p])=some [I (A1 a p)]:=by
 have hb:=Q7l h p;have G:=Qzl h D;unfold okB at D;have L:=Zyj h (v:=p+Bs a p) (by omega);have he:=Z6f Sz G1 a.step a.aS a.bF a.bG a.low a.aY a.bB a.aV a.aO (a.aW.map Ap) p;refine de he ?_;simp at G L;simp only[G,go_sem,Ad (x:=p+Bs a p),L];rfl
def BT (a:Axs) (d:Int):Int:=if d= -1 then-a.bB else 0
def Ct (a:Axs) (bD at_ was aT u:Int):Int:=if bD≠0\/was=aT then BT a aT else if aT= -1 then-min (u-at_) a.bB else min (u-at_) a.bB-a.bB
def T_ {a:Axs} (hb:0<=a.bB/\a.bB<=1000) (v:Int):Q1 (BK a++[I v])=some [I (BT a v)]:=by
 have he:=Zop a.step a.aS a.bF a.bG a.low a.aY a.bB a.aV a.aO (a.aW.map Ap) v;refine de he ?_;unfold BT;by_cases c:v= -1
 ·rw[GE (by simp[c]),ac c,Ad];simp
 grind
def Z3g {a:Axs} {c:Pce} (G:∀v:Int,M (BK a++[I v])=some [I (BT a v)]) (hb:0<=a.bB/\a.bB<=1000) (V:0<=u-c.at_/\u-c.at_<=2000000000000000):
  RJ M (BK a++AT c++[I 0,I u])=some [I (Ct a c.bD c.at_ c.was.x c.aT.x u)]:=by
 have he:=Qf8 M a.step a.aS a.bF a.bG a.low a.aY a.bB a.aV a.aO (a.aW.map Ap) c.at_ c.aR c.s c.bD c.was.x c.was.y c.was.z c.aT.x c.aT.y c.aT.z 0 u;refine de he ?_;have D:=G c.aT.x;simp at D;have e1:O (0+1)=1:=rfl;have e2:O (1+1)=2:=rfl;have L:O (u-c.at_)=u-c.at_:=Ad;have N:O (0-min (u-c.at_) a.bB)= -min (u-c.at_) a.bB:=by rw[Ad];omega
 have U:O (min (u-c.at_) a.bB-a.bB)=min (u-c.at_) a.bB-a.bB:=Ad;unfold Ct;simp only[go_sem,e1,e2,JP,L,N,U,Nat.reduceAdd,ik,Int.natCast_zero,Int.natCast_one,Int.reduceEq,D];by_cases X:c.bD=0
 ·by_cases Y:c.was.x=c.aT.x
  ·grind
  grind
 grind
def Zzb {a:Axs} {c:Pce} (G:∀v:Int,M (BK a++[I v])=some [I (BT a v)]) (hb:0<=a.bB/\a.bB<=1000) (V:0<=u-c.at_/\u-c.at_<=2000000000000000):
  RJ M (BK a++AT c++[I (O (0+1)),I u])=some [I (Ct a c.bD c.at_ c.was.y c.aT.y u)]:=by
 have he:=Qf8 M a.step a.aS a.bF a.bG a.low a.aY a.bB a.aV a.aO (a.aW.map Ap) c.at_ c.aR c.s c.bD c.was.x c.was.y c.was.z c.aT.x c.aT.y c.aT.z (O (0+1)) u;refine de he ?_;have D:=G c.aT.y;simp at D;have e1:O (0+1)=1:=rfl;have e2:O (1+1)=2:=rfl;have L:O (u-c.at_)=u-c.at_:=Ad;have N:O (0-min (u-c.at_) a.bB)= -min (u-c.at_) a.bB:=by rw[Ad];omega
 have U:O (min (u-c.at_) a.bB-a.bB)=min (u-c.at_) a.bB-a.bB:=Ad;unfold Ct;simp only[go_sem,e1,e2,JP,L,N,U,Nat.reduceAdd,ik,Int.natCast_zero,Int.natCast_one,Int.reduceEq,D];by_cases X:c.bD=0
 ·by_cases Y:c.was.y=c.aT.y
  ·grind
  grind
 grind
def Z8r {a:Axs} {c:Pce} (G:∀v:Int,M (BK a++[I v])=some [I (BT a v)]) (hb:0<=a.bB/\a.bB<=1000) (V:0<=u-c.at_/\u-c.at_<=2000000000000000):
  RJ M (BK a++AT c++[I (O (O (0+1)+1)),I u])=some [I (Ct a c.bD c.at_ c.was.z c.aT.z u)]:=by
 have he:=Qf8 M a.step a.aS a.bF a.bG a.low a.aY a.bB a.aV a.aO (a.aW.map Ap) c.at_ c.aR c.s c.bD c.was.x c.was.y c.was.z c.aT.x c.aT.y c.aT.z (O (O (0+1)+1)) u;refine de he ?_;have D:=G c.aT.z;simp at D;have e1:O (0+1)=1:=rfl;have e2:O (1+1)=2:=rfl;have L:O (u-c.at_)=u-c.at_:=Ad;have N:O (0-min (u-c.at_) a.bB)= -min (u-c.at_) a.bB:=by rw[Ad];omega
 have U:O (min (u-c.at_) a.bB-a.bB)=min (u-c.at_) a.bB-a.bB:=Ad;unfold Ct;simp only[go_sem,e1,e2,JP,L,N,U,Nat.reduceAdd,ik,Int.natCast_zero,Int.natCast_one,Int.reduceEq,D];by_cases X:c.bD=0
 ·by_cases Y:c.was.z=c.aT.z
  ·grind
  grind
 grind
def Zwl {a:Axs} (hb:0<=a.bB/\a.bB<=1000) {bD at_ was aT u:Int} (D:0<=u-at_): -1000<=Ct a bD at_ was aT u/\Ct a bD at_ was aT u<=1000:=by grind [Ct,BT]
def Zxn (D:bd B26 q) (G:1<=g.len/\g.len<=268435456/\bd B26 g.to) (hd:0<=b/\b<=g.len):bd 201326592 (Gh q g b):=by
 have key:∀u v:Int,u.natAbs<=B26->v.natAbs<=B26->(v+AA ((u-v)*b) g.len).natAbs<=201326592:=by
  intro u v L I;have M:=I2 L I;have N:=Qty (by omega) (co M (by decide)) hd;have O:v.natAbs<=67108864:=I;omega
 exact⟨key _ _ G.2.2.1 D.1,key _ _ G.2.2.2.1 D.2.1,key _ _ G.2.2.2.2 D.2.2⟩
def Q1i (h:GoodPath p) (s:Int):bd 201326592 (atP p s):=by
 unfold atP;by_cases c:p.aF=[]
 ·rw[c];exact AH h.aQ (by decide)
 have D:=h.ok;obtain⟨G,I,L,M⟩:=Qe6 (s:=max s 0) c (λg N=>(D.seg g N).1) (by omega);rw[M];exact Zxn (Yep h.aQ D G) (D.seg _ (Iw G)) ⟨I,L⟩
def O3 {a:Axs} (h:AxOK a) {p:Int} (D:okB p):(A1 a p).natAbs<=2000000000:=by
 have hb:=Q7l h p;have G:=h.step;unfold okB at D;refine Qc9 (by omega) ?_;omega
def shT (a:Axs) (t:Trk) (u:Int) (f:Pt->Int):Int:=if t.aE=[]then BT a (f t.aT)else Ct a (pcA t.aE (iT t u)).bD (pcA t.aE (iT t u)).at_ (f (pcA t.aE (iT t u)).was) (f (pcA t.aE (iT t u)).aT) (clT t u)
def Bv (p:Pth) (x:Ax3) (s:Int):Pt:=⟨A1 x.a (atP p s).x,A1 x.b (atP p s).y,A1 x.c (atP p s).z⟩
def BB (p:Pth) (x:Ax3) (t:Trk) (u:Int):Pt:=
 ⟨(Bv p x (AD t u)).x+shT x.a t u Pt.x,(Bv p x (AD t u)).y+shT x.b t u Pt.y,(Bv p x (AD t u)).z+shT x.c t u Pt.z⟩
theorem YR (h:TQ t) (D:∀i,i+1<t.aE.length->(pcA t.aE (i+1)).at_=eI t.aE i) (M:t.aE≠[]->(pcA t.aE 0).at_=0) (u:Int) (G:t.aE≠[]):(pcA t.aE (iT t u)).at_<=clT t u/\(0<iT t u->(pcA t.aE (iT t u)).at_<clT t u):=by
 have I:=Io h u G;have N:=NF h u;by_cases c:iT t u=0
 ·grind
 obtain⟨j,L⟩:∃j,iT t u=j+1:=⟨iT t u-1,by omega⟩;rw[L]at I⊢;rw[D j I];have: ¬clT t u<=eI t.aE j:=by
  intro g;have:=WG (by omega) g;unfold iT at L;omega
 omega
theorem Zjo (h:TQ t) (u:Int):clT t (clT t u)=clT t u:=by grind [clT,Be]
theorem Qf1 (h:TQ t) (u:Int):AD t (clT t u)=AD t u:=by grind [AD,iT,Zjo]
def Qzb (h:TQ t) (u:Int): -3000000000000000<=AD t u/\AD t u<=3000000000000000:=by
 unfold AD;by_cases c:t.aE=[]
 ·rw[ac c];grind [h.aQ]
 have D:=Io h u c;have G:=h.pos _ D;have I:=h.s _ D;have L:=h.bD _ D;have M:=NF h u;have N:=h.len
 grind [eI]
def Qjl (h:GoodPath p) (s:Int):okB (atP p s).x/\okB (atP p s).y/\okB (atP p s).z:=by
 obtain⟨D,G,I⟩:=Q1i h s
 grind [okB]
structure TH (t : Trk) : Prop where
 q:TQ t
 at0:t.aE≠[]->(pcA t.aE 0).at_=0
 at1:∀i,i+1<t.aE.length->(pcA t.aE (i+1)).at_=eI t.aE i
def Qo {a:Axs} (hb:0<=a.bB/\a.bB<=1000) {t:Trk} (h:TH t) (u:Int) (f:Pt->Int): -1000<=shT a t u f/\shT a t u f<=1000:=by
 unfold shT;by_cases c:t.aE=[]
 ·rw[ac c];grind [BT]
 rw[ab c];exact Zwl hb (by simp_all [YR,h.q,h.at1,h.at0])
def Zwk {x:Ax3} (hp:GoodPath p) (D:Ax3M x) (L:TH t) (hC:F [I u,I t.length]=some [I (clT t u)]) (hL:G (Bh t++[I (clT t u)])=some [I (AD t u)]) (hA:H (BG p++[I (AD t u)])=some (ptR (atP p (AD t u))))
  (N:P (Bh t++[I (clT t u)])=some [I (if t.aE=[]then-1 else(iT t u:Int))]) (hM:∀{a:Axs} {q:Int},AxOK a->okB q->V (BK a++[I q])=some [I (A1 a q)]) (hD:∀{a:Axs} (v:Int),(0<=a.bB/\a.bB<=1000)->Z (BK a++[I v])=some [I (BT a v)])
  (h0:∀{a:Axs} {c:Pce} {u:Int},(0<=a.bB/\a.bB<=1000)->(0<=u-c.at_/\u-c.at_<=2000000000000000)->M (BK a++AT c++[I 0,I u])=some [I (Ct a c.bD c.at_ c.was.x c.aT.x u)])
  (h1:∀{a:Axs} {c:Pce} {u:Int},(0<=a.bB/\a.bB<=1000)->(0<=u-c.at_/\u-c.at_<=2000000000000000)->M (BK a++AT c++[I (O (0+1)),I u])=some [I (Ct a c.bD c.at_ c.was.y c.aT.y u)])
  (h2:∀{a:Axs} {c:Pce} {u:Int},(0<=a.bB/\a.bB<=1000)->(0<=u-c.at_/\u-c.at_<=2000000000000000)->M (BK a++AT c++[I (O (O (0+1)+1)),I u])=some [I (Ct a c.bD c.at_ c.was.z c.aT.z u)]):
  Qca M Z V P H G F (BG p++AF x++Bh t++[I u])=some (ptR (BB p x t u)):=by
 have he:=Ycu M Z V P H G F u p x t;refine de he ?_;obtain⟨o1,o2,o3⟩:=Qjl hp (AD t u);have m1:=hM D.a o1;have m2:=hM D.b o2;have m3:=hM D.c o3;have b1:=O3 D.a o1;have b2:=O3 D.b o2;have b3:=O3 D.c o3;have s1:=Qo D.ok.a L u Pt.x;have s2:=Qo D.ok.b L u Pt.y;have s3:=Qo D.ok.c L u Pt.z;unfold BB Bv;generalize A1 x.a (atP p (AD t u)).x=q1 at*;generalize A1 x.b (atP p (AD t u)).y=q2 at*;generalize A1 x.c (atP p (AD t u)).z=q3 at*;have w1:O (q1+shT x.a t u Pt.x)=q1+shT x.a t u Pt.x:=Ad;have w2:O (q2+shT x.b t u Pt.y)=q2+shT x.b t u Pt.y:=Ad;have w3:O (q3+shT x.c t u Pt.z)=q3+shT x.c t u Pt.z:=Ad;by_cases c:t.aE=[]
 ·have U:=hD t.aT.x D.ok.a;have X:=hD t.aT.y D.ok.b;have Y:=hD t.aT.z D.ok.c;unfold shT at*;rw[ac c]at N;simp only[ac c]at w1 w2 w3⊢;simp only[BG,Bh,BK,da,cq]at hL hA N U X Y m1 m2 m3;simp only[hC,hL,hA,N,go_sem,m1,m2,m3,U,X,Y,w1,w2,w3];rfl
 have hi:=Io L.q u c;have a2:=L.q.count;have a4:=(YR L.q L.at1 L.at0 u c).1;have a5:=NF L.q u;have hlen:=L.q.len;have a3:=L.q.pos _ hi;have a1:(0:Int)<=(iT t u:Int)/\(iT t u:Int)<(t.aE.length:Int):=by omega
 have a0: ¬((iT t u:Int)<0):=by omega
 have U:=h0 (c:=pcA t.aE (iT t u)) (u:=clT t u) D.ok.a (by omega);have X:=h1 (c:=pcA t.aE (iT t u)) (u:=clT t u) D.ok.b (by omega);have Y:=h2 (c:=pcA t.aE (iT t u)) (u:=clT t u) D.ok.c (by omega);unfold shT at*;rw[ab c]at N;simp only[ab c]at w1 w2 w3⊢;simp only[BG,Bh,BK,AT,da,cq]at hL hA N U X Y m1 m2 m3;simp only[hC,hL,hA,N,go_sem,m1,m2,m3,aj,ac a1,ag,P0 hi,ab a0,U,X,Y,w1,w2,w3]
def Yc2 {x:Ax3} (M:GoodPath p) (N:Ax3M x) (D:TH t) (u:Int):E_ (BG p++AF x++Bh t++[I u])=some (ptR (BB p x t u)):=by
 have V:=Qzb D.q u;have G:=Tq D.q (clT t u);rw[Qf1 D.q]at G;exact Zwk M N D TI G (Zhp M (by grind [i64])) (Qay D.q u) (λO U=>Xo O U) (λv hb=>T_ hb v) (λhb L=>Z3g (T_ hb) hb L) (λhb L=>Zzb (T_ hb) hb L) (λhb L=>Z8r (T_ hb) hb L)
theorem Qvl {x:Ax3} {a s:Int} {l:List Pce} (h:DE x u Q a s d l) (D:l≠[]):(pcA l 0).at_=a:=by
 cases l with
 |nil=>grind
 |cons c l=>rw[IH];exact h.1
def Qq8 {x:Ax3} {mv:Int} {Q:Int->Pt->Prop}:∀{a s:Int} {d:Pt} {l:List Pce},DE x mv Q a s d l->∀i,i+1<l.length->(pcA l (i+1)).at_=eI l i
 |a,s,d,[],h,i,D=>by rfl
 |a,s,d,c::l,h,0,D=>by
  obtain⟨I,L,M,N,G⟩:=h;unfold eI
  grind [Gw,IH,Qvl]
 |a,s,d,c::l,h,i+1,D=>by
  obtain⟨I,L,M,N,G⟩:=h;have:=Qq8 G i (by grind)
  grind [eI,Gw]
def UV {x:Ax3} (d:Pt) (a b:Int) (D:Ax3OK x) (G:GoodPath p):TH (Bg p x d a b):=by
 obtain⟨L,I,M,-⟩:=Lw (Q:=λ_ _=>True) D G (λ_ _ _ _ _ _ _ _=>trivial);exact⟨Rh d a b D G,Qvl I.ch,Qq8 I.ch⟩
def Zf0 {a:Axs} (h:AxOK a) (p:Int): -1<=Bs a (p+1)-Bs a p/\Bs a (p+1)-Bs a p<=1:=by
 unfold Bs;by_cases c:a.aW=[]
 ·grind
 have hl:=Vi c;have hs:=h.aO c;rw[ab c,ab c];have M:∀i,i+1<a.aW.length-> -a.aO<=A4 a (i+1)-A4 a i/\A4 a (i+1)-A4 a i<=a.aO:=λi V=>by
  have hp:=h.aW.2 i V
  grind [A4]
 by_cases O:p<=a.aV
 ·rw[ac O];by_cases X:p+1<=a.aV
  ·omega
  rw[ab X];have e:p+1-a.aV=1:=by omega
  have e2:(1:Int)/a.aO=0:=jg (by omega) (by omega);rw[e,e2];by_cases I:(0:Int)>=a.aW.length-1
  ·grind
  rw[ab I];have g:=QG (D:=A4 a 1-A4 a 0) (L:=a.aO) (d:=0) (by omega) (M 0 (by omega));have g0:AA 0 a.aO=0:=F6 (by omega) (by omega) (by omega)
  grind
 rw[ab O,ab (show¬p+1<=a.aV by omega)];have e0:=Int.mul_ediv_add_emod (p-a.aV) a.aO;have e1:=ju (p-a.aV) (show a.aO≠0 by omega);have e2:=jf (p-a.aV) (show 0<a.aO by omega);have e3:0<=(p-a.aV)/a.aO:=jv (by omega) (by omega);have key:∀(k r:Int),0<=r->r<a.aO->p+1-a.aV=a.aO*k+r->(p+1-a.aV)/a.aO=k:=by
  intro k r Y r1 N;rw[N,Int.mul_add_ediv_left _ _ (by omega),jg Y r1,ie]
 generalize(p-a.aV)/a.aO=i at*;generalize(p-a.aV)%a.aO=r at*;obtain⟨n,rfl⟩:∃n:Nat,i=n:=⟨i.toNat,by omega⟩;have U:p-a.aV-(n:Int)*a.aO=r:=by rw[jk];omega
 rw[U];by_cases c4:r+1<a.aO
 ·rw[key n (r+1) (by omega) c4 (by omega)];have G:p+1-a.aV-(n:Int)*a.aO=r+1:=by rw[jk]at U⊢;omega
  rw[G];by_cases I:(n:Int)>=a.aW.length-1
  ·omega
  rw[ab I,ab I,ag];have g:=QG (D:=A4 a (n+1)-A4 a n) (L:=a.aO) (d:=r) (by omega) (M n (by omega));omega
 have N:p+1-a.aV=a.aO*((n:Int)+1)+0:=by rw[Int.mul_add];omega
 rw[key ((n:Int)+1) 0 (by omega) (by omega) N];have G:p+1-a.aV-((n:Int)+1)*a.aO=0:=by rw[jk];omega
 rw[G,i9];have g0:AA 0 a.aO=0:=F6 (by omega) (by omega) (by omega);rw[g0];have et:((n:Int)+1).toNat=n+1:=by omega
 rw[et,ag];by_cases I:(n:Int)>=a.aW.length-1
 ·omega
 rw[ab I];have g:=QG (D:=A4 a (n+1)-A4 a n) (L:=a.aO) (d:=r) (by omega) (M n (by omega));rw[show r+1=a.aO by omega,Qs (by omega)]at g;by_cases c5:(n:Int)+1>=a.aW.length-1
 ·rw[ac c5,show a.aW.length-1=n+1 by omega];omega
 omega
def Qmq {a:Axs} (h:AxOK a) (p:Int): -1<=A1 a (p+1)-A1 a p/\A1 a (p+1)-A1 a p<=1:=by
 have G:=Zf0 h p;have I:=h.step;have D:0<a.step:=by omega
 unfold A1;have up:AA (p+Bs a p+a.step) a.step=AA (p+Bs a p) a.step+1:=by
  obtain⟨a1,b1⟩:=PI (a:=p+Bs a p) D;refine F6 D ?_ ?_
  ·grind
  grind
 have dn:AA (p+Bs a p-a.step) a.step=AA (p+Bs a p) a.step-1:=by
  obtain⟨a1,b1⟩:=PI (a:=p+Bs a p) D;refine F6 D ?_ ?_
  ·grind
  grind
 have m1:=H1 D (show p+1+Bs a (p+1)<=p+Bs a p+a.step by omega);have m2:=H1 D (show p+Bs a p-a.step<=p+1+Bs a (p+1) by omega);omega
def Z8m {a:Axs} (h:AxOK a) {p q:Int} (G: -1<=q-p/\q-p<=1): -1<=A1 a q-A1 a p/\A1 a q-A1 a p<=1:=by
 have D:q=p+1\/q=p\/p=q+1:=by omega
 rcases D with rfl|rfl|rfl
 ·exact Qmq h p
 ·omega
 have:=Qmq h q;omega
def okD (d:Pt):Prop:=(d.x=1\/d.x= -1)/\(d.y=1\/d.y= -1)/\(d.z=1\/d.z= -1)
def Ztd {d a b:Pt} (D:u=1\/u= -1) (h:okD d):okD (DF d a b u):=by grind [okD,DF,Lh]
def Q8w {c:Pce} (h:∀k∈t.aE,okD k.aT) (D:okD c.aT):∀k∈(Fs t c).aE,okD k.aT:=by
 unfold Fs
 grind
theorem Qx0 {p:Pth} {x:Ax3} {mv lo G f:Int} {d:Pt} (I:mv=1\/mv= -1) (hd:okD d):∀j,(∀k∈(Cn p x mv lo G (⟨[],0,f,d⟩,d) j).1.aE,okD k.aT)/\okD (Cn p x mv lo G (⟨[],0,f,d⟩,d) j).2
 |0=>by grind [Cn]
 |j+1=>by
  obtain⟨L,M⟩:=Qx0 I hd j;rw[Cn];unfold Ix;split
  ·unfold CV;have D:=Ztd (a:=E8 p.aQ p.aF (Ei p.aF.length mv j)) (b:=(sgA p.aF (Ei p.aF.length mv j)).to) I M;refine⟨Q8w ?_ D,D⟩;split
   ·exact Q8w L D
   omega
  grind
def Xe {x:Ax3} (hd:okD d):∀k∈(Bg p x d a b).aE,okD k.aT:=by grind [Bg,Qx0]
def Gn (a:Axs) (g:Int->Int) (f:Pt->Int) (c:Pce) (u:Int):Int:=A1 a (g (c.s+c.bD*(u-c.at_)))+Ct a c.bD c.at_ (f c.was) (f c.aT) u
def DT (a:Axs) (g:Int->Int) (f:Pt->Int):List Pce->Int->Int
 |[],_=>0
 |c::l,u=>if u<=c.at_+c.aR then Gn a g f c u else DT a g f l u
def F7 (x:Ax3) (a:Axs) (f:Pt->Int):Prop:=(0<=a.bB/\a.bB<=1000)/\(∀d,okD d->f d=1\/f d= -1)/\(∀w d,f w≠f d->a.bB<=Cs x w d)
def S7 {x:Ax3} (h:Ax3OK x):F7 x x.a Pt.x:=⟨h.a,λd hd=>hd.1,λw d hn=>by have D:=h.a;unfold Cs slk;omega⟩
def Xj {x:Ax3} (h:Ax3OK x):F7 x x.b Pt.y:=⟨h.b,λd hd=>hd.2.1,λw d hn=>by have D:=h.a;have G:=h.b;unfold Cs slk;omega⟩
def UF {x:Ax3} (h:Ax3OK x):F7 x x.c Pt.z:=⟨h.c,λd hd=>hd.2.2,λw d hn=>by have D:=h.a;have G:=h.b;unfold Cs slk;omega⟩
def UD {x:Ax3} {a:Axs} {f:Pt->Int} {g:Int->Int} {at_ s:Int} {c:Pce} {l:List Pce} (M:F7 x a f) (h:DE x u Q at_ s d (c::l)) (N:u=1\/u= -1) (hd:okD d) (O:okD c.aT):
  Gn a g f c at_=A1 a (g s)+BT a (f d)/\Gn a g f c (at_+c.aR)=A1 a (g (s+c.bD*c.aR))+BT a (f c.aT):=by
 obtain⟨hb,hf,D⟩:=M;obtain⟨U,V,h3,X,-⟩:=h;have f1:=hf d hd;have f2:=hf c.aT O;unfold Gn;rw[U,V,show at_-at_=0 by omega,show at_+c.aR-at_=c.aR by omega,i9,ie];rcases X with⟨G,I,Y,-⟩|⟨G,I,Y⟩
 ·have L:c.bD≠0:=by rcases N with rfl|rfl<;>omega
  unfold Ct;rw[ac (.inl L),ac (.inl L)];refine⟨?_,rfl⟩;by_cases e:f d=f c.aT
  ·rw[e]
  have:=D d c.aT e
  grind [BT]
 rw[G,I,Int.zero_mul,ie];by_cases e:f d=f c.aT
 ·simp_all [Ct]
 have:=D d c.aT e;unfold Ct BT;omega
def Zcq {x:Ax3} {a:Axs} {f:Pt->Int} {g:Int->Int} {at_ s:Int} {c:Pce} {l:List Pce} (X:F7 x a f) (I:AxOK a) (Y:∀s,-1<=g (s+1)-g s/\g (s+1)-g s<=1) (h:DE x b Q at_ s d (c::l)) (L:b=1\/b= -1) {u:Int} (hu:at_<=u):
  -1<=Gn a g f c (u+1)-Gn a g f c u/\Gn a g f c (u+1)-Gn a g f c u<=1:=by
 obtain⟨M,N,h3,O,-⟩:=h;unfold Gn;rw[M,N];rcases O with⟨D,U,V,-⟩|⟨D,U,V⟩
 ·have G:c.bD≠0:=by rcases L with rfl|rfl<;>omega
  unfold Ct;rw[ac (.inl G),ac (.inl G),D];have:=Z8m I (p:=g (s+b*(u-at_))) (q:=g (s+b*(u+1-at_))) (by grind);omega
 unfold Ct
 grind
def Qzu {x:Ax3} {a:Axs} {f:Pt->Int} {g:Int->Int} {mv:Int} {Q:Int->Pt->Prop} (D:F7 x a f) (L:AxOK a) (M:∀s,-1<=g (s+1)-g s/\g (s+1)-g s<=1) (G:mv=1\/mv= -1):∀{at_ s:Int} {d:Pt} {l:List Pce},DE x mv Q at_ s d l->okD d->(∀k∈l,okD k.aT)->∀u,at_<=u->u<B2 at_ l->
  -1<=DT a g f l (u+1)-DT a g f l u/\DT a g f l (u+1)-DT a g f l u<=1
 |at_,s,d,[],h,_,_,u,h1,h2=>by grind [B2]
 |at_,s,d,c::l,h,hd,N,u,O,U=>by
  have V:=N c (by simp);have a0:=h.1;unfold DT;by_cases Y:u+1<=c.at_+c.aR
  ·rw[ac Y,ac];exact Zcq D L M h G O
  rw[ab Y];have I:=h.2.2.2.2;by_cases c2:u<=c.at_+c.aR
  ·
   have e:u=at_+c.aR:=by omega
   have hj:=(UD (g:=g) D h G hd V).2;cases l with
   |nil=>grind [B2]
   |cons c' l'=>
    have X:=N c' (by simp);have a1:=(UD (g:=g) D I G V X).1;have a2:=Zcq D L M I G (fa _);have a3:=I.1;have a4:=I.2.2.1;simp_all [DT]
  rw[ab c2];exact Qzu D L M G I V (λk a5=>N k (by grind)) u (by omega) U
def Vh {a:Axs} {g:Int->Int} {f:Pt->Int}:∀{l:List Pce} {u:Int},fI l u<l.length->DT a g f l u=Gn a g f (pcA l (fI l u)) u
 |[],_,h=>by grind
 |c::l,u,h=>by
  unfold fI at h⊢;unfold DT;by_cases D:u<=c.at_+c.aR
  ·simp_all [IH]
  rw[ab D]at h⊢;rw[ab D,Gw];exact Vh (by grind)
end Go.Bm
namespace Go.Bm
def Zyg (D:bd 67108864 d) (hb:bd 67108864 q):Sq [I d.x,I d.y,I d.z,I q.x,I q.y,I q.z]=some [I (Bf d q)]:=by grind [Sq,Z71,Z7n]
def Qfd (D:bd 33554432 d) (hb:bd 33554432 q):RY [I d.x,I d.y,I d.z,I q.x,I q.y,I q.z]=some (ptR (Ax d q)):=by grind [RY,Z17,Z6k]
def Zn2 (he:O (e*e)=e*e)
  (L:V [I q.x,I q.y,I q.z,I d.x,I d.y,I d.z]=some (ptR (Ax q d))) (N:V [I h.x,I h.y,I h.z,I d.x,I d.y,I d.z]=some (ptR (Ax h d))) (U:V [I h.x,I h.y,I h.z,I q.x,I q.y,I q.z]=some (ptR (Ax h q)))
  (D:∀u v:Pt,bd 67108864 u->bd 67108864 v->Z [I u.x,I u.y,I u.z,I v.x,I v.y,I v.z]=some [I (Bf u v)]) (b1:bd 67108864 (Ax q d)) (b2:bd 67108864 (Ax h d)) (b3:bd 67108864 (Ax h q))
  (X:O (Bf (Ax h d) (Ax h d)-e*e)=Bf (Ax h d) (Ax h d)-e*e)
  (Y:M [I (Bf (Ax h d) (Ax h d)-e*e),I (Bf (Ax q d) (Ax q d)),I (Bf (Ax q d) (Ax h d)),I (Bf (Ax q d) (Ax h d))]=some [I (IL ((Bf (Ax h d) (Ax h d)-e*e)*Bf (Ax q d) (Ax q d)) (Bf (Ax q d) (Ax h d)*Bf (Ax q d) (Ax h d)))]):
  ∃r,Qbo M Z V [I d.x,I d.y,I d.z,I q.x,I q.y,I q.z,I h.x,I h.y,I h.z,I e]=some [B r]/\(r=true↔IU d q h e):=by
 rw[Yah];simp only[go_sem,L,N,U,D _ _ b1 b2,D _ _ b1 b1,D _ _ b2 b2,D _ _ b3 b3,X,he,Y];unfold IU;by_cases G:Bf (Ax q d) (Ax h d)<=0
 ·simp_all
 rw[ab G,ab G];by_cases h2:Bf (Ax q d) (Ax h d)>=Bf (Ax q d) (Ax q d)
 ·simp_all
 simp_all [ab,Wu]
def Zpg (D:bd 33554432 d) (hb:bd 33554432 q) (G:bd 33554432 h) (he:e.natAbs<=32000):
  ∃r,UR [I d.x,I d.y,I d.z,I q.x,I q.y,I q.z,I h.x,I h.y,I h.z,I e]=some [B r]/\(r=true↔IU d q h e):=by
 have L:=YM hb D;have M:=YM G D;have N:=YM G hb;have g1:=Qjw M M;have g2:=Qjw L L;have V:=Qjw L M;have X:=Zum he;refine Zn2 (Ad) (Qfd hb D) (Qfd G D) (Qfd G hb) (λu v O U=>Zyg O U) L M N (Ad) (W_ ?_ ?_ ?_ ?_)<;>(grind [i64])
def Zen (h:bd 100000000 d):NM [I d.x,I d.y,I d.z]=some (ptR (Am d)):=by
 unfold NM;rw[Zyn];obtain⟨D,G,L⟩:=h;rw[Ad,Ad,Ad];rfl
def Gr (p q e:Int):Prop:=p-q-e*e<=0\/(p-q-e*e)*(p-q-e*e)<=4*e*e*q
def Ho (u w x y e:Int):Prop:=0<=dt2 u w x y/\crs u w x y*crs u w x y<=e*e*sq2 u w
def FP (u w x y s t dir:Int):Prop:=
 if crs u w x y*dir>0 then crs u w s t*dir>=0/\crs s t x y*dir>=0
 else if crs u w x y*dir=0/\dt2 u w x y<0 then crs u w s t*dir>=0
 else crs x y s t*dir<=0\/crs s t u w*dir<=0
def Qh5 {u w x y:Int} (D:u.natAbs<=1000000000) (G:w.natAbs<=1000000000) (L:x.natAbs<=1000000000) (M:y.natAbs<=1000000000):J8 [I u,I w,I x,I y]=some [I (dt2 u w x y)]:=by
 unfold J8;rw[Zys];have N:=EF D L;have O:=EF G M
 grind [dt2,Ad]
def Zay {u w x y:Int} (D:u.natAbs<=1000000000) (G:w.natAbs<=1000000000) (L:x.natAbs<=1000000000) (M:y.natAbs<=1000000000):Od [I u,I w,I x,I y]=some [I (crs u w x y)]:=by
 unfold Od;rw[Z1p];have N:=EF D M;have O:=EF G L
 grind [crs,Ad]
abbrev AZ (x:Int):Prop:=x.natAbs<=1000000000
def Z7x (D:∀{a b c d:Int},i64 a->i64 b->i64 c->i64 d->M [I a,I b,I c,I d]=some [I (IL (a*b) (c*d))])
  {p q e:Int} (L:0<=p/\p<=4000000000000000000) (N:0<=q/\q<=4000000000000000000) (he:0<=e/\e<=32000):
  ∃v,Qel M [I p,I q,I e]=some [B v]/\(v=true↔Gr p q e):=by
 rw[Zt2];have O:=V_ e (b:=32000) (by omega);have e3:4*e*e=4*(e*e):=by rw[jr]
 simp only[go_sem];unfold Gr;rw[Ad (x:=4*e),e3];generalize e*e=s at*;rw[Ad (x:=p-q),Ad (x:=s),Ad,Ad];by_cases G:p-q-s<=0
 ·simp_all
 rw[ab G,D (by grind [i64]) (by grind [i64]) (by grind [i64]) (by grind [i64])];refine⟨_,rfl,?_⟩;simp only[go_sem,Wu];omega
def Z4b (D:0<=a/\a<=4000000000000000000) (G:0<=u/\u<=4000000000000000000) (he:0<=e/\e<=32000):
  ∃v,Xm [I a,I u,I e]=some [B v]/\(v=true↔Gr a u e):=Z7x W_ D G he
def NG {u w x y:Int} (D:AZ u) (G:AZ w) (I:AZ x) (L:AZ y):(crs u w x y).natAbs<=2000000000000000000/\(dt2 u w x y).natAbs<=2000000000000000000:=by
 have:=Qdn D G I L;omega
def Z1q (X:∀{a b c d:Int},i64 a->i64 b->i64 c->i64 d->M [I a,I b,I c,I d]=some [I (IL (a*b) (c*d))])
  (O:∀{u w x y:Int},AZ u->AZ w->AZ x->AZ y->Z [I u,I w,I x,I y]=some [I (dt2 u w x y)]) (Y:∀{u w x y:Int},AZ u->AZ w->AZ x->AZ y->V [I u,I w,I x,I y]=some [I (crs u w x y)])
  {u w x y e:Int} (D:AZ u) (G:AZ w) (L:AZ x) (N:AZ y) (he:0<=e/\e<=32000):
  ∃v,Qi3 M Z V [I u,I w,I x,I y,I e]=some [B v]/\(v=true↔Ho u w x y e):=by
 rw[Ztm];simp only[go_sem,O D G L N,Y D G L N,O D G D G];have h1:=V_ e (b:=32000) (by omega);have h2:=NG D G L N;have h3:=NG D G D G;have e1:sq2 u w=dt2 u w u w:=rfl;unfold Ho;rw[e1];generalize e*e=s at*;rw[Ad];by_cases U:dt2 u w x y>=0
 ·rw[ac U,X (by unfold i64;omega) (by unfold i64;omega) (by unfold i64;omega) (by unfold i64;omega)];refine⟨_,rfl,?_⟩;simp only[go_sem,Wu];omega
 rw[ab U];grind
def Zqf {u w x y e:Int} (D:AZ u) (G:AZ w) (L:AZ x) (M:AZ y) (he:0<=e/\e<=32000):
  ∃v,Wr [I u,I w,I x,I y,I e]=some [B v]/\(v=true↔Ho u w x y e):=Z1q W_ Qh5 Zay D G L M he
def Z14
  (hD:∀{u w x y:Int},AZ u->AZ w->AZ x->AZ y->M [I u,I w,I x,I y]=some [I (dt2 u w x y)]) (X:∀{u w x y:Int},AZ u->AZ w->AZ x->AZ y->Z [I u,I w,I x,I y]=some [I (crs u w x y)])
  {u w x y s t dir:Int} (L:AZ u) (N:AZ w) (U:AZ x) (V:AZ y) (D:AZ s) (G:AZ t) (hd:dir=1\/dir= -1):
  ∃v,Qhi M Z [I u,I w,I x,I y,I s,I t,I dir]=some [B v]/\(v=true↔FP u w x y s t dir):=by
 rw[Zwq];have h1:=NG L N U V;have h2:=NG L N D G;have h3:=NG D G U V;have h4:=NG U V D G;have h5:=NG D G L N;simp only[go_sem,X L N U V,X L N D G,X D G U V,X U V D G,X D G L N,hD L N U V];have Y:∀c:Int,c.natAbs<=2000000000000000000->O (c*dir)=c*dir:=λc hc=>by
  rcases hd with rfl|rfl<;>exact Ad
 rw[Y _ h1.1,Y _ h2.1,Y _ h3.1,Y _ h4.1,Y _ h5.1];unfold FP;generalize crs u w x y*dir=c1;generalize crs u w s t*dir=c2;generalize crs x y s t*dir=c4;by_cases d1:c1>0
 ·rw[ac d1,ac d1];by_cases d2:c2>=0
  ·simp_all
  rw[ab d2];grind
 rw[ab d1,ab d1];by_cases d2:c1=0
 ·rw[ac d2];by_cases d3:dt2 u w x y<0
  ·simp_all
  rw[ab d3,ab (c:=c1=0/\dt2 u w x y<0) (λh=>d3 h.2)];by_cases d4:c4<=0
  ·simp_all
  rw[ab d4];exact⟨_,rfl,by simp;omega⟩
 rw[ab d2,ab (c:=c1=0/\dt2 u w x y<0) (λh=>d2 h.1)];by_cases d4:c4<=0
 ·simp_all
 rw[ab d4];exact⟨_,rfl,by simp;omega⟩
def Z68 {u w x y s t dir:Int} (D:AZ u) (G:AZ w) (L:AZ x) (M:AZ y) (N:AZ s) (O:AZ t) (hd:dir=1\/dir= -1):
  ∃v,Ul [I u,I w,I x,I y,I s,I t,I dir]=some [B v]/\(v=true↔FP u w x y s t dir):=Z14 Qh5 Zay D G L M N O hd
def pU (it:Itm) (q:Pt):Int:=plU it.aG q-plU it.aG (Am it.ce)
def pW (it:Itm) (q:Pt):Int:=plW it.aG q-plW it.aG (Am it.ce)
def Nj (it:Itm) (q:Pt) (e:Int):Prop:=
 Gr (min (sq2 (pU it (Am it.fr)) (pW it (Am it.fr))) (sq2 (pU it (Am it.to)) (pW it (Am it.to)))) (sq2 (pU it q) (pW it q)) e/\
 Gr (sq2 (pU it q) (pW it q)) (max (sq2 (pU it (Am it.fr)) (pW it (Am it.fr))) (sq2 (pU it (Am it.to)) (pW it (Am it.to)))) e/\
 min (plH it.aG (Am it.fr)) (plH it.aG (Am it.to))-e<=plH it.aG q/\plH it.aG q<=max (plH it.aG (Am it.fr)) (plH it.aG (Am it.to))+e/\
 (it.bI = true \/ FP (pU it (Am it.fr)) (pW it (Am it.fr)) (pU it (Am it.to)) (pW it (Am it.to)) (pU it q) (pW it q) it.dir \/
  Ho (pU it (Am it.fr)) (pW it (Am it.fr)) (pU it q) (pW it q) e\/Ho (pU it (Am it.to)) (pW it (Am it.to)) (pU it q) (pW it q) e)
theorem Q0g (a b:Int):mn a b=min a b:=by grind [mn]
theorem Q8z (a b:Int):mx a b=max a b:=by grind [mx]
theorem Zon {x:Int} (h:x.natAbs<=i): -(i:Int)<=x/\x<=i:=by omega
def GY {x:Int} (h: -(i:Int)<=x/\x<=i):x.natAbs<=i:=by omega
def V9 {pl:Int} (h:bd i d):(-(i:Int)<=plU pl d/\plU pl d<=i)/\(-(i:Int)<=plW pl d/\plW pl d<=i)/\(-(i:Int)<=plH pl d/\plH pl d<=i):=by simp_all [FL,Zon]
def Zqa {it:Itm} (hV:∃v,F (Ag it)=some [B v]/\(v=true↔Cb it)) (hS:∀{p:Pt},bd 100000000 p->G [I p.x,I p.y,I p.z]=some (ptR (Am p)))
  (hL:∀{p:Pt} {pl:Int},CU pl->H [I p.x,I p.y,I p.z,I pl]=some [I (plU pl p),I (plW pl p),I (plH pl p)])
  (hD:∀{u w x y:Int},AZ u->AZ w->AZ x->AZ y->P [I u,I w,I x,I y]=some [I (dt2 u w x y)])
  (hB:∀{p q e:Int},(0<=p/\p<=4000000000000000000)->(0<=q/\q<=4000000000000000000)->(0<=e/\e<=32000)->∃v,V [I p,I q,I e]=some [B v]/\(v=true↔Gr p q e))
  (hP:∀{u w x y s t dir:Int},AZ u->AZ w->AZ x->AZ y->AZ s->AZ t->(dir=1\/dir= -1)->∃v,Z [I u,I w,I x,I y,I s,I t,I dir]=some [B v]/\(v=true↔FP u w x y s t dir))
  (hN:∀{u w x y e:Int},AZ u->AZ w->AZ x->AZ y->(0<=e/\e<=32000)->∃v,M [I u,I w,I x,I y,I e]=some [B v]/\(v=true↔Ho u w x y e))
  (h3:it.aP=3) {q:Pt} (hq:bd 100000000 q) {e:Int} (he:0<=e/\e<=32000):
  ∃v,ZX M Z V P H G F (Ag it++[I q.x,I q.y,I q.z,I e])=some [B v]/\(v=true↔Cb it/\Nj it q e):=by
 obtain⟨v0,e0,h0⟩:=hV;simp only[da,cq];rw[Z8y];simp only[Ag]at e0;simp only[go_sem,e0];rw[ab];by_cases c0:v0=true
 case neg=>grind
 rw[ab (by grind)];have hv:=h0.1 c0;obtain⟨-,v1,v2,v3⟩:=hv;obtain⟨v4,v5,v6,-⟩:=v3 h3;have f1:=C7 v1;have f2:=C7 v2;have f3:=C7 v6;obtain⟨g1,g2,g3⟩:=V9 (pl:=it.aG) f1;obtain⟨g4,g5,g6⟩:=V9 (pl:=it.aG) f2;obtain⟨g7,g8,g9⟩:=V9 (pl:=it.aG) f3;obtain⟨g10,g11,g12⟩:=V9 (pl:=it.aG) hq;have S1:G [I it.fr.x,I it.fr.y,I it.fr.z]=some (ptR (Am it.fr)):=hS (AH v1 (by omega));have S2:G [I it.to.x,I it.to.y,I it.to.z]=some (ptR (Am it.to)):=hS (AH v2 (by omega));have S3:G [I it.ce.x,I it.ce.y,I it.ce.z]=some (ptR (Am it.ce)):=hS (AH v6 (by omega));have L1:= @hL (Am it.fr) _ v4;have L2:= @hL (Am it.to) _ v4;have L3:= @hL (Am it.ce) _ v4;have L4:= @hL q _ v4;simp only[S1,S2,S3,go_sem,L1,L2,L3,L4];have a5:=h0.1 c0;unfold Nj pU pW;clear S1 S2 S3 L1 L2 L3 L4 f1 f2 f3 v1 v2 v3 v6 e0 h0;generalize plU it.aG (Am it.fr)=a1 at*;generalize plW it.aG (Am it.fr)=a2 at*;generalize plH it.aG (Am it.fr)=a3 at*;generalize plU it.aG (Am it.to)=b1 at*;generalize plW it.aG (Am it.to)=b2 at*;generalize plH it.aG (Am it.to)=b3 at*;generalize plU it.aG (Am it.ce)=m1 at*;generalize plW it.aG (Am it.ce)=m2 at*;generalize plU it.aG q=q1 at*;generalize plW it.aG q=q2 at*;generalize plH it.aG q=q3 at*;rw[Ad (x:=a1-m1),Ad (x:=a2-m2),Ad (x:=b1-m1),Ad (x:=b2-m2),Ad (x:=q1-m1),Ad (x:=q2-m2)];have a0:O (min a3 b3-e)=min a3 b3-e:=Ad;have a4:O (max a3 b3+e)=max a3 b3+e:=Ad;have X:AZ (a1-m1)/\(a1-m1).natAbs<=200000000:=⟨GY (by omega),GY (by omega)⟩;have Y:AZ (a2-m2)/\(a2-m2).natAbs<=200000000:=⟨GY (by omega),GY (by omega)⟩;have k3:AZ (b1-m1)/\(b1-m1).natAbs<=200000000:=⟨GY (by omega),GY (by omega)⟩;have k4:AZ (b2-m2)/\(b2-m2).natAbs<=200000000:=⟨GY (by omega),GY (by omega)⟩;have D:AZ (q1-m1)/\(q1-m1).natAbs<=200000000:=⟨GY (by omega),GY (by omega)⟩;have L:AZ (q2-m2)/\(q2-m2).natAbs<=200000000:=⟨GY (by omega),GY (by omega)⟩;generalize a1-m1=au at*;generalize a2-m2=aw at*;generalize b1-m1=bu at*;generalize b2-m2=bw at*;generalize q1-m1=N at*;generalize q2-m2=U at*;have s1:=Tp X.2 Y.2;have s2:=Tp k3.2 k4.2;have s3:=Tp D.2 L.2;have D1:P [I au,I aw,I au,I aw]=some [I (sq2 au aw)]:=hD X.1 Y.1 X.1 Y.1;have D2:P [I bu,I bw,I bu,I bw]=some [I (sq2 bu bw)]:=hD k3.1 k4.1 k3.1 k4.1;have D3:P [I N,I U,I N,I U]=some [I (sq2 N U)]:=hD D.1 L.1 D.1 L.1;simp only[D1,D2,D3,go_sem,Q0g,Q8z,a0,a4];clear a0 a4 D1 D2 D3 hD;obtain⟨p1,i1,j1⟩:= @hP au aw bu bw N U it.dir X.1 Y.1 k3.1 k4.1 D.1 L.1 v5;obtain⟨p2,i2,j2⟩:= @hN au aw N U e X.1 Y.1 D.1 L.1 he;obtain⟨p3,i3,j3⟩:= @hN bu bw N U e k3.1 k4.1 D.1 L.1 he;rw[<-j1,<-j2,<-j3];generalize sq2 au aw=A at*;generalize sq2 bu bw=C at*;generalize sq2 N U=Q at*;clear X Y k3 k4 D L j1 j2 j3;obtain⟨p4,i4,j4⟩:= @hB (min A C) Q e (by omega) (by omega) he;obtain⟨p5,i5,j5⟩:= @hB Q (max A C) e (by omega) (by omega) he;rw[<-j4,<-j5];simp only[i1,i2,i3,i4,i5,go_sem];generalize min a3 b3-e=lo;generalize max a3 b3+e=hi;generalize q3=h;by_cases c4:p4=true
 case neg=>grind
 rw[ab (by grind)];by_cases c5:p5=true
 case neg=>grind
 rw[ab (by grind)];by_cases c6:h<lo
 ·grind
 rw[ab c6];by_cases c7:h>hi
 ·grind
 rw[ab c7];have hb:lo<=h/\h<=hi:=by omega
 by_cases c8:it.bI=true
 ·grind
 rw[ab c8];by_cases c9:p1=true
 ·grind
 rw[ab c9];by_cases a6:p2=true
 ·grind
 rw[ab a6];refine⟨p3,rfl,λh=>⟨a5,c4,c5,hb.1,hb.2, .inr (.inr (.inr h))⟩,λh=> ?_⟩
 grind
def Z6h {it:Itm} (D:it.aP=3) {q:Pt} (G:bd 100000000 q) {e:Int} (he:0<=e/\e<=32000):
  ∃v,V6 (Ag it++[I q.x,I q.y,I q.z,I e])=some [B v]/\(v=true↔Cb it/\Nj it q e):=
 Zqa (Td it) Zen Zu Qh5 Z4b Z68 Zqf D G he
def FR (it:Itm) (q:Pt) (e:Int):Prop:=Cb it/\if it.aP=3 then Nj it q e else IU (Am it.fr) (Am it.to) q e
def Z37 {it:Itm} (hV:∃v,V (Ag it)=some [B v]/\(v=true↔Cb it)) (hS:∀{p:Pt},bd 100000000 p->Z [I p.x,I p.y,I p.z]=some (ptR (Am p)))
  {q:Pt} {e:Int} (G:it.aP=3->∃v,P (Ag it++[I q.x,I q.y,I q.z,I e])=some [B v]/\(v=true↔Cb it/\Nj it q e))
  (L:∀{a b:Pt},bd 33554432 a->bd 33554432 b->∃r,M [I a.x,I a.y,I a.z,I b.x,I b.y,I b.z,I q.x,I q.y,I q.z,I e]=some [B r]/\(r=true↔IU a b q e)):
  ∃v,Qa3 M Z V P (Ag it++[I q.x,I q.y,I q.z,I e])=some [B v]/\(v=true↔FR it q e):=by
 obtain⟨N,e0,O⟩:=hV;simp only[da,cq]at G⊢;rw[Z7o];unfold FR;by_cases U:it.aP=3
 ·obtain⟨v,e1,h1⟩:=G U;simp only[go_sem,e1]
  grind
 simp only[go_sem,e0];by_cases X:N=true
 ·have D:=O.1 X;have Y:=AH (C7 D.2.1) (B:=33554432) (by omega);have f2:=AH (C7 D.2.2.1) (B:=33554432) (by omega);obtain⟨r,e2,h2⟩:=L Y f2;simp only[hS (AH D.2.1 (by omega)),hS (AH D.2.2.1 (by omega)),go_sem,e2]
  grind
 grind
def Z85 (it:Itm) {q:Pt} (D:bd 33554432 q) {e:Int} (he:0<=e/\e<=32000):
  ∃v,Tm (Ag it++[I q.x,I q.y,I q.z,I e])=some [B v]/\(v=true↔FR it q e):=
 Z37 (Td it) Zen (λh=>Z6h h (AH D (by omega)) he) (λG hb=>Zpg G hb D (by omega))
end Go.Bm
namespace Go.Bm
open Classical
theorem Lj (u w x y:Int):crs x y u w= -crs u w x y:=by unfold crs;grind
def Qgf (u w x y s t:Int):dt2 u w s t*crs u w x y-crs u w s t*dt2 u w x y=sq2 u w*crs s t x y:=by unfold dt2 crs sq2;grind
def FI (hb:0<=b) (h:a*a<=b*b):a<=b:=by
 by_cases c:a<=b
 ·exact c
 have:=Int.mul_self_lt_mul_self hb (show b<a by omega);omega
def Zcc (hb:0<=b) (h:a*a<b*b):a<b:=by
 by_cases c:a<b
 ·exact c
 have:=ai hb (show b<=a by omega);omega
def RU {u R n:Int} (G:u.natAbs<=100000000) (I:0<=R/\R<=50000000) (hn:0<n/\n<=20000000000000000) (L:u*u<=n):
  ∃j:Nat,AM u R n=(if u<0 then-(j:Int)else(j:Int))/\(j=0\/(2*(j:Int)-1)*(2*(j:Int)-1)*n<=(2*(u.natAbs*R))*(2*(u.natAbs*R)))/\(2*(u.natAbs*R))*(2*(u.natAbs*R))<=(2*(j:Int)+1)*(2*(j:Int)+1)*n/\(j:Int)<=R:=by
 obtain⟨-,D⟩:=To (r:=R) (co G (by decide)) (by omega) (by omega) L;have M:(AM u R n).natAbs<=R.natAbs:=by
  refine YX (by omega) ?_ D;have:((u.natAbs*u.natAbs:Nat):Int)=u*u:=bv;omega
 obtain⟨r,rfl⟩:=bh I.1;obtain⟨m,rfl⟩:=bh (show 0<=n by omega);refine⟨(AM u r m).natAbs,?_,?_,?_,by omega⟩
 ·simp_all [AM]
 all_goals
  obtain⟨N,O⟩:=D
 ·grind
 grind
def JS {u R n S:Int} (I:u.natAbs<=100000000) (G:0<=R/\R<=50000000) (hn:0<n/\n<=20000000000000000) (L:u*u<=n) (hS:0<=S/\S*S<=n/\n<(S+1)*(S+1)):
  -(S+2*R+1)<=2*AM u R n*S-2*(u*R)/\2*AM u R n*S-2*(u*R)<=S+2*R+1:=by
 obtain⟨j,e,D,M,U⟩:=RU I G hn L;have V:0<=(u.natAbs:Int)*R:=al (by omega) G.1;have N:2*(j:Int)*S-2*(u.natAbs*R)<=S:=by
  rcases D with D|D
  ·grind
  by_cases X:j=0
  ·grind
  have:(2*(j:Int)-1)*S<=2*(u.natAbs*R):=by
   refine FI (by omega) (dh ?_ D);have e2:(2*(j:Int)-1)*S*((2*(j:Int)-1)*S)=(2*(j:Int)-1)*(2*(j:Int)-1)*(S*S):=by grind
   rw[e2];exact af hS.2.1 (Bj _)
  grind
 have O:2*(u.natAbs*R)<=2*(j:Int)*S+S+2*j+1:=by
  have:2*(u.natAbs*R)<=(2*(j:Int)+1)*(S+1):=by
   refine FI (al) (dh M ?_);have e2:(2*(j:Int)+1)*(S+1)*((2*(j:Int)+1)*(S+1))=(2*(j:Int)+1)*(2*(j:Int)+1)*((S+1)*(S+1)):=by grind
   rw[e2];exact af (by omega) (Bj _)
  have e3:(2*(j:Int)+1)*(S+1)=2*(j:Int)*S+S+2*j+1:=by grind
  omega
 rw[e];by_cases c:u<0
 ·rw[ac c];have e1:(u.natAbs:Int)= -u:=by omega
  rw[e1]at N O
  grind
 grind
def Zpv {u w R:Int} (I:u.natAbs<=100000000) (L:w.natAbs<=100000000) (V:1<=R/\R<=50000000) (X: ¬(u=0/\w=0)):
  (R-1)*(R-1)<=sq2 (AM u R (sq2 u w)) (AM w R (sq2 u w))/\sq2 (AM u R (sq2 u w)) (AM w R (sq2 u w))<=(R+1)*(R+1):=by
 have G:=KA X;have b1:=B3 I;have b2:=B3 L;have hn:sq2 u w<=20000000000000000:=by unfold sq2;omega
 obtain⟨Y,q2⟩:=Kl u w;obtain⟨j,e1,M,h2,h3⟩:=RU I ⟨by omega,V.2⟩ ⟨G,hn⟩ Y;obtain⟨i,e2,g1,g2,g3⟩:=RU L ⟨by omega,V.2⟩ ⟨G,hn⟩ q2;have N:∀(c:Prop) [Decidable c] (j:Nat),(if c then-(j:Int)else(j:Int))*(if c then-(j:Int)else(j:Int))=(j:Int)*j:=by
  intro c _ j;by_cases h:c
  ·grind
  grind
 have D:sq2 (AM u R (sq2 u w)) (AM w R (sq2 u w))=(j:Int)*j+(i:Int)*i:=by
  rw[e1,e2];unfold sq2;rw[N,N]
 rw[D];have eU:(2*((u.natAbs:Int)*R))*(2*(u.natAbs*R))+(2*((w.natAbs:Int)*R))*(2*(w.natAbs*R))=(2*R)*(2*R)*sq2 u w:=by
  have a1:(u.natAbs:Int)*u.natAbs=u*u:=bv;have a2:(w.natAbs:Int)*w.natAbs=w*w:=bv;unfold sq2;rw[<-a1,<-a2]
  grind
 generalize(2*((u.natAbs:Int)*R))*(2*(u.natAbs*R))=U at*;generalize sq2 u w=n at*;clear e1 e2 D N b1 b2 Y q2 I L X;have hU:0<=U\/True:= .inr trivial;constructor
 ·
  have O:(2*R)*(2*R)*n<=((2*(j:Int)+1)*(2*(j:Int)+1)+(2*(i:Int)+1)*(2*(i:Int)+1))*n:=by
   rw[iv];omega
  have k2:=dw O G;have k3:(2*(j:Int)+1)*(2*(j:Int)+1)+(2*(i:Int)+1)*(2*(i:Int)+1)=4*((j:Int)*j+(i:Int)*i)+4*((j:Int)+i)+2:=by grind
  have k4:(2*R)*(2*R)=4*(R*R):=by grind
  have k5:(R-1)*(R-1)=R*R-2*R+1:=by grind
  by_cases c:2*((j:Int)+i)<=3*(R-1)
  ·omega
  have k6:(3*(R-1))*(3*(R-1))<=(2*((j:Int)+i))*(2*((j:Int)+i)):=ai;have k8:=Bj ((j:Int)-i)
  grind
 have k5:(R+1)*(R+1)=R*R+2*R+1:=by grind
 have jj:(j:Int)*j<=R*R:=ai (by omega) h3;have ii:(i:Int)*i<=R*R:=ai (by omega) g3;rcases M with M|M
 ·grind
 rcases g1 with g1|g1
 ·grind
 by_cases cj:j=0
 ·grind
 by_cases ci:i=0
 ·grind
 have O:((2*(j:Int)-1)*(2*(j:Int)-1)+(2*(i:Int)-1)*(2*(i:Int)-1))*n<=(2*R)*(2*R)*n:=by
  rw[iv];omega
 have k2:=dw O G
 grind
structure Spo (s : Spk) : Prop where
 ok:okS s
 r:128<=s.r
 norm:(s.r-1)*(s.r-1)<=sq2 s.u s.w/\sq2 s.u s.w<=(s.r+1)*(s.r+1)
def Zwd {u w M:Int} (D:0<=M) (h:sq2 u w<=M*M):(u.natAbs:Int)<=M/\(w.natAbs:Int)<=M:=by
 obtain⟨G,I⟩:=Kl u w;have a1:(u.natAbs:Int)*u.natAbs=u*u:=bv;have a2:(w.natAbs:Int)*w.natAbs=w*w:=bv;exact⟨FI D (by omega),FI D (by omega)⟩
def XG {x y E:Int} (D: -E<=y/\y<=E): -(x.natAbs*E)<=x*y:=by
 have h:=Int.natAbs_mul x y;have G:x.natAbs*y.natAbs<=x.natAbs*E.natAbs:=Nat.mul_le_mul_left _ (by omega)
 grind
def side {p q u w R S dir:Int} (hd:dir=1\/dir= -1) (D:u.natAbs<=100000000) (G:w.natAbs<=100000000) (I:1<=R/\R<=50000000) (N: ¬(u=0/\w=0)) (hS:0<=S/\S*S<=sq2 u w/\sq2 u w<(S+1)*(S+1))
  (h:(p.natAbs+q.natAbs)*(S+2*R+1)<2*R*(crs p q u w*dir)):0<crs p q (AM u R (sq2 u w)) (AM w R (sq2 u w))*dir:=by
 have L:=KA N;have b1:=B3 D;have b2:=B3 G;have hn:sq2 u w<=20000000000000000:=by unfold sq2;omega
 obtain⟨O,U⟩:=Kl u w;have e1:=JS D ⟨by omega,I.2⟩ ⟨L,hn⟩ O hS;have e2:=JS G ⟨by omega,I.2⟩ ⟨L,hn⟩ U hS;generalize AM u R (sq2 u w)=a at*;generalize AM w R (sq2 u w)=b at*;generalize S+2*R+1=E at*;have m1:=XG (x:=p) (y:=(2*b*S-2*(w*R))*dir) (E:=E) (by rcases hd with rfl|rfl<;>omega);have m2:=XG (x:= -q) (y:=(2*a*S-2*(u*R))*dir) (E:=E) (by rcases hd with rfl|rfl<;>omega);have e3:((-q).natAbs:Int)=q.natAbs:=by omega
 rw[e3]at m2;have key:2*S*(crs p q a b*dir)=2*R*(crs p q u w*dir)+p*((2*b*S-2*(w*R))*dir)+ -q*((2*a*S-2*(u*R))*dir):=by unfold crs;grind
 have M:0<2*S*(crs p q a b*dir):=by
  rw[iv]at h;omega
 by_cases c:0<crs p q a b*dir
 ·exact c
 have:2*S*(crs p q a b*dir)<=0:=fd (by omega) (by omega);omega
def Qaz {n:Int} (h:0<=n/\n<=4000000000000000000):∃S:Int,0<=S/\S*S<=n/\n<(S+1)*(S+1):=by
 obtain⟨m,rfl⟩:=bh h.1;obtain⟨r,D,G⟩:=LT m;refine⟨r,by omega,?_,?_⟩
 ·omega
 grind
def Z6n (t:Int) (D:0<=t):((2*(t+128)+33)*35)*((2*(t+128)+33)*35)+324*((t+128)*(t+128))<(32*(t+128)-63)*(2*((t+127)*(t+127))):=by
 have G:=al D D;have I:=al G D
 grind
def Z54 {A B D d X p:Int} (G:D=A+B-2*d) (L:X*X+d*d=A*B) (hd:0<d) (M:128<=p) (N:(p-1)*(p-1)<=A) (hB:(p-1)*(p-1)<=B) (O:32*p-64<D)
  (I: -((2*p+33)*35)<=A-B/\A-B<=(2*p+33)*35) (U:0<X):9*p<X:=by
 have e1:4*(X*X)=2*(D*(A+B))-D*D-(A-B)*(A-B):=by
  have:X*X=A*B-d*d:=by omega
  rw[this,G];grind
 have V:D*D<=D*(A+B):=af;have Y:(A-B)*(A-B)<=((2*p+33)*35)*((2*p+33)*35):=by
  have:(A-B).natAbs<=((2*p+33)*35).natAbs:=by omega
  have h:=d9 this this;have a1:((A-B).natAbs:Int)*(A-B).natAbs=(A-B)*(A-B):=bv;have a2:(((2*p+33)*35).natAbs:Int)*((2*p+33)*35).natAbs=((2*p+33)*35)*((2*p+33)*35):=bv;omega
 have n0:=Bj (p-1);have k3:(32*p-63)*(2*((p-1)*(p-1)))<=D*(A+B):=cv;have k4:=Z6n (p-128) (by omega);refine Zcc (by omega) ?_
 grind
def MJ {x y:Spk} (G:Spo x) (I:Spo y) {u w:Int} (L:u.natAbs<=100000000) (M:w.natAbs<=100000000) (N: ¬(u=0/\w=0)):Spo (DC x y u w)/\DC x y u w=⟨AM u (hf x.r y.r) (sq2 u w),AM w (hf x.r y.r) (sq2 u w),hf x.r y.r,hf x.h y.h⟩:=by
 have D:=Qns G.ok I.ok L M;have e:DC x y u w=⟨AM u (hf x.r y.r) (sq2 u w),AM w (hf x.r y.r) (sq2 u w),hf x.r y.r,hf x.h y.h⟩:=ab N;have O:128<=hf x.r y.r/\hf x.r y.r<=50000000:=by
  have:=G.r;have:=I.r;have:=G.ok.2.2.1;have:=I.ok.2.2.1
  unfold hf;omega
 rw[e]at D⊢;exact⟨⟨D,O.1,Zpv L M (R:=hf x.r y.r) ⟨by omega,O.2⟩ N⟩,rfl⟩
def Zsq (D:128<=a):(4*a)*(7*a)<2*a*((a-1)*(a-1)):=by
 have G:0<a*(a*a-16*a+1):=by
  refine dk (by omega) ?_;have:128*a<=a*a:=ap D;omega
 grind
def Yag {x y p c A B:Int} (I:A<=(x+1)*(x+1)) (hB:B<=(y+1)*(y+1)) (D:0<=x/\x+1<=p+c) (G:0<=y/\y+1<=p+c):2*(A+B)<=(2*(p+c))*(2*(p+c)):=by
 have L:(x+1)*(x+1)<=(p+c)*(p+c):=ai (by omega) D.2;have M:(y+1)*(y+1)<=(p+c)*(p+c):=ai (by omega) G.2
 grind
def Zj1 {x y p A B:Int} (G:A<=(x+1)*(x+1)) (hB:(y-1)*(y-1)<=B) (I:x+y<=2*p+33) (D:0<=x+y) (L:x-y<=33):A-B<=(2*p+33)*35:=by
 have e:(x+1)*(x+1)-(y-1)*(y-1)=(x+y)*(x-y+2):=by grind
 have M:(x+y)*(x-y+2)<=(x+y)*35:=af (by omega) D;omega
def Qh0 (a b:Int):(mn a b=a/\a<=b)\/(mn a b=b/\b<=a):=by grind [mn]
def Qw4 {p R S n C:Int} (D:128<=p) (I:p<=R/\R<=p+64) (hS:0<=S/\S<=2*(p+65)) (hn:0<=n/\n<=2*(p+65)) (G:(p-1)*(p-1)<=C):n*(S+2*R+1)<2*R*C:=by
 have k:n*(S+2*R+1)<=(4*p)*(7*p):=cv;have L:2*p*((p-1)*(p-1))<=2*R*C:=cv (by omega) G (Bj _);have:=Zsq D;omega
def Qql {p R S n C:Int} (D:128<=p) (G:p<=R/\R<=p+33) (hS:0<=S/\S<=2*(p+34)) (hn:0<=n/\n<=2*(p+34)) (I:9*p<C):n*(S+2*R+1)<2*R*C:=by
 have k:n*(S+2*R+1)<=(3*p)*(6*p):=cv;have L:2*p*(9*p+1)<=2*R*C:=cv
 grind
def WR {u w M:Int} (D:0<=M) (h:sq2 u w<=M*M):0<=(u.natAbs:Int)+w.natAbs/\(u.natAbs:Int)+w.natAbs<=2*M:=by
 have:=Zwd D h;omega
structure Rad (x y : Spk) (c p : Int) : Prop where
 m:mn x.r y.r=p/\128<=p
 R:p<=hf x.r y.r/\hf x.r y.r<=p+c
 R5:1<=hf x.r y.r/\hf x.r y.r<=50000000
 A:(p-1)*(p-1)<=sq2 x.u x.w/\(p-1)*(p-1)<=sq2 y.u y.w
 S:2*(sq2 x.u x.w+sq2 y.u y.w)<=(2*(p+(c+1)))*(2*(p+(c+1)))
 cx:0<=(x.u.natAbs:Int)+x.w.natAbs/\(x.u.natAbs:Int)+x.w.natAbs<=2*(p+(c+1))
 cy:0<=(y.u.natAbs:Int)+y.w.natAbs/\(y.u.natAbs:Int)+y.w.natAbs<=2*(p+(c+1))
 d:x.r+y.r<=2*p+c/\0<=x.r+y.r/\x.r-y.r<=c/\y.r-x.r<=c
def NT {x y:Spk} (I:Spo x) (L:Spo y) {c:Int} (h:((x.r-y.r).natAbs:Int)<=c):Rad x y c (mn x.r y.r):=by
 obtain⟨N,D⟩:=I.norm;obtain⟨O,G⟩:=L.norm;have U:=I.r;have V:=L.r;have ux:=I.ok.2.2.1;have uy:=L.ok.2.2.1;have X:=Qh0 x.r y.r;generalize Y:mn x.r y.r=p at*;have k1:=WR (M:=x.r+1) (by omega) D;have k2:=WR (M:=y.r+1) (by omega) G;have k3:=Yag (p:=p) (c:=c+1) D G (by omega) (by omega);have k4:(p-1)*(p-1)<=sq2 x.u x.w:=dh (ai) N;have k5:(p-1)*(p-1)<=sq2 y.u y.w:=dh (ai) O;refine⟨⟨Y,by omega⟩,?_,?_,⟨k4,k5⟩,k3,⟨k1.1,by omega⟩,⟨k2.1,by omega⟩,by omega⟩
 ·grind [hf]
 grind [hf]
theorem FO (x y:Spk):sq2 (x.u-y.u) (x.w-y.w)=sq2 x.u x.w+sq2 y.u y.w-2*dt2 x.u x.w y.u y.w:=by grind [sq2,dt2]
theorem U8 (x y:Spk):sq2 (x.u+y.u) (x.w+y.w)=sq2 x.u x.w+sq2 y.u y.w+2*dt2 x.u x.w y.u y.w:=by grind [sq2,dt2]
def Z9x (x y:Spk) {dir:Int} (hd:dir*dir=1):(crs x.u x.w y.u y.w*dir)*(crs x.u x.w y.u y.w*dir)+dt2 x.u x.w y.u y.w*dt2 x.u x.w y.u y.w=sq2 x.u x.w*sq2 y.u y.w:=by
 have:(crs x.u x.w y.u y.w*dir)*(crs x.u x.w y.u y.w*dir)=crs x.u x.w y.u y.w*crs x.u x.w y.u y.w*(dir*dir):=by grind
 grind [sq2,dt2,crs]
def IG (u w:Int):0<=sq2 u w:=by have:=Bj u;have:=Bj w;grind [sq2]
def OS (hd:a=1\/a= -1):a*a=1:=by grind
def SK {u w:Int} (D:u.natAbs<=100000000) (G:w.natAbs<=100000000):∃S:Int,0<=S/\S*S<=sq2 u w/\sq2 u w<(S+1)*(S+1):=by
 have I:=B3 D;have L:=B3 G;exact Qaz ⟨IG _ _,by grind [sq2]⟩
theorem Xx (a b c d dir:Int):crs a b c d*dir=crs c d a b* -dir:=by grind [crs]
def Qjt {x y:Spk} (D:okS x) (G:okS y) {dir:Int} (hd:dir=1\/dir= -1):(dir*(y.w-x.w)).natAbs<=100000000/\(dir*(x.u-y.u)).natAbs<=100000000:=by
 have:=D.1;have:=D.2.1;have:=G.1;have:=G.2.1
 grind
def Q6u {x y:Spk} (D:okS x) (G:okS y):(x.u+y.u).natAbs<=100000000/\(x.w+y.w).natAbs<=100000000:=by
 have:=D.1;have:=D.2.1;have:=G.1;have:=G.2.1
 omega
abbrev U6 (x y:Spk) (dir:Int) (m:Spk):Prop:=Spo m/\m.r=hf x.r y.r/\m.h=hf x.h y.h/\0<crs x.u x.w m.u m.w*dir/\0<crs m.u m.w y.u y.w*dir
def Q2b {x y:Spk} {dir u w S C M:Int} (hd:dir=1\/dir= -1) (N:Spo x) (O:Spo y) (G:u.natAbs<=100000000) (I:w.natAbs<=100000000) (D:1<=hf x.r y.r/\hf x.r y.r<=50000000) (L: ¬(u=0/\w=0)) (hS:0<=S/\S*S<=sq2 u w/\sq2 u w<(S+1)*(S+1))
  (eC:crs x.u x.w u w*dir=C) (U:crs y.u y.w u w* -dir=M) (V:((x.u.natAbs:Int)+x.w.natAbs)*(S+2*hf x.r y.r+1)<2*hf x.r y.r*C) (X:((y.u.natAbs:Int)+y.w.natAbs)*(S+2*hf x.r y.r+1)<2*hf x.r y.r*M):U6 x y dir (DC x y u w):=by
 obtain⟨s1,s2⟩:=MJ N O G I L;have Y:=side (p:=x.u) (q:=x.w) hd G I D L hS (by grind);have t2:=side (p:=y.u) (q:=y.w) (dir:= -dir) (by omega) G I D L hS (by grind)
 grind [Xx]
theorem Mi {x y:Spk} (hd:a=1\/a= -1) (L:Spo x) (M:Spo y) (I:((x.r-y.r).natAbs:Int)<=64) (h:dt2 x.u x.w y.u y.w<=0):U6 x y a (AS x y a false):=by
 have G:=NT L M I;have D:=OS hd;have eM:BR x y a false=(a*(y.w-x.w),a*(x.u-y.u)):=by
  unfold BR;rw[ab (by simp),ab (λg=>absurd h (Int.not_le.2 g.1)),ab (λg=>absurd h (Int.not_le.2 g))]
 unfold AS;rw[eM];simp only;have eN:sq2 (a*(y.w-x.w)) (a*(x.u-y.u))=sq2 (x.u-y.u) (x.w-y.w):=by
  have:sq2 (a*(y.w-x.w)) (a*(x.u-y.u))=a*a*sq2 (x.u-y.u) (x.w-y.w):=by unfold sq2;grind
  rw[this,D,gq]
 have eC:crs x.u x.w (a*(y.w-x.w)) (a*(x.u-y.u))*a=sq2 x.u x.w-dt2 x.u x.w y.u y.w:=by
  have:crs x.u x.w (a*(y.w-x.w)) (a*(x.u-y.u))*a=a*a*(sq2 x.u x.w-dt2 x.u x.w y.u y.w):=by unfold crs sq2 dt2;grind
  rw[this,D,gq]
 have N:crs y.u y.w (a*(y.w-x.w)) (a*(x.u-y.u))* -a=sq2 y.u y.w-dt2 x.u x.w y.u y.w:=by
  have:crs y.u y.w (a*(y.w-x.w)) (a*(x.u-y.u))* -a=a*a*(sq2 y.u y.w-dt2 x.u x.w y.u y.w):=by unfold crs sq2 dt2;grind
  rw[this,D,gq]
 obtain⟨Y,hw⟩:=Qjt L.ok M.ok hd;have nS:=IG (x.u+y.u) (x.w+y.w);rw[U8]at nS;rw[FO]at eN;have hA:=G.A;have hp:=G.m.2;have hR:=G.R;have a0:2*(sq2 x.u x.w+sq2 y.u y.w)<=(2*(mn x.r y.r+65))*(2*(mn x.r y.r+65)):=G.S;have O:=G.cx;have U:=G.cy;have V:=G.R5;clear G I D;generalize mn x.r y.r=p at*;have h0: ¬(a*(y.w-x.w)=0/\a*(x.u-y.u)=0):=by
  rintro⟨g1,g2⟩;rw[g1,g2]at eC;have e0:crs x.u x.w 0 0*a=0:=by unfold crs;simp
  rw[e0]at eC;have:0<(p-1)*(p-1):=dk;omega
 obtain⟨S,X,r2,r3⟩:=SK Y hw;have hS:S<=2*(p+65):=FI (by omega) (by omega);exact Q2b hd L M Y hw V h0 ⟨X,r2,r3⟩ eC N (Qw4 hp hR ⟨X,hS⟩ O (by omega)) (Qw4 hp hR ⟨X,hS⟩ U (by omega))
def Zc3 {x y:Spk} (hd:a=1\/a= -1) (M:Spo x) (N:Spo y) (h1:0<dt2 x.u x.w y.u y.w) (h2:0<crs x.u x.w y.u y.w*a) (h3:((x.r-y.r).natAbs:Int)<=33) (h4:32*mn x.r y.r-64<sq2 (x.u-y.u) (x.w-y.w)):U6 x y a (AS x y a false):=by
 have D:=NT M N h3;have L:=OS hd;have eM:BR x y a false=(x.u+y.u,x.w+y.w):=by
  unfold BR;rw[ab (by simp),ac ⟨h1,h2⟩]
 unfold AS;rw[eM];simp only;have eC:crs x.u x.w (x.u+y.u) (x.w+y.w)*a=crs x.u x.w y.u y.w*a:=by unfold crs;grind
 have O:crs y.u y.w (x.u+y.u) (x.w+y.w)* -a=crs x.u x.w y.u y.w*a:=by unfold crs;grind
 obtain⟨hu,hw⟩:=Q6u M.ok N.ok;have U:=M.norm;have V:=N.norm;have G:=D.d;have d1:=Zj1 (p:=mn x.r y.r) U.2 V.1 G.1 G.2.1 G.2.2.1;have d2:=Zj1 (p:=mn x.r y.r) V.2 U.1 (by omega) (by omega) G.2.2.2;have I:=Z54 (p:=mn x.r y.r) (FO x y) (Z9x x y L) h1 D.m.2 D.A.1 D.A.2 h4 ⟨by omega,d1⟩ h2;have nD:=IG (x.u-y.u) (x.w-y.w);have eS:=U8 x y;rw[FO]at nD;have hp:=D.m.2;have hR:=D.R;have a1:2*(sq2 x.u x.w+sq2 y.u y.w)<=(2*(mn x.r y.r+34))*(2*(mn x.r y.r+34)):=D.S;have X:=D.cx;have Y:=D.cy;have a0:=D.R5;clear D h3 L d1 d2 U V G h4;generalize mn x.r y.r=p at*;have h0: ¬(x.u+y.u=0/\x.w+y.w=0):=by
  rintro⟨g1,g2⟩;rw[g1,g2]at eC;have e0:crs x.u x.w 0 0*a=0:=by unfold crs;simp
  rw[e0]at eC;omega
 obtain⟨S,r1,r2,r3⟩:=SK hu hw;have hS:S<=2*(p+34):=FI (by omega) (by omega);exact Q2b hd M N hu hw a0 h0 ⟨r1,r2,r3⟩ eC O (Qql hp hR ⟨r1,hS⟩ X I) (Qql hp hR ⟨r1,hS⟩ Y I)
end Go.Bm
namespace Go.Bm
theorem Zyv (r k:Int):(AO r k=r/\AP r k=0)\/(AO r k=0/\AP r k=r)\/(AO r k= -r/\AP r k=0)\/(AO r k=0/\AP r k= -r):=by grind [AO,AP]
theorem SU (r k:Int):sq2 (AO r k) (AP r k)=r*r:=by grind [sq2,Zyv]
theorem Zri (G:b=1\/b=2\/b=3) (I:0<a) (L:0<u):crs (AO a k) (AP a k) (AO u (k+b)) (AP u (k+b))≠0\/dt2 (AO a k) (AP a k) (AO u (k+b)) (AP u (k+b))<0:=by
 have M:k%4=0\/k%4=1\/k%4=2\/k%4=3:=by omega
 have N:=dk I L;have V: -a*u= -(a*u)/\a* -u= -(a*u)/\ -a* -u=a*u:=⟨j9 ..,Int.mul_neg ..,Int.neg_mul_neg ..⟩;have e:∀j:Int,(k+b)%4=j->∀i:Int,k%4=i->crs (AO a k) (AP a k) (AO u (k+b)) (AP u (k+b))=(if i=0 then a else if i=2 then-a else 0)*(if j=1 then u else if j=3 then-u else 0)-(if i=1 then a else if i=3 then-a else 0)*(if j=0 then u else if j=2 then-u else 0)/\
   dt2 (AO a k) (AP a k) (AO u (k+b)) (AP u (k+b))=(if i=0 then a else if i=2 then-a else 0)*(if j=0 then u else if j=2 then-u else 0)+(if i=1 then a else if i=3 then-a else 0)*(if j=1 then u else if j=3 then-u else 0):=by
  intro j O i U;subst O U;exact⟨rfl,rfl⟩
 rcases G with rfl|rfl|rfl<;>rcases M with D|D|D|D
 ·grind
 ·grind
 ·grind
 ·grind
 ·grind
 ·grind
 ·obtain⟨e1,e2⟩:=e 0 (by omega) _ D
  grind
 ·obtain⟨e1,e2⟩:=e 1 (by omega) _ D
  grind
 ·grind
 ·grind
 ·grind
 grind
def Z1a {it:Itm} (h:ArcMade a it):Q9a it:=by
 obtain⟨r,k,t,g,x,L,Y,h3,h4,h5,h6,N,M,h9,O,U,D,I⟩:=h.ends;have G:=h.aG;have a1:dU it it.fr=AO r k:=by unfold dU;rw[D,(CI G).1];omega
 have a2:dW it it.fr=AP r k:=by unfold dW;rw[D,(CI G).2.1];omega
 have a3:dU it it.to=AO (r+g) (k+t):=by unfold dU;rw[D,I,(CI G).1,(CI G).1];omega
 have a4:dW it it.to=AP (r+g) (k+t):=by unfold dW;rw[D,I,(CI G).2.1,(CI G).2.1];omega
 have V:qA it=r*r:=by unfold qA;rw[a1,a2,SU]
 have X:qB it=(r+g)*(r+g):=by unfold qB;rw[a3,a4,SU]
 have m1:64<=r*r:=by
  have:=cv L L;omega
 have m2:64<=(r+g)*(r+g):=by
  have:=cv (show(8:Int)<=r+g by omega) (show(8:Int)<=r+g by omega);omega
 refine⟨by omega,by omega,?_,?_,?_⟩
 ·rw[V,X];right;have hg:g*g<=16:=by
   have:=cv M M N;omega
  have e1:r*r+(r+g)*(r+g)-16=2*(r*(r+g))+(g*g-16):=by grind
  have e2:4*(r*r)*((r+g)*(r+g))=(2*(r*(r+g)))*(2*(r*(r+g))):=by grind
  rw[e1,e2];exact ai
 ·grind
 ·intro hf;unfold cAB dAB;rw[a1,a2,a3,a4];rw[U] at hf;have hf:=of_decide_eq_false hf;exact Zri (by omega) (by omega) (by omega)
def Zhv {it:Itm} (h:Made it) (G:bd 1000000 it.fr) (I:bd 1000000 it.to):Cb it:=by
 refine⟨h.aP,AH G (by omega),AH I (by omega),λL=> ?_⟩;have D:=h.arc L;exact⟨D.aG,D.dir,AH (WI D (by omega) G).2 (by omega),Z1a D⟩
end Go.Bm
namespace Go.Bm
open Classical
structure Oth (it : Itm) : Prop where
 aP:7<=it.aP/\it.aP<=14
 spin:it.aP=8->3<=it.n/\it.n<=5/\0<=it.aS/\it.aS<=4000
 dwell:it.aP=7->0<=it.n/\it.n<=4
 out:it.aP=10->0<=it.n/\it.n<=15
def DZ:Pt->List Itm->Prop
 |_,[]=>True
 |p,it::l=>if Aw it then it.fr=p/\DZ it.to l else DZ p l
def Dg:Pt->List Itm->Pt
 |p,[]=>p
 |p,it::l=>if Aw it then Dg it.to l else Dg p l
def YF {it:Itm}:∀{l:List Itm} {p:Pt},DZ p l->(Aw it->it.fr=Dg p l)->DZ p (l++[it])
 |[],p,_,h=>by
  simp only[cq,DZ];split
  ·rename_i c;exact⟨h c,trivial⟩
  simp
 |a::l,p,D,h=>by
  simp only[da,DZ]at D⊢;unfold Dg at h;by_cases c:Aw a
  ·rw[ac c]at D h⊢;exact⟨D.1,YF D.2 h⟩
  rw[ab c]at D h⊢;exact YF D h
theorem IZ {it:Itm}:∀{l:List Itm} {p:Pt},Dg p (l++[it])=if Aw it then it.to else Dg p l
 |[],p=>by rfl
 |a::l,p=>by
  simp only[da,Dg];by_cases c:Aw a
  ·rw[ac c,ac c];exact IZ
  rw[ab c,ab c];exact IZ
structure Items (A : Nat) (p : Pt) (l : List Itm) : Prop where
 link:DZ p l
 made:∀it∈l,(Aw it/\Made it/\Gb it/\bd A it.fr/\bd A it.to)\/Oth it
theorem Rx {l:List Itm} {it:Itm} (h:Items A d l) (G:Aw it->it.fr=Dg d l) (I:(Aw it/\Made it/\Gb it/\bd A it.fr/\bd A it.to)\/Oth it):Items A d (l++[it]):=by
 refine⟨YF h.link G,λi D=> ?_⟩;simp at D;rcases D with D|rfl
 ·exact h.made i D
 omega
theorem Pf {it:Itm} (h:Oth it): ¬Aw it:=λg=>by have:=h.aP;have:=g.2;omega
def Z9i (G:He l M) (k:Nat):
  ∃(it:Itm) (k':Nat),ZG M [.vC Aa l,I k]=some (Ag it++[.vC Aa l,I k'])/\k<=k'/\Oth it/\it.aP≠14:=by
 rw[Ztq];obtain⟨D,k0,e0,a0,b0,O,-,-⟩:=G k (n:=8) (by omega);obtain⟨v1,k1,e1,a1,b1,U,-,-⟩:=G k0 (n:=16) (by omega);obtain⟨v2,k2,e2,a2,b2,V,-,-⟩:=G k1 (n:=2) (by omega);obtain⟨v3,k3,e3,a3,b3,X,-,-⟩:=G k0 (n:=5) (by omega);obtain⟨v4,k4,e4,a4,b4,Y,-,-⟩:=G k0 (n:=3) (by omega);obtain⟨v5,k5,e5,a5,b5,c5,-,-⟩:=G k4 (n:=4000) (by omega);simp only[go_sem,e0,e1,e2,e3,e4,e5];rw[Ad (x:=3+v4)];have fin:∀(N n sp:Int) (on:Bool) (k':Nat),k<=k'->N≠14->Oth ⟨N,0,⟨0,0,0⟩,⟨0,0,0⟩,0,⟨0,0,0⟩,0,false,0,false,0,0,0,n,sp,on⟩->
   ∃(it:Itm) (L:Nat),some [I N,I 0,I 0,I 0,I 0,I 0,I 0,I 0,I 0,I 0,I 0,I 0,I 0,B false,I 0,B false,I 0,I 0,I 0,I n,I sp,B on, .vC Aa l,I k']=some (Ag it++[.vC Aa l,I L])/\k<=L/\Oth it/\it.aP≠14:=by
  intro N n sp on k' h1 h0 h2;exact⟨_,k',rfl,h1,h2,h0⟩
 by_cases O:D=0
 ·rw[ac O];exact fin _ _ _ _ _ (by omega) (by omega) ⟨by simp,by simp,by simp,λ_=>by grind⟩
 rw[ab O];by_cases U:D=1
 ·rw[ac U];exact fin _ _ _ _ _ (by omega) (by omega) ⟨by simp,by simp,by simp,λ_=>by grind⟩
 rw[ab U];by_cases V:D=2
 ·rw[ac V];exact fin _ _ _ _ _ (by omega) (by omega) ⟨by simp,by simp,λ_=>by grind,by simp⟩
 rw[ab V];by_cases X:D=3
 ·rw[ac X];exact fin _ _ _ _ _ (by omega) (by omega) ⟨by simp,λ_=>by grind,by simp,by simp⟩
 rw[ab X];by_cases Y:D=4
 ·rw[ac Y];exact fin _ _ _ _ _ (by omega) (by omega) ⟨by simp,by simp,by simp,by simp⟩
 rw[ab Y];by_cases c5:D=5
 ·rw[ac c5];exact fin _ _ _ _ _ (by omega) (by omega) ⟨by simp,by simp,by simp,by simp⟩
 rw[ab c5];by_cases c6:D=6
 ·rw[ac c6];exact fin _ _ _ _ _ (by omega) (by omega) ⟨by simp,by simp,by simp,by simp⟩
 rw[ab c6];exact fin _ _ _ _ _ (by omega) (by omega) ⟨by simp,by simp,by simp,by simp⟩
def Zrd (D:Src l) (k:Nat):∃(it:Itm) (k':Nat),SE [.vC Aa l,I k]=some (Ag it++[.vC Aa l,I k'])/\k<=k'/\Oth it/\it.aP≠14:=Z9i (HX D) k
def Zrg (h:0<=v/\v<8):∃x,Af (nth .vD (nth [] [[I 2],[I 2],[I 2],[I 3],[I 1],[I 6],[I 5],[I 4]] v.toNat) 0)=x/\1<=x/\x<=6:=by
 have D:v=0\/v=1\/v=2\/v=3\/v=4\/v=5\/v=6\/v=7:=by omega
 rcases D with rfl|rfl|rfl|rfl|rfl|rfl|rfl|rfl<;>exact⟨_,rfl,by decide⟩
def VI {l:List Itm} {it:Itm} (h:∀x∈l,x.aP≠14) (D:it.aP≠14):∀x∈l++[it],x.aP≠14:=by grind
def Z1x {MM MO ML MN MF:Fn} (X:He l MN)
  (hM : ∀ {p : Pt}, bd 100000000 p -> ∀ {aP : Int}, (1 <= aP /\ aP <= 6) -> ∀ k : Nat,
   ∃(it:Itm) (k':Nat),MM [I p.x,I p.y,I p.z,I aP, .vC Aa l,I k]=some (Ag it++[.vC Aa l,I k'])/\k<=k'/\it.fr=p/\it.aP=aP/\Made it/\Gb it)
  (hO:∀k:Nat,∃(it:Itm) (k':Nat),MO [.vC Aa l,I k]=some (Ag it++[.vC Aa l,I k'])/\k<=k'/\Oth it/\it.aP≠14)
  (hL:∀k:Nat,ML [.vC Aa l,I k]=some [B (decide (k<l.length)), .vC Aa l,I k]) {D:Int} {fin:Bool} (hm:D<=100) {p:Pt}:
  ∀s:List Itm×Nat,(Items (4+40*102) p s.1/\bd (4+40*s.1.length) (Dg p s.1)/\(s.1=[]\/s.1.length<=D+1)/\∀it∈s.1,it.aP≠14)->
   ∃o,Ak (Qjq MM MO ML MN MF) [.vC Ae (s.1.map Ag),I D,B fin,I (Dg p s.1).x,I (Dg p s.1).y,I (Dg p s.1).z, .vC Aa l,I s.2]=some o/\o.1≠0/\
    ∃aA,o=(1,[.vC Ae (aA.map Ag),B fin])/\Items (4+40*102) p aA/\(aA=[]\/aA.length<=D+1)/\∀it∈aA,it.aP≠14:=by
 refine ZI (S:=List Itm×Nat) (λs=>[.vC Ae (s.1.map Ag),I D,B fin,I (Dg p s.1).x,I (Dg p s.1).y,I (Dg p s.1).z, .vC Aa l,I s.2]) _ (λs=>l.length-s.2) _ ?_;rintro⟨aA,k⟩ ⟨O,Y,h3,U⟩;simp only at O Y h3 U;simp only;rw[Z9e];simp only[go_sem,hL,aj];by_cases c1:(aA.length:Int)<D
 case neg=>grind
 rw[ac c1];by_cases c2:k<l.length
 case neg=>grind
 rw[ac];obtain⟨v,k1,e1,a1,b1,d1,d2,-⟩:=X k (n:=12) (by omega);have d3:=d2 c2;subst d3;simp only[go_sem,e1];have a0:aA.length<100:=by omega
 by_cases c3:v<4
 ·rw[ac c3];obtain⟨it,V,e2,g1,g2,g0⟩:=hO (k+1);have L:=Pf g2;simp only[go_sem,e2,Ag,da,cq];rw[ac (by grind)];left;refine⟨(aA++[it],V),?_,⟨Rx O (λh=>absurd h L) (.inr g2),?_, .inr ?_,VI U g0⟩,?_⟩
  ·simp_all [IZ]
  ·simp only[IZ,ab L,cg,ip]
   grind [AH]
  ·grind
  omega
 rw[ab c3,Ad];obtain⟨x,hx,a6,a7⟩:=Zrg (v:=v-4) (by omega);have a2:bd 100000000 (Dg p aA):=AH Y (by omega);obtain⟨it,V,e2,g1,g2,g3,g4,g5⟩:=hM a2 (aP:=x) (by omega) (k+1);have M:Aw it:=by unfold Aw;omega
 have a5:=Qpo g4 (by rw[g2];exact Y);rw[ac (by grind)];simp only[go_sem,hx,e2,Ag,da,cq];have G:(Aw it/\Made it/\Gb it/\bd (4+40*102) it.fr/\bd (4+40*102) it.to)\/Oth it:= .inl ⟨M,g4,g5,by grind [AH],AH a5 (by omega)⟩;by_cases c5:it.aP=5
 ·rw[ac c5];obtain⟨v3,k3,e3,a3,b3,d3,-,-⟩:=X V (n:=2) (by omega);obtain⟨v4,k4,e4,a4,b4,d4,-,-⟩:=X k3 (n:=3000) (by omega);simp only[go_sem,e3,e4];rw[Ad (x:=3+v3),Ad (x:=200+v4)];rw[ac (by grind),ac (by grind)];have N:Oth ⟨8,0,⟨0,0,0⟩,⟨0,0,0⟩,0,⟨0,0,0⟩,0,false,0,false,0,0,0,3+v3,200+v4,false⟩:=⟨by simp,λ_=>by grind,by simp,by simp⟩;have L:=Pf N;have i1:=Rx O (λh=>absurd h L) (.inr N);left;refine⟨(aA++[⟨8,0,⟨0,0,0⟩,⟨0,0,0⟩,0,⟨0,0,0⟩,0,false,0,false,0,0,0,3+v3,200+v4,false⟩]++[it],k4),?_,⟨Rx i1 (λ_=>by simp_all [IZ]) G,?_, .inr ?_,VI (VI U (by simp)) (by omega)⟩,?_⟩
  ·simp only[IZ,ac M,d8,bz,fx,Ag]
  ·simp only[IZ,ac M,cg,ip]
   grind [AH]
  ·grind
  omega
 rw[ab c5,ac (by grind)];left;refine⟨(aA++[it],V),?_,⟨Rx O (λ_=>g2) G,?_, .inr ?_,VI U (by omega)⟩,?_⟩
 ·simp_all [IZ]
 ·simp only[IZ,ac M,cg,ip];omega
 ·grind
 omega
def KR:Itm:=⟨14,0,⟨0,0,0⟩,⟨0,0,0⟩,0,⟨0,0,0⟩,0,false,0,false,0,0,0,0,0,false⟩
theorem Zse:Oth KR:=⟨by simp[KR],by simp[KR],by simp[KR],by simp[KR]⟩
def Ybg (G:He l P) (X:H [.vC Aa l]=some [.vC Aa l,I 0]) {D:Int} {fin:Bool} (hm:D<=100)
  (Y:∀(p:Pt) (k:Nat),bd 4 p->∃aA,N [.vC Ae [],I D,B fin,I p.x,I p.y,I p.z, .vC Aa l,I k]=some (1,[.vC Ae (aA.map Ag),B fin])/\Items 4084 p aA/\(aA=[]\/aA.length<=D+1)/\∀it∈aA,it.aP≠14):
  ∃(p:Pt) (aA:List Itm),Qjy M Z V P H N [.vC Aa l,I D,B fin]=some [.vC Ae ((aA++if fin=true then [KR]else []).map Ag)]/\Items 4084 p aA/\(aA=[]\/aA.length<=D+1)/\∀it∈aA,it.aP≠14:=by
 obtain⟨O,U,e1,a1,b1,c1,-,-⟩:=G 0 (n:=9) (by omega);obtain⟨v2,k2,e2,a2,b2,c2,-,-⟩:=G U (n:=9) (by omega);obtain⟨v3,k3,e3,a3,b3,c3,-,-⟩:=G k2 (n:=9) (by omega);obtain⟨aA,h1,h2,h3,h0⟩:=Y ⟨O-4,v2-4,v3-4⟩ k3 ⟨by grind,by grind,by grind⟩;rw[Z0w];have L:P [I 9, .vC Aa l,I 0]=some [I O, .vC Aa l,I U]:=e1;simp only[go_sem,X,L,e2,e3];rw[Ad,Ad,Ad];simp only[h1,go_sem];refine⟨_,aA,?_,h2,h3,h0⟩;cases fin
 ·simp
 rw[ac rfl,ac (by grind),ac rfl,d8];rfl
def Z7c (G:Src l) {D:Int} (N:D<=100) (fin:Bool):
  ∃(p:Pt) (aA:List Itm),NU [.vC Aa l,I D,B fin]=some [.vC Ae (aA.map Ag)]/\Items 4084 p aA/\(aA.length:Int)<=max D (-1)+2/\(fin=true->∃l,aA=l++[KR]/\(l.length:Int)<=max D (-1)+1)/\(fin=false->(aA.length:Int)<=max D (-1)+1/\∀it∈aA,it.aP≠14):=by
 obtain⟨p,aA,L,Y,O,h0⟩:=Ybg (HX G) (RZ l) N λp k M=>by
  obtain⟨o,L,-,aA,rfl,O,U,V⟩:=Z1x (MF:=DR) (fin:=fin) (HX G) (λM _ X k=>Z1u G M X k) (λk=>Zrd G k) (Qpv l) N ([],k) ⟨⟨trivial,by simp⟩,M, .inl rfl,by simp⟩;exact⟨aA,L,O,U,V⟩
 refine⟨p,_,L,?_,?_,λhf=> ?_,λhf=> ?_⟩
 ·cases fin
  ·grind
  simp_all [Rx,Pf,Zse]
 ·grind
 ·grind
 grind
def Z5a (D:Src l) {most:Int} (G:most<=100) (fin:Bool):
  ∃(p:Pt) (aA:List Itm),NU [.vC Aa l,I most,B fin]=some [.vC Ae (aA.map Ag)]/\Items 4084 p aA/\(aA.length:Int)<=max most (-1)+2/\(fin=true->∃l,aA=l++[KR]/\(l.length:Int)<=max most (-1)+1)/\(fin=false->(aA.length:Int)<=max most (-1)+1):=by
 obtain⟨p,aA,L,M,N,O,U⟩:=Z7c D G fin
 grind
def Qhj {A:Nat} {aA:List Itm} (G:A<=1000000) (L:∀it∈aA,(Aw it/\Made it/\Gb it/\bd A it.fr/\bd A it.to)\/Oth it):∀(k i:Nat) (last:Int) (p:Pt),i+k=aA.length->DZ p (aA.drop i)->(0<=last->(vE aA last.toNat).to=p)->GZ aA k i last=0
 |0,_,_,_,_,_,_=>rfl
 |k+1,i,last,p,hi,h,O=>by
  have D:i<aA.length:=by omega
  have M:=L _ (Tu D);rw[Xa D]at h;unfold DZ at h;unfold GZ;have U: ¬Ci (vE aA i):=by
   rcases M with⟨h1,I,h3,V,X⟩|N
   ·have hv:=Zhv I (AH V G) (AH X G);have hf:=I.aZ;have hb:=I.bJ;have Y:=I.aP;rintro(g|g|⟨-,g|g|g|g⟩|⟨g,-⟩)
    ·omega
    ·omega
    ·grind
    ·omega
    ·omega
    ·omega
    grind
   have Y:=N.aP;rintro(g|g|⟨g,-⟩|⟨-,g1,g2⟩)
   ·omega
   ·omega
   ·exact Pf N g
   have:=N.spin g1;omega
  rw[ab U];by_cases c:Aw (vE aA i)
  ·rw[ac c]at h⊢;rw[ab (λg=>g.2 (by grind))];exact Qhj G L k (i+1) i _ (by omega) h.2 (λ_=>by rfl)
  rw[ab c]at h⊢;exact Qhj G L k (i+1) last p (by omega) h O
def Wt {aA:List Itm} (D:A<=1000000) (h:Items A d aA) (G:aA.length<=20000):Df aA=0:=by
 unfold Df;rw[ab];exact Qhj D h.made aA.length 0 (-1) d (by omega) (by grind [h.link]) (λh=>by omega)
theorem Yen (D G I L M N O U dir:Int):(crs M N O U*dir)*(crs D G I L*dir)=(crs M N I L*dir)*(crs D G O U*dir)+(crs D G M N*dir)*(crs I L O U*dir):=by grind [crs]
theorem Zox (D G I L M N O U dir:Int):(crs D G M N*dir)*(crs I L O U*dir)=(crs D G I L*dir)*(crs M N O U*dir)+(crs D G O U*dir)*(crs I L M N*dir):=by grind [crs]
theorem Qj (hb:0<b) (h:0<=a*b):0<=a:=by
 by_cases c:0<=a
 ·exact c
 have:=Int.mul_neg_of_neg_of_pos (show a<0 by omega) hb;omega
structure Btw (x y q : Spk) : Prop where
 sp:Spo q
 r:mn x.r y.r<=q.r/\q.r<=mx x.r y.r
 h:mn x.h y.h<=q.h/\q.h<=mx x.h y.h
theorem Q05 {x y:Spk} (D:Spo y):Btw x y y:=⟨D,by grind [mn,mx],by grind [mn,mx]⟩
def Qt1 {x y:Spk} (D:Spo x):Btw x y x:=⟨D,by grind [mn,mx],by grind [mn,mx]⟩
def PJ (a b:Int):mn a b<=hf a b/\hf a b<=mx a b:=by grind [hf,mn,mx]
theorem Zz {x m y q:Spk} (D:m.r=hf x.r y.r) (G:m.h=hf x.h y.h) (h:Btw x m q):Btw x y q:=by
 have I:=PJ x.r y.r;have L:=PJ x.h y.h;obtain⟨s,r,M⟩:=h;refine⟨s,?_,?_⟩
 ·grind [mn,mx]
 grind [mn,mx]
theorem Qbn {x m y q:Spk} (D:m.r=hf x.r y.r) (G:m.h=hf x.h y.h) (h:Btw m y q):Btw x y q:=by
 have I:=PJ x.r y.r;have L:=PJ x.h y.h;obtain⟨s,r,M⟩:=h;refine⟨s,?_,?_⟩
 ·grind [mn,mx]
 grind [mn,mx]
def ND {x m y:Spk} (D:m.r=hf x.r y.r) (h:((x.r-y.r).natAbs:Int)<=64):((x.r-m.r).natAbs:Int)<=33/\((m.r-y.r).natAbs:Int)<=33:=by grind [hf]
def LS {dir:Int} (hd:dir=1\/dir= -1):∀(k:Nat) {x y:Spk},Spo x->Spo y->0<crs x.u x.w y.u y.w*dir->(((x.r-y.r).natAbs:Int)<=33\/(((x.r-y.r).natAbs:Int)<=64/\dt2 x.u x.w y.u y.w<=0))->
  ∀q∈A0 dir k false x y,Btw x y q/\0<=crs x.u x.w q.u q.w*dir/\0<=crs q.u q.w y.u y.w*dir
 |0,x,y,_,L,G,_,q,D=>by grind [A0,Q05,crs]
 |k+1,x,y,U,L,G,V,q,D=>by
  unfold A0 at D;by_cases c:EN x y dir false
  ·rw[ac c,jz]at D
   grind [Q05,crs]
  rw[ab c]at D;have M:((x.r-y.r).natAbs:Int)<=64:=by rcases V with h|h<;>omega
  have X:U6 x y dir (AS x y dir false):=by
   by_cases N:dt2 x.u x.w y.u y.w<=0
   ·grind [Mi]
   have O:=V.resolve_right (λh=>N h.2);refine Zc3 hd U L (by omega) G O ?_;have: ¬sq2 (x.u-y.u) (x.w-y.w)<=32*mn x.r y.r-64:=λh=>c ⟨rfl,G,h⟩;omega
  obtain⟨m1,m2,m3,m4,m5⟩:=X;obtain⟨Y,d2⟩:=ND m2 M;rcases bt.1 D with D|D
  ·obtain⟨g1,g2,I⟩:=LS hd k U m1 m4 (.inl Y) q D;refine⟨Zz m2 m3 g1,g2,Qj m4 ?_⟩;rw[Yen];have a1:=al I (f7 G);have a2:=al g2 (f7 m5);omega
  obtain⟨g1,g2,I⟩:=LS hd k m1 L m5 (.inl d2) q D;refine⟨Qbn m2 m3 g1,Qj m5 ?_,I⟩;rw[Zox];have a1:=al (f7 m4) I;have a2:=al (f7 G) g2;omega
theorem Qig (hd:a=1\/a= -1) (k:Nat) {x y:Spk} (N:Spo x) (I:Spo y) (G:((x.r-y.r).natAbs:Int)<=64) (L:dt2 x.u x.w y.u y.w<=0):
  ∀q∈A0 a (k+1) false x y,Btw x y q/\FP x.u x.w y.u y.w q.u q.w a:=by
 intro q D;by_cases O:0<crs x.u x.w y.u y.w*a
 ·obtain⟨g1,g2,V⟩:=LS hd (k+1) N I O (.inr ⟨G,L⟩) q D;simp_all [FP]
 unfold A0 at D;rw[ab (λc:EN x y a false=>O c.2.1)]at D;obtain⟨m1,m2,m3,m4,m5⟩:=Mi hd N I G L;obtain⟨Y,d2⟩:=ND m2 G;have key:Btw x y q/\(0<=crs x.u x.w q.u q.w*a\/0<=crs q.u q.w y.u y.w*a):=by
  rcases bt.1 D with D|D
  ·obtain⟨g1,g2,V⟩:=LS hd k N m1 m4 (.inl Y) q D
   grind [Zz]
  obtain⟨g1,g2,V⟩:=LS hd k m1 I m5 (.inl d2) q D
  grind [Qbn]
 refine⟨key.1,?_⟩;have M:=key.2;have e1:crs y.u y.w q.u q.w= -crs q.u q.w y.u y.w:=Lj _ _ _ _;have e2:crs q.u q.w x.u x.w= -crs x.u x.w q.u q.w:=Lj _ _ _ _;unfold FP;rw[ab O];by_cases c:crs x.u x.w y.u y.w*a=0/\dt2 x.u x.w y.u y.w<0
 ·rw[ac c];rcases M with M|M
  ·exact M
  have c0:crs x.u x.w y.u y.w=0:=by have:=c.1;rcases hd with rfl|rfl<;>omega
  have X:=Qgf y.u y.w x.u x.w q.u q.w;rw[Lj x.u x.w y.u y.w,c0,e1,e2]at X;have U:0<sq2 y.u y.w:=by
   have:=I.norm.1;have:=I.r;have:0<(y.r-1)*(y.r-1):=dk;omega
  have e3:dt2 y.u y.w x.u x.w=dt2 x.u x.w y.u y.w:=by unfold dt2;grind
  refine Qj U ?_;have e4:crs x.u x.w q.u q.w*a*sq2 y.u y.w= -((crs q.u q.w y.u y.w*a)*dt2 x.u x.w y.u y.w):=by
   have:crs x.u x.w q.u q.w*a*sq2 y.u y.w= -(sq2 y.u y.w* -crs x.u x.w q.u q.w*a):=by grind
   rw[this,<-X];grind
  simp_all [fd]
 grind
def XR (I:u.natAbs<=100000000) (G:1<=R/\R<=50000000) (L:u*u<=R*R):AM u R (R*R)=u:=by
 have hn:0<R*R:=dk;have M:=ai (by omega) G.2;obtain⟨j,e,D,N,O⟩:=RU I ⟨by omega,G.2⟩ ⟨hn,by omega⟩ L;have U:(j:Int)<=u.natAbs:=by
  rcases D with D|D
  ·omega
  have:(2*(j:Int)-1)*R<=2*(u.natAbs*R):=by
   refine FI (al (by omega) (al)) (dh (Int.le_of_eq ?_) D)
   grind
  have e3:2*((u.natAbs:Int)*R)=2*(u.natAbs:Int)*R:=by grind
  rw[e3]at this;have:=dw this (by omega);omega
 have V:(u.natAbs:Int)<=j:=by
  have:2*((u.natAbs:Int)*R)<=(2*(j:Int)+1)*R:=by
   refine FI (al) (dh N (Int.le_of_eq ?_))
   grind
  have e3:2*((u.natAbs:Int)*R)=2*(u.natAbs:Int)*R:=by grind
  rw[e3]at this;have:=dw this (by omega);omega
 omega
theorem Z1j (hd:a=1\/a= -1) (k:Nat) {x y:Spk} (L:Spo x) (N:Spo y) (O:y.u=x.u/\y.w=x.w) (hr:y.r=x.r) (he:sq2 x.u x.w=x.r*x.r):
  ∀q∈A0 a (k+2) true x y,Btw x y q:=by
 intro q D;rw[A0]at D;have a0:=L.r;have U:0<x.r*x.r:=dk;have h0: ¬(-x.u=0/\ -x.w=0):=by
  rintro⟨g1,g2⟩;have a1:x.u=0:=by omega
  have a2:x.w=0:=by omega
  rw[a1,a2]at he;unfold sq2 at he;omega
 have hb:=L.ok;obtain⟨s1,s2⟩:=MJ L N (by have:=hb.1;omega) (by have:=hb.2.1;omega) h0;have V:sq2 (-x.u) (-x.w)=x.r*x.r:=by rw[<-he];unfold sq2;grind
 obtain⟨X,Y⟩:=Kl (-x.u) (-x.w);rw[V]at X Y;have G:hf x.r y.r=x.r:=by rw[hr];unfold hf;omega
 have n1:=XR (R:=x.r) (by have:=hb.1;omega) ⟨by omega,hb.2.2.1.2⟩ X;have n2:=XR (u:= -x.w) (R:=x.r) (by have:=hb.2.1;omega) ⟨by omega,hb.2.2.1.2⟩ Y;rw[G,V,n1,n2]at s2;have eM:AS x y a true=DC x y (-x.u) (-x.w):=by
  unfold AS BR;rw[ac rfl]
 rw[eM]at D;generalize DC x y (-x.u) (-x.w)=m at*;have mr:m.r=hf x.r y.r:=by rw[s2,G]
 have mh:m.h=hf x.h y.h:=by rw[s2]
 have M:dt2 x.u x.w m.u m.w<=0:=by
  have:dt2 x.u x.w m.u m.w= -(x.r*x.r):=by rw[s2,<-he];unfold dt2 sq2;grind
  omega
 have I:dt2 m.u m.w y.u y.w<=0:=by
  have:dt2 m.u m.w y.u y.w= -(x.r*x.r):=by rw[s2,<-he,O.1,O.2];unfold dt2 sq2;grind
  omega
 rcases bt.1 D with D|D
 ·exact Zz mr mh (Qig hd k L s1 (by omega) M q D).1
 exact Qbn mr mh (Qig hd k s1 N (by omega) I q D).1
theorem ZJ (h:0<R):Fo (R*R)=R:=by
 refine Pu ⟨by omega,?_, .inr ?_⟩
 ·grind
 grind
theorem Z3f {r s k t:Int} (I:0<=r) (L:0<=s) (M:0<=k/\k<=3) (N:1<=t/\t<=3):dt2 (AO r k) (AP r k) (AO s (k+t)) (AP s (k+t))<=0:=by
 have O:=al I L;have D:k=0\/k=1\/k=2\/k=3:=by omega
 have G:t=1\/t=2\/t=3:=by omega
 rcases D with rfl|rfl|rfl|rfl<;>rcases G with rfl|rfl|rfl<;>simp[dt2,AO,AP,Int.mul_neg,j9]<;>omega
structure ArcEnds (it : Itm) (R0 R1 : Int) : Prop where
 a:Spo (Av it it.fr)
 b:Spo (Av it it.to)
 ra:(Av it it.fr).r=R0/\sq2 (Av it it.fr).u (Av it it.fr).w=R0*R0
 rb:(Av it it.to).r=R1/\sq2 (Av it it.to).u (Av it it.to).w=R1*R1
 le:128<=R0/\R0<=R1/\R1<=R0+64
 bI:it.bI=true->(Av it it.to).u=(Av it it.fr).u/\(Av it it.to).w=(Av it it.fr).w/\R1=R0
 part:it.bI=false->dt2 (Av it it.fr).u (Av it it.fr).w (Av it it.to).u (Av it it.to).w<=0
def Zso {it:Itm} (h:ArcMade a it) (U:Cb it):∃R0 R1,ArcEnds it R0 R1:=by
 obtain⟨r,k,t,g,x,h1,h2,h3,h4,h5,h6,h7,h8,h9,M,I,D,L⟩:=h.ends;have G:=h.aG;have a1:dU it it.fr=AO r k:=by unfold dU;rw[D,(CI G).1];omega
 have a2:dW it it.fr=AP r k:=by unfold dW;rw[D,(CI G).2.1];omega
 have a3:dU it it.to=AO (r+g) (k+t):=by unfold dU;rw[D,L,(CI G).1,(CI G).1];omega
 have a4:dW it it.to=AP (r+g) (k+t):=by unfold dW;rw[D,L,(CI G).2.1,(CI G).2.1];omega
 have e1:sq2 (dU it it.fr*16) (dW it it.fr*16)=(16*r)*(16*r):=by
  have:sq2 (dU it it.fr*16) (dW it it.fr*16)=256*sq2 (dU it it.fr) (dW it it.fr):=by unfold sq2;grind
  rw[this,a1,a2,SU];grind
 have e2:sq2 (dU it it.to*16) (dW it it.to*16)=(16*(r+g))*(16*(r+g)):=by
  have:sq2 (dU it it.to*16) (dW it it.to*16)=256*sq2 (dU it it.to) (dW it it.to):=by unfold sq2;grind
  rw[this,a3,a4,SU];grind
 have m1:(Av it it.fr).r=16*r:=by unfold Av;simp only;rw[e1,ZJ (by omega)]
 have m2:(Av it it.to).r=16*(r+g):=by unfold Av;simp only;rw[e2,ZJ (by omega)]
 obtain⟨-,V,X,Y⟩:=U;obtain⟨-,-,N,-⟩:=Y h.aP;have o1:=P6 N V;have o2:=P6 N X;refine⟨16*r,16*(r+g),⟨o1,by omega,?_⟩,⟨o2,by omega,?_⟩,⟨m1,e1⟩,⟨m2,e2⟩,by omega,?_,?_⟩
 ·rw[m1];show _<=sq2 (dU it it.fr*16) (dW it it.fr*16)/\sq2 (dU it it.fr*16) (dW it it.fr*16)<=_
  grind
 ·rw[m2];show _<=sq2 (dU it it.to*16) (dW it it.to*16)/\sq2 (dU it it.to*16) (dW it it.to*16)<=_
  grind
 ·intro hf;rw[I]at hf;have O:=of_decide_eq_true hf;have hg:=M O;show dU it it.to*16=dU it it.fr*16/\dW it it.to*16=dW it it.fr*16/\_
  grind
 intro hf;rw[I]at hf;have O:=of_decide_eq_false hf;show dt2 (dU it it.fr*16) (dW it it.fr*16) (dU it it.to*16) (dW it it.to*16)<=0;have e3:dt2 (dU it it.fr*16) (dW it it.fr*16) (dU it it.to*16) (dW it it.to*16)=256*dt2 (dU it it.fr) (dW it it.fr) (dU it it.to) (dW it it.to):=by unfold dt2;grind
 grind [Z3f]
def Zpo {it:Itm} (hd:it.dir=1\/it.dir= -1) (h:ArcEnds it k v):∀q∈Dh it,Btw (Av it it.fr) (Av it it.to) q/\(it.bI=true\/FP (Av it it.fr).u (Av it it.fr).w (Av it it.to).u (Av it it.to).w q.u q.w it.dir):=by
 intro q D;have hle:=h.le;unfold Dh at D;have L:=h.ra;have M:=h.rb;generalize N:Av it it.fr=a at*;generalize hb:Av it it.to=b at*;rcases be.1 D with D|D
 ·subst D;refine⟨Qt1 (N▸h.a),?_⟩;by_cases hf:it.bI=true
  ·grind
  right;have z:crs q.u q.w q.u q.w=0:=by unfold crs;grind
  have G:=h.part (by grind);unfold FP
  grind
 by_cases hf:it.bI=true
 ·rw[hf]at D;have g:=h.bI hf
  grind [Z1j,h.a,h.b]
 have I:it.bI=false:=by simpa using hf
 have G:=h.part I
 grind [Qig,h.a,h.b]
def Vf (u w x y:Int):dt2 u w x y*dt2 u w x y+crs u w x y*crs u w x y=sq2 u w*sq2 x y:=by grind [dt2,crs,sq2]
def tri {p q x y a b:Int} (D:0<=a) (hb:0<=b) (G:sq2 p q<=a*a) (I:sq2 x y<=b*b):sq2 (p+x) (q+y)<=(a+b)*(a+b):=by
 have M:=Vf p q x y;have N:=Bj (crs p q x y);have L:=IG x y;have O:dt2 p q x y<=a*b:=by
  refine FI (al D hb) ?_;have U:=cv G I L (al D D);have e:a*b*(a*b)=(a*a)*(b*b):=by grind
  omega
 grind [sq2,dt2]
theorem Yv (k u w:Int):sq2 (k*u) (k*w)=k*k*sq2 u w:=by grind [sq2]
def Zgk (D G I L M N:Int):sq2 D G*dt2 I L M N=dt2 D G I L*dt2 D G M N+crs D G I L*crs D G M N:=by grind [sq2,dt2,crs]
def Znk (D G I L M N:Int):sq2 D G*crs I L M N=dt2 D G I L*crs D G M N-crs D G I L*dt2 D G M N:=by grind [sq2,dt2,crs]
def So (I L M N D G dir:Int):Prop:=
 if 0<crs I L M N*dir then 0<=crs I L D G*dir/\0<=crs D G M N*dir else 0<=crs I L D G*dir\/0<=crs D G M N*dir
def Zpi (hb:0<b) (h:0<a*b):0<a:=by
 by_cases c:0<a
 ·exact c
 have:=Int.mul_nonpos_of_nonpos_of_nonneg (show a<=0 by omega) (f7 hb);omega
theorem Yci (hb:b<0) (h:a*b<=0):0<=a:=by
 by_cases c:0<=a
 ·exact c
 have:=Int.mul_pos_of_neg_of_neg (show a<0 by omega) hb;omega
def Ycn (I:128<=R) (L: -2<=a) (M:50*a<=31*R) (N:32*R-607<=u) (O:(a-4)*(4*R-a-2)<=u):(2*(a.natAbs:Int)+11)*(2*(a.natAbs:Int)+11)<=u:=by
 by_cases c:a<=20
 ·have:(2*(a.natAbs:Int)+11)*(2*(a.natAbs:Int)+11)<=51*51:=ai;omega
 have e0:(a.natAbs:Int)=a:=by omega
 rw[e0];by_cases U:a<=60
 ·have D:(a-4)*(510-a)<=(a-4)*(4*R-a-2):=af;have G:0<=(a-21)*(60-a):=al
  grind
 have D:(a-4)*(169*a-62)<=(a-4)*(31*(4*R-a-2)):=af;have e1:(a-4)*(31*(4*R-a-2))=31*((a-4)*(4*R-a-2)):=by grind
 have e2:(a-4)*(169*a-62)-31*((2*a+11)*(2*a+11))=45*(a*a)-2102*a-3503:=by grind
 have G:60*a<=a*a:=ap;omega
def Yd8 (D:128<=R) (hS:0<=S) (h:(2*R-3)*(2*R-3)<=2*((S+1)*(S+1))):50*(2*R-S)<=31*R:=by
 by_cases c:50*(2*R-S)<=31*R
 ·exact c
 exfalso;have G:(50*(S+1))*(50*(S+1))<=(69*R+50)*(69*R+50):=ai;have e1:(50*(S+1))*(50*(S+1))=2500*((S+1)*(S+1)):=by grind
 have e2:(69*R+50)*(69*R+50)=4761*(R*R)+6900*R+2500:=by grind
 have e3:(2*R-3)*(2*R-3)=4*(R*R)-12*R+9:=by grind
 have I:128*R<=R*R:=ap D;omega
def Zre (U:128<=R) (hS:0<=S/\S*S<=sq2 a u/\sq2 a u<(S+1)*(S+1)) (hz:S<=2*R+2) (G:50*(2*R-S)<=31*R) (V:32*R-607<=v) (X:(2*R-S-4)*(4*R-(2*R-S)-2)<=v)
  (e1: -(S+2*R+1)<=2*b*S-2*(a*R)/\2*b*S-2*(a*R)<=S+2*R+1) (e2: -(S+2*R+1)<=2*k*S-2*(u*R)/\2*k*S-2*(u*R)<=S+2*R+1):
  4*sq2 (a-2*b) (u-2*k)<=v:=by
 have Y:=Ycn U (show-2<=2*R-S by omega) G V X;obtain⟨z,I⟩:∃z,z=2*R-S:=⟨_,rfl⟩;rw[<-I]at Y G;have D:0<S:=by omega
 have k1:sq2 (a* -z) (u* -z)<=((S+1)*z.natAbs)*((S+1)*z.natAbs):=by
  have a1:(z.natAbs:Int)*z.natAbs=z*z:=bv;have e3:sq2 (a* -z) (u* -z)=sq2 a u*(z*z):=by unfold sq2;grind
  have e4:((S+1)*(z.natAbs:Int))*((S+1)*z.natAbs)=(S+1)*(S+1)*(z*z):=by rw[<-a1];grind
  rw[e3,e4];exact ap (by omega) (Bj z)
 have k2:sq2 (-(2*b*S-2*(a*R))) (-(2*k*S-2*(u*R)))<=(2*(S+2*R+1))*(2*(S+2*R+1)):=by
  have O:∀e:Int,-(S+2*R+1)<=e/\e<=S+2*R+1-> -e* -e<=(S+2*R+1)*(S+2*R+1):=λe he=>by
   have:0<=(S+2*R+1-e)*(S+2*R+1+e):=al
   grind
  have a1:=O _ e1;have a2:=O _ e2;have n:=Bj (S+2*R+1);have e6:(2*(S+2*R+1))*(2*(S+2*R+1))=4*((S+2*R+1)*(S+2*R+1)):=by grind
  unfold sq2;omega
 have t:=tri (al) (by omega) k1 k2;have e7:sq2 (a* -z+ -(2*b*S-2*(a*R))) (u* -z+ -(2*k*S-2*(u*R)))=S*S*sq2 (a-2*b) (u-2*k):=by
  rw[I];unfold sq2;grind
 rw[e7]at t;have k3:2*((S+1)*(z.natAbs:Int)+2*(S+2*R+1))<=S*(2*z.natAbs+11):=by
  have e8:(S+1)*(z.natAbs:Int)=S*z.natAbs+z.natAbs:=by grind
  have e9:S*(2*(z.natAbs:Int)+11)=2*(S*z.natAbs)+11*S:=by grind
  omega
 have k0:0<=(S+1)*(z.natAbs:Int):=al;have k4:=ai (show 0<=2*((S+1)*(z.natAbs:Int)+2*(S+2*R+1)) by omega) k3;have L:2*((S+1)*(z.natAbs:Int)+2*(S+2*R+1))*(2*((S+1)*(z.natAbs:Int)+2*(S+2*R+1)))=4*(((S+1)*(z.natAbs:Int)+2*(S+2*R+1))*((S+1)*(z.natAbs:Int)+2*(S+2*R+1))):=by grind
 have M:S*(2*(z.natAbs:Int)+11)*(S*(2*(z.natAbs:Int)+11))=S*S*((2*(z.natAbs:Int)+11)*(2*(z.natAbs:Int)+11)):=by grind
 rw[L,M]at k4;have N:0<S*S:=dk D D;have k5:S*S*(4*sq2 (a-2*b) (u-2*k))<=S*S*((2*(z.natAbs:Int)+11)*(2*(z.natAbs:Int)+11)):=by
  have a0:S*S*(4*sq2 (a-2*b) (u-2*k))=4*(S*S*sq2 (a-2*b) (u-2*k)):=by grind
  omega
 have:=dq k5 N;omega
def Z9k (x y m:Spk):4*sq2 (x.u-m.u) (x.w-m.w)=sq2 (x.u-y.u) (x.w-y.w)+sq2 (x.u+y.u-2*m.u) (x.w+y.w-2*m.w)+2*dt2 (x.u-y.u) (x.w-y.w) (x.u+y.u-2*m.u) (x.w+y.w-2*m.w)/\
  4*sq2 (m.u-y.u) (m.w-y.w)=sq2 (x.u-y.u) (x.w-y.w)+sq2 (x.u+y.u-2*m.u) (x.w+y.w-2*m.w)-2*dt2 (x.u-y.u) (x.w-y.w) (x.u+y.u-2*m.u) (x.w+y.w-2*m.w):=by grind [sq2,dt2]
def Z9p (p q x y:Int):4*dt2 p q x y<=sq2 p q+4*sq2 x y/\ -(4*dt2 p q x y)<=sq2 p q+4*sq2 x y:=by
 have D:=IG (p-2*x) (q-2*y);have G:=IG (p+2*x) (q+2*y)
 grind [sq2,dt2]
def Yeq {x y:Spk} (G:Spo x) (I:Spo y) (h1:0<dt2 x.u x.w y.u y.w) (h2:0<crs x.u x.w y.u y.w*k) (h3:((x.r-y.r).natAbs:Int)<=33) (h4:32*mn x.r y.r-64<sq2 (x.u-y.u) (x.w-y.w)):
  16*sq2 (x.u-(AS x y k false).u) (x.w-(AS x y k false).w)<=9*sq2 (x.u-y.u) (x.w-y.w)/\16*sq2 ((AS x y k false).u-y.u) ((AS x y k false).w-y.w)<=9*sq2 (x.u-y.u) (x.w-y.w):=by
 have eM:BR x y k false=(x.u+y.u,x.w+y.w):=by
  unfold BR;rw[ab (by simp),ac ⟨h1,h2⟩]
 obtain⟨N,O⟩:=Q6u G.ok I.ok;have h0: ¬(x.u+y.u=0/\x.w+y.w=0):=by
  rintro⟨g1,g2⟩;have:dt2 x.u x.w y.u y.w=dt2 x.u x.w (x.u+y.u) (x.w+y.w)-sq2 x.u x.w:=by unfold dt2 sq2;grind
  rw[g1,g2]at this;have e0:dt2 x.u x.w 0 0=0:=by unfold dt2;simp
  have:=IG x.u x.w;omega
 obtain⟨-,s2⟩:=MJ G I N O h0;have hr:=NT G I h3;obtain⟨S,U,V,X⟩:=SK N O;have q1:=B3 N;have q2:=B3 O;have D:=KA h0;have hn:sq2 (x.u+y.u) (x.w+y.w)<=20000000000000000:=by unfold sq2;omega
 obtain⟨Y,a0⟩:=Kl (x.u+y.u) (x.w+y.w);have L:=hr.R5;have a3:=JS N (R:=hf x.r y.r) ⟨by omega,L.2⟩ ⟨D,hn⟩ Y ⟨U,V,X⟩;have a4:=JS O (R:=hf x.r y.r) ⟨by omega,L.2⟩ ⟨D,hn⟩ a0 ⟨U,V,X⟩;have M:AS x y k false=⟨AM (x.u+y.u) (hf x.r y.r) (sq2 (x.u+y.u) (x.w+y.w)),AM (x.w+y.w) (hf x.r y.r) (sq2 (x.u+y.u) (x.w+y.w)),hf x.r y.r,hf x.h y.h⟩:=by
  unfold AS;rw[eM];exact s2
 have hT:4*sq2 (x.u+y.u-2*(AS x y k false).u) (x.w+y.w-2*(AS x y k false).w)<=sq2 (x.u-y.u) (x.w-y.w):=by
  rw[M];simp only;have nx:=G.norm;have ny:=I.norm;have rx:=G.r;have ry:=I.r;have eS:=U8 x y;have eD:=FO x y;have hm:=Qh0 x.r y.r;have hR:2*hf x.r y.r=x.r+y.r\/2*hf x.r y.r=x.r+y.r+1:=by unfold hf;omega
  have t:=tri (p:=x.u) (q:=x.w) (x:=y.u) (y:=y.w) (a:=x.r+1) (b:=y.r+1) (by omega) (by omega) nx.2 ny.2;have a5:S<=x.r+1+(y.r+1):=FI (by omega) (by omega);have k2:(2*hf x.r y.r-3)*(2*hf x.r y.r-3)<=2*(sq2 x.u x.w+sq2 y.u y.w):=by
   have a1:(2*hf x.r y.r-3)*(2*hf x.r y.r-3)<=(x.r-1+(y.r-1))*(x.r-1+(y.r-1)):=ai;have a2:=Bj (x.r-1-(y.r-1));have e1:(x.r-1+(y.r-1))*(x.r-1+(y.r-1))=2*((x.r-1)*(x.r-1))+2*((y.r-1)*(y.r-1))-(x.r-1-(y.r-1))*(x.r-1-(y.r-1)):=by grind
   omega
  refine Zre (R:=hf x.r y.r) (by omega) ⟨U,V,X⟩ (by omega) (Yd8 (by omega) U (by omega)) (by omega) ?_ a3 a4;have e3:(2*hf x.r y.r-S-4)*(4*hf x.r y.r-(2*hf x.r y.r-S)-2)=(2*hf x.r y.r-3)*(2*hf x.r y.r-3)-(S+1)*(S+1):=by grind
  omega
 generalize AS x y k false=m at*;obtain⟨c1,c2⟩:=Z9k x y m;obtain⟨g1,g2⟩:=Z9p (x.u-y.u) (x.w-y.w) (x.u+y.u-2*m.u) (x.w+y.w-2*m.w);omega
def Dq (P:Spk->Spk->Prop):Spk->List Spk->Prop
 |_,[]=>True
 |x,y::l=>P x y/\Dq P y l
theorem Qkk {P:Spk->Spk->Prop} {m:Spk} {I:List Spk}:∀{x:Spk} {L:List Spk},Dq P x (L++[m])->Dq P m I->Dq P x (L++[m]++I)
 |_,[],D,G=>⟨D.1,G⟩
 |_,_::_,D,G=>⟨D.1,Qkk D.2 G⟩
def Xy {P Q:Spk->Spk->Prop} (h:∀a b,P a b->Q a b):∀{x:Spk} {l:List Spk},Dq P x l->Dq Q x l
 |_,[],_=>trivial
 |_,_::_,g=>⟨h _ _ g.1,Xy h g.2⟩
def Q7s {dir:Int}:∀(k:Nat) (bI:Bool) (a b:Spk),∃l,A0 dir k bI a b=l++[b]
 |0,_,_,b=>⟨[],rfl⟩
 |k+1,bI,a,b=>by
  unfold A0;split
  ·simp
  obtain⟨l,D⟩:=Q7s (dir:=dir) k false (AS a b dir bI) b
  grind
theorem Ma {P:Spk->Spk->Prop} {x m y:Spk} (D:Dq P x (A0 a i false x m)) (G:Dq P m (A0 a i false m y)):Dq P x (A0 a i false x m++A0 a i false m y):=by
 obtain⟨l,I⟩:=Q7s (dir:=a) i false x m
 grind [Qkk]
structure Leaf (dir : Int) (x y : Spk) : Prop where
 lef:Spo x
 rig:Spo y
 turn:0<crs x.u x.w y.u y.w*dir
 flat:sq2 (x.u-y.u) (x.w-y.w)<=32*mn x.r y.r-64
def Qba (a b:Int):mn a b<=mn a (hf a b)/\mn a b<=mn (hf a b) b:=by grind [hf,mn]
def Qvg {p A B M D d e:Int} (G:128<=p) (I:(p-1)*(p-1)<=A) (L:(p-1)*(p-1)<=M) (hS:2*(A+B)<=(2*(p+34))*(2*(p+34))) (N:D<A+B) (h:16*d<=9*D) (he:d=A+M-2*e):0<e:=by
 have e1:(2*(p+34))*(2*(p+34))=4*(p*p)+272*p+4624:=by grind
 have e2:(p-1)*(p-1)=p*p-2*p+1:=by grind
 have k:128*p<=p*p:=ap G;omega
theorem Mq {dir thr:Int} (hd:dir=1\/dir= -1):∀(k:Nat) {x y:Spk},Spo x->Spo y->0<crs x.u x.w y.u y.w*dir->0<dt2 x.u x.w y.u y.w->((x.r-y.r).natAbs:Int)<=33->thr<=32*mn x.r y.r-64->9^k*sq2 (x.u-y.u) (x.w-y.w)<=16^k*thr->
  Dq (Leaf dir) x (A0 dir k false x y)
 |0,x,y,G,I,N,_,_,ht,hD=>by
  unfold A0;exact⟨⟨G,I,N,by omega⟩,trivial⟩
 |k+1,x,y,G,I,N,O,L,ht,hD=>by
  unfold A0;by_cases c:EN x y dir false
  ·rw[ac c];exact⟨⟨G,I,N,c.2.2⟩,trivial⟩
  rw[ab c];have D:32*mn x.r y.r-64<sq2 (x.u-y.u) (x.w-y.w):=by
   have: ¬sq2 (x.u-y.u) (x.w-y.w)<=32*mn x.r y.r-64:=λh=>c ⟨rfl,N,h⟩;omega
  obtain⟨m1,m2,m3,m4,m5⟩:=Zc3 hd G I O N L D;obtain⟨Y,d2⟩:=Yeq G I O N L D;have M:=NT G I L;generalize AS x y dir false=m at*;obtain⟨f1,f2⟩:=ND m2 (show((x.r-y.r).natAbs:Int)<=64 by omega);have V:=Qba x.r y.r;rw[<-m2]at V;have X:sq2 (x.u-y.u) (x.w-y.w)<sq2 x.u x.w+sq2 y.u y.w:=by rw[FO];omega
  have hM:(mn x.r y.r-1)*(mn x.r y.r-1)<=sq2 m.u m.w:=by
   refine dh (ai (by have:=M.m.2;omega) ?_) m1.norm.1;have:=M.R.1;rw[m2];omega
  have hS:2*(sq2 x.u x.w+sq2 y.u y.w)<=(2*(mn x.r y.r+34))*(2*(mn x.r y.r+34)):=M.S;have g1:0<dt2 x.u x.w m.u m.w:=Qvg M.m.2 M.A.1 hM hS X Y (FO x m);have g2:0<dt2 m.u m.w y.u y.w:=Qvg (A:=sq2 y.u y.w) (B:=sq2 x.u x.w) M.m.2 M.A.2 hM (by omega) (by omega) d2 (by grind [FO]);have key:∀U,16*U<=9*sq2 (x.u-y.u) (x.w-y.w)->9^k*U<=16^k*thr:=by
   intro U h;have p1:(0:Int)<=9^k:=Int.pow_nonneg (by omega);have h2:=af h p1;have e1:(9:Int)^k*(9*sq2 (x.u-y.u) (x.w-y.w))=9^(k+1)*sq2 (x.u-y.u) (x.w-y.w):=by rw[Int.pow_succ];grind
   have e2:(16:Int)^(k+1)*thr=16*(16^k*thr):=by rw[Int.pow_succ];grind
   have e3:(9:Int)^k*(16*U)=16*(9^k*U):=by grind
   omega
  exact Ma (Mq hd k G m1 m4 g1 f1 (by omega) (key _ Y)) (Mq hd k m1 I m5 g2 f2 (by omega) (key _ d2))
def WY {p q u w R S dir:Int} (hd:dir=1\/dir= -1) (D:u.natAbs<=100000000) (G:w.natAbs<=100000000) (I:1<=R/\R<=50000000) (M: ¬(u=0/\w=0)) (hS:0<=S/\S*S<=sq2 u w/\sq2 u w<(S+1)*(S+1)):
  2*R*(crs p q u w*dir)-(p.natAbs+q.natAbs)*(S+2*R+1)<=2*S*(crs p q (AM u R (sq2 u w)) (AM w R (sq2 u w))*dir):=by
 have L:=KA M;have b1:=B3 D;have b2:=B3 G;have hn:sq2 u w<=20000000000000000:=by unfold sq2;omega
 obtain⟨N,O⟩:=Kl u w;have e1:=JS D ⟨by omega,I.2⟩ ⟨L,hn⟩ N hS;have e2:=JS G ⟨by omega,I.2⟩ ⟨L,hn⟩ O hS;generalize AM u R (sq2 u w)=a at*;generalize AM w R (sq2 u w)=b at*;generalize S+2*R+1=E at*;have m1:=XG (x:=p) (y:=(2*b*S-2*(w*R))*dir) (E:=E) (by rcases hd with rfl|rfl<;>omega);have m2:=XG (x:= -q) (y:=(2*a*S-2*(u*R))*dir) (E:=E) (by rcases hd with rfl|rfl<;>omega);have e3:((-q).natAbs:Int)=q.natAbs:=by omega
 have key:2*S*(crs p q a b*dir)=2*R*(crs p q u w*dir)+p*((2*b*S-2*(w*R))*dir)+ -q*((2*a*S-2*(u*R))*dir):=by unfold crs;grind
 grind
def Qqn {p R S n C X:Int} (D:128<=p) (L:p<=R/\R<=p+64) (hS:0<=S/\S<=2*(p+65)) (hn:0<=n/\n<=2*(p+65)) (G:(p-1)*(p-1)<=C) (M:0<X) (h:2*R*C-n*(S+2*R+1)<=2*S*X):28*p<=X:=by
 have k:n*(S+2*R+1)<=(4*p)*(7*p):=cv;have N:2*p*((p-1)*(p-1))<=2*R*C:=cv (by omega) G (Bj _);have O:2*S*X<=(8*p)*X:=ap;have e1:(8*p)*X=(2*p)*(4*X):=by grind
 have e2:2*p*((p-1)*(p-1))-(4*p)*(7*p)=(2*p)*((p-1)*(p-1)-14*p):=by grind
 have I:(2*p)*((p-1)*(p-1)-14*p)<=(2*p)*(4*X):=by omega
 have U:=dq I (by omega);have e3:(p-1)*(p-1)=p*p-2*p+1:=by grind
 have V:128*p<=p*p:=ap D;omega
theorem Za1 {p R S n C:Int} (G:128<=p) (I:p<=R/\R<=p+64) (hS:0<=S/\S<=2*(p+65)) (hn:0<=n/\n<=2*(p+65)) (D:16*p<=C):n*(S+2*R+1)<2*R*C:=by
 have k:n*(S+2*R+1)<=(4*p)*(7*p):=cv;have L:2*p*(16*p)<=2*R*C:=cv (by omega) D;have e1:2*p*(16*p)=32*(p*p):=by grind
 have e2:(4*p)*(7*p)=28*(p*p):=by grind
 have:0<p*p:=dk;omega
theorem TZ (a b c d:Int):dt2 a b c d=crs b (-a) c d*1:=by grind [dt2,crs]
def Yh {x y:Spk} (hd:k=1\/k= -1) (hx:Spo x) (hy:Spo y) (M:((x.r-y.r).natAbs:Int)<=64) (h:dt2 x.u x.w y.u y.w<=0):
  28*mn x.r y.r<=crs x.u x.w (AS x y k false).u (AS x y k false).w*k/\28*mn x.r y.r<=crs (AS x y k false).u (AS x y k false).w y.u y.w*k/\
  (16*mn x.r y.r<=crs x.u x.w y.u y.w*k->0<dt2 x.u x.w (AS x y k false).u (AS x y k false).w/\0<dt2 (AS x y k false).u (AS x y k false).w y.u y.w):=by
 obtain⟨-,-,-,N,D⟩:=Mi hd hx hy M h;have L:=NT hx hy M;have G:=OS hd;have eM:BR x y k false=(k*(y.w-x.w),k*(x.u-y.u)):=by
  unfold BR;rw[ab (by simp),ab (λg=>absurd h (Int.not_le.2 g.1)),ab (λg=>absurd h (Int.not_le.2 g))]
 have eN:sq2 (k*(y.w-x.w)) (k*(x.u-y.u))=sq2 (x.u-y.u) (x.w-y.w):=by
  have:sq2 (k*(y.w-x.w)) (k*(x.u-y.u))=k*k*sq2 (x.u-y.u) (x.w-y.w):=by unfold sq2;grind
  rw[this,G,gq]
 have eC:crs x.u x.w (k*(y.w-x.w)) (k*(x.u-y.u))*k=sq2 x.u x.w-dt2 x.u x.w y.u y.w:=by
  have:crs x.u x.w (k*(y.w-x.w)) (k*(x.u-y.u))*k=k*k*(sq2 x.u x.w-dt2 x.u x.w y.u y.w):=by unfold crs sq2 dt2;grind
  rw[this,G,gq]
 have a0:crs y.u y.w (k*(y.w-x.w)) (k*(x.u-y.u))* -k=sq2 y.u y.w-dt2 x.u x.w y.u y.w:=by
  have:crs y.u y.w (k*(y.w-x.w)) (k*(x.u-y.u))* -k=k*k*(sq2 y.u y.w-dt2 x.u x.w y.u y.w):=by unfold crs sq2 dt2;grind
  rw[this,G,gq]
 have eE:crs x.w (-x.u) (k*(y.w-x.w)) (k*(x.u-y.u))*1=crs x.u x.w y.u y.w*k:=by unfold crs;grind
 have a1:crs y.w (-y.u) (k*(y.w-x.w)) (k*(x.u-y.u))*1=crs x.u x.w y.u y.w*k:=by unfold crs;grind
 obtain⟨O,U⟩:=Qjt hx.ok hy.ok hd;have nS:=IG (x.u+y.u) (x.w+y.w);rw[U8]at nS;rw[FO]at eN;have hA:=L.A;have hp:=L.m.2;have hR:=L.R;have a4:2*(sq2 x.u x.w+sq2 y.u y.w)<=(2*(mn x.r y.r+65))*(2*(mn x.r y.r+65)):=L.S;have a2:0<=(x.u.natAbs:Int)+x.w.natAbs/\(x.u.natAbs:Int)+x.w.natAbs<=2*(mn x.r y.r+65):=L.cx;have a3:0<=(y.u.natAbs:Int)+y.w.natAbs/\(y.u.natAbs:Int)+y.w.natAbs<=2*(mn x.r y.r+65):=L.cy;have I:=L.R5;have X: ¬(k*(y.w-x.w)=0/\k*(x.u-y.u)=0):=by
  rintro⟨g1,g2⟩;rw[g1,g2]at eC;have e0:crs x.u x.w 0 0*k=0:=by unfold crs;simp
  rw[e0]at eC;have:0<(mn x.r y.r-1)*(mn x.r y.r-1):=dk;omega
 obtain⟨-,s2⟩:=MJ hx hy O U X;have Y:AS x y k false=⟨AM (k*(y.w-x.w)) (hf x.r y.r) (sq2 (k*(y.w-x.w)) (k*(x.u-y.u))),AM (k*(x.u-y.u)) (hf x.r y.r) (sq2 (k*(y.w-x.w)) (k*(x.u-y.u))),hf x.r y.r,hf x.h y.h⟩:=by
  unfold AS;rw[eM];exact s2
 clear L M G;generalize mn x.r y.r=p at*;obtain⟨S,V,r2,r3⟩:=SK O U;have hS:S<=2*(p+65):=FI (by omega) (by omega);have t1:=WY (p:=x.u) (q:=x.w) hd O U I X ⟨V,r2,r3⟩;have t2:=WY (p:=y.u) (q:=y.w) (dir:= -k) (by omega) O U I X ⟨V,r2,r3⟩;rw[eC]at t1;rw[a0]at t2;have d1:=λhX=>side (p:=x.w) (q:= -x.u) (dir:=1) (.inl rfl) O U I X ⟨V,r2,r3⟩ hX;have d2:=λhX=>side (p:=y.w) (q:= -y.u) (dir:=1) (.inl rfl) O U I X ⟨V,r2,r3⟩ hX;rw[eE]at d1;rw[a1]at d2;rw[Y]at N D⊢;simp only at N D⊢;rw[Xx (AM (k*(y.w-x.w)) (hf x.r y.r) (sq2 (k*(y.w-x.w)) (k*(x.u-y.u))))]at D⊢;have n1:((-x.u).natAbs:Int)=x.u.natAbs:=by omega
 have n2:((-y.u).natAbs:Int)=y.u.natAbs:=by omega
 rw[n1,Int.add_comm (x.w.natAbs:Int)]at d1;rw[n2,Int.add_comm (y.w.natAbs:Int)]at d2;refine⟨Qqn hp hR ⟨V,hS⟩ a2 (by omega) N t1,Qqn hp hR ⟨V,hS⟩ a3 (by omega) D t2,λhX=>⟨?_,?_⟩⟩
 ·grind [TZ,Za1]
 have e9:∀a b c d:Int,dt2 a b c d=dt2 c d a b:=λa b c d=>by grind [dt2]
 grind [TZ,Za1]
def Q5v (hd:a=1\/a= -1) (k:Nat) {x y:Spk} (I:Spo x) (L:Spo y) (M:((x.r-y.r).natAbs:Int)<=33) (Y:16*mn x.r y.r<=crs x.u x.w y.u y.w*a) (ht:u<=32*mn x.r y.r-64)
  (V:(x.r+1)*(x.r+1)<=b/\(y.r+1)*(y.r+1)<=b) (X:9^k*(2*b)<=16^k*u) (h2:9^(k+1)*(2*b)<=16^(k+1)*u):Dq (Leaf a) x (A0 a (k+1) false x y):=by
 have hr:=NT I L M;have a0:=hr.m.2;have N:0<crs x.u x.w y.u y.w*a:=by omega
 have nx:=I.norm;have ny:=L.norm;have mono:∀(j:Nat) (D:Int),D<=2*b->9^j*(2*b)<=16^j*u->9^j*D<=16^j*u:=λj D hD h=>by
  have:(9:Int)^j*D<=9^j*(2*b):=af hD (Int.pow_nonneg (by omega));omega
 by_cases a1:0<dt2 x.u x.w y.u y.w
 ·grind [Mq,FO]
 have G:((x.r-y.r).natAbs:Int)<=64:=by omega
 obtain⟨m1,m2,m3,m4,m5⟩:=Mi hd I L G (by omega);obtain⟨-,-,a3⟩:=Yh hd I L G (by omega);obtain⟨g1,g2⟩:=a3 Y;unfold A0;by_cases c:EN x y a false
 ·rw[ac c];exact⟨⟨I,L,N,c.2.2⟩,trivial⟩
 rw[ab c];generalize AS x y a false=m at*;obtain⟨f1,f2⟩:=ND m2 G;have O:=Qba x.r y.r;rw[<-m2]at O;have a2:sq2 m.u m.w<=b:=by
  have U:=(PJ x.r y.r).2;rw[<-m2]at U;have h4:=m1.norm.2;have h5:=m1.r;have:(m.r+1)*(m.r+1)<=b:=by
   unfold mx at U;split at U
   ·exact dh (ai) V.2
   exact dh (ai) V.1
  omega
 exact Ma (Mq hd k I m1 m4 g1 f1 (by omega) (mono _ _ (by grind [FO]) X)) (Mq hd k m1 L m5 g2 f2 (by omega) (mono _ _ (by grind [FO]) X))
def Zx3 (hd:a=1\/a= -1) {x y:Spk} (G:Spo x) (I:Spo y) (D:((x.r-y.r).natAbs:Int)<=64) (L:dt2 x.u x.w y.u y.w<=0) (ht:u<=32*mn x.r y.r-64)
  (N:(x.r+1)*(x.r+1)<=b/\(y.r+1)*(y.r+1)<=b) (U:9^14*(2*b)<=16^14*u) (V:9^15*(2*b)<=16^15*u):Dq (Leaf a) x (A0 a 16 false x y):=by
 have Y:=NT G I D;have a0:=Y.m.2;obtain⟨m1,m2,m3,m4,m5⟩:=Mi hd G I D L;obtain⟨a1,a2,-⟩:=Yh hd G I D L;rw[A0];by_cases c:EN x y a false
 ·rw[ac c];exact⟨⟨G,I,c.2.1,c.2.2⟩,trivial⟩
 rw[ab c];generalize AS x y a false=m at*;obtain⟨f1,f2⟩:=ND m2 D;have O:=Qba x.r y.r;rw[<-m2]at O;have a3:mn x.r m.r<=mn x.r y.r+64/\mn m.r y.r<=mn x.r y.r+64:=by
  unfold mn at*;split at* <;>split at* <;>split at* <;>omega
 have M:(m.r+1)*(m.r+1)<=b:=by
  have X:=(PJ x.r y.r).2;have h5:=m1.r;unfold mx at X;split at X
  ·exact dh (ai) N.2
  exact dh (ai) N.1
 exact Ma (Q5v hd 14 G m1 f1 (by omega) (by omega) ⟨N.1,M⟩ U V) (Q5v hd 14 m1 I f2 (by omega) (by omega) ⟨M,N.2⟩ U V)
def Zd5 (M:(2*u).natAbs<=100000000) (I:1<=R/\R<=50000000) (U:u*u<=R*R):AM (2*u) R (4*(R*R))=u:=by
 have hn:0<R*R:=dk;have N:=ai (by omega) I.2;have G:(2*u)*(2*u)<=4*(R*R):=by
  have:(2*u)*(2*u)=4*(u*u):=by grind
  omega
 obtain⟨j,e,D,L,V⟩:=RU M ⟨by omega,I.2⟩ ⟨by omega,by omega⟩ G;have O:((2*u).natAbs:Int)=2*u.natAbs:=by omega
 rw[O]at D L;have X:(j:Int)<=u.natAbs:=by
  rcases D with D|D
  ·omega
  have:(2*(j:Int)-1)*(2*R)<=2*(2*u.natAbs*R):=by
   refine FI (al (by omega) (al)) (dh (Int.le_of_eq ?_) D)
   grind
  have e3:2*(2*(u.natAbs:Int)*R)=2*(u.natAbs:Int)*(2*R):=by grind
  rw[e3]at this;have:=dw this (by omega);omega
 have Y:(u.natAbs:Int)<=j:=by
  have:2*(2*(u.natAbs:Int)*R)<=(2*(j:Int)+1)*(2*R):=by
   refine FI (al) (dh L (Int.le_of_eq ?_))
   grind
  have e3:2*(2*(u.natAbs:Int)*R)=2*(u.natAbs:Int)*(2*R):=by grind
  rw[e3]at this;have:=dw this (by omega);omega
 omega
def Zmr (D:128<=R) (hS:0<=S) (G:S*S<=2*(R*R)) (h:2*R*(R*R)-2*(R+1)*(S+2*R+1)<=2*S*a) (I:0<a):R*R<=2*a:=by
 by_cases c:R*R<=2*a
 ·exact c
 exfalso;have s2:2*S<=3*R:=by
  refine FI (by omega) ?_;have e1:2*S*(2*S)=4*(S*S):=by grind
  have e2:3*R*(3*R)=9*(R*R):=by grind
  have:=Bj R;omega
 have L:2*S*a<=S*(R*R):=by
  have:S*(2*a)<=S*(R*R):=af (by omega) hS;have e:2*S*a=S*(2*a):=by grind
  omega
 have M:S*(R*R)*2<=3*R*(R*R):=by
  have:=ap s2 (Bj R);have e:S*(R*R)*2=2*S*(R*R):=by grind
  omega
 have N:2*(2*(R+1)*(S+2*R+1))<=2*(R+1)*(7*R+2):=by
  have:2*(R+1)*(2*(S+2*R+1))<=2*(R+1)*(7*R+2):=af;have e:2*(2*(R+1)*(S+2*R+1))=2*(R+1)*(2*(S+2*R+1)):=by grind
  omega
 have e1:2*R*(R*R)*2=4*(R*R*R):=by grind
 have e2:3*R*(R*R)=3*(R*R*R):=by grind
 have e3:2*(R+1)*(7*R+2)=14*(R*R)+18*R+4:=by grind
 have O:128*(R*R)<=R*R*R:=by
  have:=ap D (Bj R);have e:R*(R*R)=R*R*R:=by grind
  omega
 have U:128*R<=R*R:=ap D;omega
def Zbp (hd:a=1\/a= -1) {x y:Spk} (I:Spo x) (X:Spo y) (G:x.r=R) (N:y.r=R) (sx:sq2 x.u x.w=R*R) (sy:sq2 y.u y.w=R*R) (a1:dt2 x.u x.w y.u y.w=0) (hX:crs x.u x.w y.u y.w*a=R*R)
  (a2:9^13*((R+1)*(R+1))<=16^13*(32*R-64)):Dq (Leaf a) x (A0 a 14 false x y):=by
 have hR:=I.r;rw[G]at hR;have O:((x.r-y.r).natAbs:Int)<=64:=by rw[G,N];omega
 have a8:mn x.r y.r=R:=by rw[G,N];unfold mn;split<;>rfl
 have U:hf x.r y.r=R:=by rw[G,N];unfold hf;omega
 have a9:128*R<=R*R:=ap hR;obtain⟨m1,m2,m3,m4,m5⟩:=Mi hd I X O (by omega);obtain⟨-,-,a3⟩:=Yh hd I X O (by omega);obtain⟨g1,g2⟩:=a3 (by omega);rw[A0];by_cases c:EN x y a false
 ·rw[ac c];exact⟨⟨I,X,c.2.1,c.2.2⟩,trivial⟩
 rw[ab c]
 have a4:=OS hd;have eM:BR x y a false=(a*(y.w-x.w),a*(x.u-y.u)):=by
  unfold BR;rw[ab (by simp),ab (λg=>by omega),ab (λg=>by omega)]
 have eN:sq2 (a*(y.w-x.w)) (a*(x.u-y.u))=2*(R*R):=by
  have:sq2 (a*(y.w-x.w)) (a*(x.u-y.u))=a*a*sq2 (x.u-y.u) (x.w-y.w):=by unfold sq2;grind
  rw[this,a4,gq,FO,sx,sy,a1];omega
 have eE:crs x.w (-x.u) (a*(y.w-x.w)) (a*(x.u-y.u))*1=R*R:=by
  rw[<-hX];unfold crs;grind
 have a5:crs y.w (-y.u) (a*(y.w-x.w)) (a*(x.u-y.u))*1=R*R:=by
  rw[<-hX];unfold crs;grind
 obtain⟨hu,hw⟩:=Qjt I.ok X.ok hd;have h0: ¬(a*(y.w-x.w)=0/\a*(x.u-y.u)=0):=by
  rintro⟨q1,Y⟩;rw[q1,Y]at eN;have:sq2 0 0=0:=rfl;omega
 obtain⟨-,s2⟩:=MJ I X hu hw h0;have L:AS x y a false=⟨AM (a*(y.w-x.w)) R (sq2 (a*(y.w-x.w)) (a*(x.u-y.u))),AM (a*(x.u-y.u)) R (sq2 (a*(y.w-x.w)) (a*(x.u-y.u))),R,hf x.h y.h⟩:=by
  unfold AS;rw[eM];rw[U]at s2;exact s2
 obtain⟨S,r1,r2,r3⟩:=SK hu hw;have a0:1<=R/\R<=50000000:=⟨by omega,by have:=I.ok.2.2.1.2;omega⟩;have cx:=WR (M:=R) (by omega) (show sq2 x.u x.w<=R*R by omega);have cy:=WR (M:=R) (by omega) (show sq2 y.u y.w<=R*R by omega);have q1:=WY (p:=x.w) (q:= -x.u) (dir:=1) (.inl rfl) hu hw a0 h0 ⟨r1,r2,r3⟩;have Y:=WY (p:=y.w) (q:= -y.u) (dir:=1) (.inl rfl) hu hw a0 h0 ⟨r1,r2,r3⟩;rw[eE,<-TZ]at q1;rw[a5,<-TZ]at Y;have a6:(AS x y a false).u=AM (a*(y.w-x.w)) R (sq2 (a*(y.w-x.w)) (a*(x.u-y.u))):=by rw[L]
 have a7:(AS x y a false).w=AM (a*(x.u-y.u)) R (sq2 (a*(y.w-x.w)) (a*(x.u-y.u))):=by rw[L]
 rw[<-a6,<-a7]at q1 Y;rw[eN]at r2;have hM:=m1.norm.2;rw[m2,U]at hM;have n1:((-x.u).natAbs:Int)=x.u.natAbs:=by omega
 have n2:((-y.u).natAbs:Int)=y.u.natAbs:=by omega
 rw[n1]at q1;rw[n2]at Y;have b1:((x.w.natAbs:Int)+x.u.natAbs)*(S+2*R+1)<=2*(R+1)*(S+2*R+1):=ap;have b2:((y.w.natAbs:Int)+y.u.natAbs)*(S+2*R+1)<=2*(R+1)*(S+2*R+1):=ap;have V:dt2 y.u y.w (AS x y a false).u (AS x y a false).w=dt2 (AS x y a false).u (AS x y a false).w y.u y.w:=by unfold dt2;grind
 rw[V]at Y;have t1:=Zmr hR r1 r2 (by omega) g1;have t2:=Zmr hR r1 r2 (by omega) g2;generalize AS x y a false=m at*;obtain⟨f1,f2⟩:=ND m2 O;have b0:m.r=R:=by rw[m2,U]
 have p9:(0:Int)<=9^13:=by decide
 have key:∀D:Int,D<=(R+1)*(R+1)->9^13*D<=16^13*(32*R-64):=λD hD=>dh (af hD p9) a2;refine Ma (Mq (thr:=32*R-64) hd 13 I m1 m4 g1 f1 (by grind) (key _ (by grind [FO]))) (Mq (thr:=32*R-64) hd 13 m1 X m5 g2 f2 (by grind) (key _ (by grind [FO])))
theorem Zqu (hd:k=1\/k= -1) {x y:Spk} (V:Spo x) (hy:Spo y) (G:x.r=R) (M:y.r=R) (I:sq2 x.u x.w=R*R) (D:y.u= -x.u/\y.w= -x.w)
  (N:9^13*((R+1)*(R+1))<=16^13*(32*R-64)):Dq (Leaf k) x (A0 k 15 false x y):=by
 have hR:=V.r;rw[G]at hR;have a1:0<R*R:=dk;have a2:dt2 x.u x.w y.u y.w= -(R*R):=by rw[D.1,D.2,<-I];unfold dt2 sq2;grind
 have a3:crs x.u x.w y.u y.w=0:=by rw[D.1,D.2];unfold crs;grind
 have X:hf x.r y.r=R:=by rw[G,M];unfold hf;omega
 rw[A0,ab (λc:EN x y k false=>by have:=c.2.1;grind)];have hb:=V.ok;have eM:BR x y k false=(2*(-(k*x.w)),2*(k*x.u)):=by
  unfold BR;rw[ab (by simp),ab (λg=>by omega),ab (λg=>by omega),D.1,D.2];congr 1<;>grind
 have Y:=OS hd;have eN:sq2 (2*(-(k*x.w))) (2*(k*x.u))=4*(R*R):=by
  have:sq2 (2*(-(k*x.w))) (2*(k*x.u))=4*(k*k*sq2 x.u x.w):=by unfold sq2;grind
  rw[this,Y,gq,I]
 have h0: ¬(2*(-(k*x.w))=0/\2*(k*x.u)=0):=by
  rintro⟨q1,q2⟩;rw[q1,q2]at eN;have:sq2 0 0=0:=rfl;omega
 have bu:(2*(-(k*x.w))).natAbs<=100000000:=by have:=hb.2.1;rcases hd with rfl|rfl<;>omega
 have bw:(2*(k*x.u)).natAbs<=100000000:=by have:=hb.1;rcases hd with rfl|rfl<;>omega
 obtain⟨s1,s2⟩:=MJ V hy bu bw h0;obtain⟨c1,c2⟩:=Kl x.u x.w;have O:1<=R/\R<=50000000:=⟨by omega,by have:=hb.2.2.1.2;omega⟩;have L:∀z:Int,(k*z)*(k*z)=z*z:=λz=>by grind
 have a0: -(k*x.w)* -(k*x.w)<=R*R:=by
  have h1:=L x.w;have e: -(k*x.w)* -(k*x.w)=(k*x.w)*(k*x.w):=by grind
  omega
 have n1:=Zd5 (u:= -(k*x.w)) (R:=R) bu O a0;have n2:=Zd5 (u:=k*x.u) (R:=R) bw O (by grind);rw[X,eN,n1,n2]at s2;have U:AS x y k false=DC x y (2*(-(k*x.w))) (2*(k*x.u)):=by unfold AS;rw[eM]
 rw[U];generalize DC x y (2*(-(k*x.w))) (2*(k*x.u))=m at*;have mu:m.u= -(k*x.w):=by rw[s2]
 have mw:m.w=k*x.u:=by rw[s2]
 have mr:m.r=R:=by rw[s2]
 have sm:sq2 m.u m.w=R*R:=by
  rw[mu,mw,<-I];unfold sq2;have a:=L x.u;have b:=L x.w;have e: -(k*x.w)* -(k*x.w)=(k*x.w)*(k*x.w):=by grind
  omega
 have sy:sq2 y.u y.w=R*R:=by rw[D.1,D.2,<-I];unfold sq2;grind
 refine Ma (Zbp hd V s1 G mr I sm ?_ ?_ N) (Zbp hd s1 hy mr M sm sy ?_ ?_ N)
 ·grind [dt2]
 ·rw[mu,mw,<-I];have:crs x.u x.w (-(k*x.w)) (k*x.u)*k=k*k*sq2 x.u x.w:=by unfold crs sq2;grind
  grind
 ·grind [dt2]
 rw[mu,mw,D.1,D.2,<-I];have:crs (-(k*x.w)) (k*x.u) (-x.u) (-x.w)*k=k*k*sq2 x.u x.w:=by unfold crs sq2;grind
 grind
def Z5u (hd:a=1\/a= -1) {x y:Spk} (L:Spo x) (U:Spo y) (M:x.r=R) (N:y.r=R) (V:sq2 x.u x.w=R*R) (X:y.u=x.u/\y.w=x.w)
  (Y:9^13*((R+1)*(R+1))<=16^13*(32*R-64)):Dq (Leaf a) x (A0 a 16 true x y):=by
 have hR:=L.r;have a0:0<R*R:=dk;rw[A0,ab (λc:EN x y a true=>by cases c.1)];have hb:=L.ok;have O:sq2 (-x.u) (-x.w)=R*R:=by rw[<-V];unfold sq2;grind
 have h0: ¬(-x.u=0/\ -x.w=0):=by
  rintro⟨G,I⟩;rw[G,I]at O;have:sq2 0 0=0:=rfl;omega
 obtain⟨s1,s2⟩:=MJ L U (by have:=hb.1;omega) (by have:=hb.2.1;omega) h0;obtain⟨G,I⟩:=Kl (-x.u) (-x.w);rw[O]at G I;have a1:hf x.r y.r=R:=by rw[M,N];unfold hf;omega
 have D:1<=R/\R<=50000000:=⟨by omega,by have:=hb.2.2.1.2;omega⟩;have n1:=XR (by have:=hb.1;omega) D G;have n2:=XR (by have:=hb.2.1;omega) D I;have eM:AS x y a true=DC x y (-x.u) (-x.w):=by
  unfold AS BR;rw[ac rfl]
 simp_all [Ma,Zqu]
def PA (a b:Spk) (dir:Int) (x y:Spk):Prop:=
 if 0<crs a.u a.w b.u b.w*dir then(0<=crs a.u a.w x.u x.w*dir/\0<=crs x.u x.w b.u b.w*dir)/\(0<=crs a.u a.w y.u y.w*dir/\0<=crs y.u y.w b.u b.w*dir)
 else(0<=crs a.u a.w x.u x.w*dir/\0<=crs a.u a.w y.u y.w*dir)\/(0<=crs x.u x.w b.u b.w*dir/\0<=crs y.u y.w b.u b.w*dir)
def Sf {Q:Spk->Prop}:∀{x:Spk} {l:List Spk},Q x->(∀q∈l,Q q)->Dq (λa b=>Q a/\Q b) x l
 |_,[],_,_=>trivial
 |_,y::_,G,D=>⟨⟨G,D y (by simp)⟩,Sf (D y (by simp)) λq I=>D q (by grind)⟩
theorem Qcz {P Q:Spk->Spk->Prop}:∀{x:Spk} {l:List Spk},Dq P x l->Dq Q x l->Dq (λa b=>P a b/\Q a b) x l
 |_,[],_,_=>trivial
 |_,_::_,h,g=>⟨⟨h.1,g.1⟩,Qcz h.2 g.2⟩
theorem Qo7 (a b:Int):crs a b a b=0:=by grind [crs]
def Yfd (hd:u=1\/u= -1) (k:Nat) {a b:Spk} (L:Spo a) (hb:Spo b) (D:((a.r-b.r).natAbs:Int)<=64) (G:dt2 a.u a.w b.u b.w<=0):Dq (PA a b u) a (A0 u (k+1) false a b):=by
 by_cases M:0<crs a.u a.w b.u b.w*u
 ·have h:=Sf (x:=a) ⟨by simp[Qo7],by omega⟩ λq I=>(LS hd (k+1) L hb M (.inr ⟨D,G⟩) q I).2;refine Xy (λx y g=> ?_) h;simp_all [PA]
 rw[A0,ab (λc:EN a b u false=>M c.2.1)];obtain⟨m1,m2,m3,m4,m5⟩:=Mi hd L hb D G;generalize AS a b u false=m at*;obtain⟨N,O⟩:=ND m2 D;have e1:=Sf (x:=a) (by simp[Qo7]) λq I=>(LS hd k L m1 m4 (.inl N) q I).2.1;have e2:=Sf (x:=m) (by omega) λq I=>(LS hd k m1 hb m5 (.inl O) q I).2.2;refine Ma (Xy (λx y g=> ?_) e1) (Xy (λx y g=> ?_) e2)
 ·simp_all [PA,ab]
 simp_all [PA,ab]
structure ArcMore (it : Itm) (R0 : Int) : Prop where
 le:R0<=48112
 shape:it.bI=false->dt2 (Av it it.fr).u (Av it it.fr).w (Av it it.to).u (Av it it.to).w=0\/(crs (Av it it.fr).u (Av it it.fr).w (Av it it.to).u (Av it it.to).w=0/\dt2 (Av it it.fr).u (Av it it.fr).w (Av it it.to).u (Av it it.to).w<0)
theorem Zzc {r s k t:Int} (I:0<r) (L:0<s) (M:0<=k/\k<=3) (N:1<=t/\t<=3):dt2 (AO r k) (AP r k) (AO s (k+t)) (AP s (k+t))=0\/(crs (AO r k) (AP r k) (AO s (k+t)) (AP s (k+t))=0/\dt2 (AO r k) (AP r k) (AO s (k+t)) (AP s (k+t))<0):=by
 have O:=dk I L;have D:k=0\/k=1\/k=2\/k=3:=by omega
 have G:t=1\/t=2\/t=3:=by omega
 rcases D with rfl|rfl|rfl|rfl<;>rcases G with rfl|rfl|rfl<;>simp[dt2,crs,AO,AP,Int.mul_neg,j9]<;>omega
theorem Yau {it:Itm} (h:ArcMade a it) (N:a<=3000) {R0 R1:Int} (he:ArcEnds it R0 R1):ArcMore it R0:=by
 obtain⟨r,k,t,g,x,O,U,V,X,Y,h6,h7,h8,h9,M,L,D,I⟩:=h.ends;have G:=h.aG;have a1:dU it it.fr=AO r k:=by unfold dU;rw[D,(CI G).1];omega
 have a2:dW it it.fr=AP r k:=by unfold dW;rw[D,(CI G).2.1];omega
 have a3:dU it it.to=AO (r+g) (k+t):=by unfold dU;rw[D,I,(CI G).1,(CI G).1];omega
 have a4:dW it it.to=AP (r+g) (k+t):=by unfold dW;rw[D,I,(CI G).2.1,(CI G).2.1];omega
 have e1:sq2 (dU it it.fr*16) (dW it it.fr*16)=(16*r)*(16*r):=by
  have:sq2 (dU it it.fr*16) (dW it it.fr*16)=256*sq2 (dU it it.fr) (dW it it.fr):=by unfold sq2;grind
  rw[this,a1,a2,SU];grind
 refine⟨?_,λhf=> ?_⟩
 ·have:(Av it it.fr).r=16*r:=by unfold Av;simp only;rw[e1,ZJ (by omega)]
  have:=he.ra.1;omega
 rw[L]at hf;show dt2 (dU it it.fr*16) (dW it it.fr*16) (dU it it.to*16) (dW it it.to*16)=0\/(crs (dU it it.fr*16) (dW it it.fr*16) (dU it it.to*16) (dW it it.to*16)=0/\dt2 (dU it it.fr*16) (dW it it.fr*16) (dU it it.to*16) (dW it it.to*16)<0);have e3:dt2 (dU it it.fr*16) (dW it it.fr*16) (dU it it.to*16) (dW it it.to*16)=256*dt2 (dU it it.fr) (dW it it.fr) (dU it it.to) (dW it it.to):=by unfold dt2;grind
 have e4:crs (dU it it.fr*16) (dW it it.fr*16) (dU it it.to*16) (dW it it.to*16)=256*crs (dU it it.fr) (dW it it.fr) (dU it it.to) (dW it it.to):=by unfold crs;grind
 grind [Zzc]
def Zuz (h:128<=a/\a<=u/\u<=a+64) (D:a<=48112):(9:Int)^14*(2*((u+1)*(u+1)))<=16^14*(32*a-64)/\(9:Int)^15*(2*((u+1)*(u+1)))<=16^15*(32*a-64)/\(9:Int)^13*((a+1)*(a+1))<=16^13*(32*a-64):=by
 have G:(u+1)*(u+1)<=(a+65)*(a+65):=ai;have e1:(a+65)*(a+65)=a*a+130*a+4225:=by grind
 have e2:(a+1)*(a+1)=a*a+2*a+1:=by grind
 have I:a*a<=48112*a:=ap D;omega
abbrev Vz (it:Itm) (x y:Spk):Prop:=Leaf it.dir x y/\(Btw (Av it it.fr) (Av it it.to) x/\Btw (Av it it.fr) (Av it it.to) y)/\(it.bI=true\/PA (Av it it.fr) (Av it it.to) it.dir x y)
def Zqj {it:Itm} (hd:it.dir=1\/it.dir= -1) (h:ArcEnds it a u) (N:ArcMore it a):Dq (Vz it) (Av it it.fr) (A0 it.dir 16 it.bI (Av it it.fr) (Av it it.to)):=by
 have hle:=h.le;have D:=h.ra;have L:=h.rb;obtain⟨O,U,V⟩:=Zuz hle N.le;have hB:=Sf (Qt1 h.a) λq X=>(Zpo hd h q (fj _ X)).1;by_cases hf:it.bI=true
 ·have g:=h.bI hf;have Y:Dq (Leaf it.dir) (Av it it.fr) (A0 it.dir 16 it.bI (Av it it.fr) (Av it it.to)):=by
   rw[hf];exact Z5u hd h.a h.b D.1 (by omega) D.2 ⟨g.1,g.2.1⟩ V
  simp_all [Qcz]
 have M:it.bI=false:=by simpa using hf
 have G:=h.part M;have I:(((Av it it.fr).r-(Av it it.to).r).natAbs:Int)<=64:=by rw[D.1,L.1];omega
 have a0:(a+1)*(a+1)<=(u+1)*(u+1):=ai;have Y:=Zx3 hd h.a h.b I G (by grind [mn]) ⟨by grind,by grind⟩ O U;have hS:=Yfd hd 15 h.a h.b I G;simp_all [Qcz]
end Go.Bm
