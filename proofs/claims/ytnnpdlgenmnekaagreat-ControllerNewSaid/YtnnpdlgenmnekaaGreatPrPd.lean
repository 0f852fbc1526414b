/- laid together -/
import Derived.Test.YtnnpdlgenmnekaaGreatPrTf
import Derived.Test.YtnnpdlgenmnekaaGreatMx2
import Derived.Test.YtnnpdlgenmnekaaGreatPrV
import Derived.Lib.ItoaNum
set_option linter.unusedVariables false
set_option linter.unusedSimpArgs false
set_option maxRecDepth 100000
open Go.IntKind (wrap)
variable {i A j X R J:Nat} {a b:Go.Bm.Pt} {p:Go.Bm.Pth} {M Z Y W V T S Q:Go.Bm.Fn} {k u v r d:Int} {l o:Go.Bm.Rw} {K:Go.Bm.Kf} {N:Go.Bm.Lp} {t:Go.Bm.Trk} {L:List Go.Bm.Itm} {D z:Go.Bm.Itm}
namespace Go.Bm
open Classical
def GJ (D:Int) (l:List Int):Prop:=(∀v∈l,-4096<=v/\v<=4096)/\∀i,i+1<l.length-> -D<=4*(l.getD (i+1) 0-l.getD i 0)/\4*(l.getD (i+1) 0-l.getD i 0)<=D
structure AxOK (a : Axs) : Prop where
 step:4<=a.step/\a.step<=64
 bB:0<=a.bB/\a.bB<=6
 aV: -200<=a.aV/\a.aV<=200
 aO:a.aW≠[]->4<=a.aO/\a.aO<=123
 aW:GJ a.aO a.aW
 count:a.aW.length<=4
 lim:1<=a.aS/\a.aS<=1000/\2<=a.bD/\a.bD<=1000/\4<=a.bE/\a.bE<=1000/\a.low= -16777216/\a.aY=16777216
theorem PU {l m:List Int} (h:i<l.length):(l++m).getD i 0=l.getD i 0:=by simp[fa,iy h]
theorem Zco (l m:List Int) (v:Int):(l++v::m).getD l.length 0=v:=by simp[fa]
theorem Zk5 {E v w:Int} {l:List Int} (h:GJ E (l++[v])) (G: -4096<=w/\w<=4096) (I: -E<=4*(w-v)/\4*(w-v)<=E):GJ E (l++[v]++[w]):=by
 refine⟨?_,?_⟩
 ·intro x D;rcases co.1 D with D|D
  ·exact h.1 x D
  ·rw[gp]at D;subst D;exact G
 ·intro i J;simp only[am,bf,bm]at J;by_cases c:i+1<(l++[v]).length
  ·have:=h.2 i c;have c':i<(l++[v]).length:=by omega
   rw[PU c,PU c'];exact this
  ·simp only[am,bf,bm]at c;have e:i=l.length:=by omega
   subst e;have g1:(l++[v]++[w]).getD (l.length+1) 0=w:=by
    simp
   have g2:(l++[v]++[w]).getD l.length 0=v:=by
    rw[f6];exact Zco l ([]++[w]) v
   rw[g1,g2];exact I
theorem Zml {l:List Int} (h:GJ k (l++[v])):GJ k l:=by
 refine⟨λx D=>h.1 x (by simp[D]),λi E=> ?_⟩;have:=h.2 i (by simp;omega);rw[PU E,PU (by omega)]at this;exact this
theorem Zem (E: -4096<=v/\v<=4096):GJ k ([]++[v]):=⟨λx D=>by simp at D;subst D;exact E,λi G=>by simp at G⟩
theorem Zpo (h:0<=v/\v<6):∃x,Ah (nth .dead (nth [] [[I 8],[I 4],[I 5],[I 16],[I 23],[I 64]] v.toNat) 0)=x/\4<=x/\x<=64:=by
 have D:v=0\/v=1\/v=2\/v=3\/v=4\/v=5:=by omega
 rcases D with rfl|rfl|rfl|rfl|rfl|rfl<;>exact⟨_,rfl,by decide⟩
theorem Qgt (h:0<=v/\v<5):∃x y z,Ah (nth .dead (nth [] [[I 40],[I 1],[I 3],[I 9],[I 1000]] v.toNat) 0)=x/\Ah (nth .dead (nth [] [[I 20],[I 2],[I 3],[I 5],[I 1000]] v.toNat) 0)=y/\Ah (nth .dead (nth [] [[I 30],[I 4],[I 5],[I 8],[I 1000]] v.toNat) 0)=z/\1<=x/\x<=1000/\2<=y/\y<=1000/\4<=z/\z<=1000:=by
 have D:v=0\/v=1\/v=2\/v=3\/v=4:=by omega
 rcases D with rfl|rfl|rfl|rfl|rfl<;>exact⟨_,_,_,rfl,rfl,rfl,by decide⟩
theorem Zij (h:0<=v/\v<4):∃x,Ah (nth .dead (nth [] [[I 0],[I 1],[I 3],[I 6]] v.toNat) 0)=x/\0<=x/\x<=6:=by
 have D:v=0\/v=1\/v=2\/v=3:=by omega
 rcases D with rfl|rfl|rfl|rfl<;>exact⟨_,rfl,by decide⟩
abbrev axS (l:Rw) (D:List Int) (n v:Int) (j:Nat) (a:Axs) (k:Nat):List AC:=
 [.vC Aa [], .vC Aa (D.map AB),I n,I v,I j,I 0,I 0,I 0,I 0,I 0,I 0,I 0,I 0,I 0,I a.step,I a.aS,I a.bD,I a.bE,I a.low,I a.aY,I a.bB,I a.aV,I a.aO, .vC Aa l,I k]
theorem Q20 {MN:Fn} {l:Rw} (L:GZ l MN) {a:Axs} (G:4<=a.aO/\a.aO<=123):∀(r j:Nat) (D:List Int) (v:Int) (k:Nat),j+r<=4->D.length=j->GJ a.aO (D++[v])->
  ∃(E:List Int) (k':Nat),An (PH MN) (axS l D (j+r:Nat) v j a k)=some (1,[.vC Aa [], .vC Aa (E.map AB),I 0,I 0,I 0,I 0,I 0,I 0,I 0,I 0,I 0,I a.step,I a.aS,I a.bD,I a.bE,I a.low,I a.aY,I a.bB,I a.aV,I a.aO, .vC Aa l,I k'])/\E.length=j+r/\GJ a.aO E
 |0,j,D,v,k,_,M,h=>by
  refine⟨D,k,AG (o:=(1,_)) ?_ (by simp),by omega,Zml h⟩;rw[Qx9,AM (by omega)]
 |r+1,j,D,v,k,hj,M,h=>by
  have hv:=h.1 v (by simp);have S:O (a.aO.tdiv 4)=a.aO/4:=by rw[dh (by omega),Ae]
  have T:O (O (2*(a.aO/4))+1)=2*(a.aO/4)+1:=by rw[Ae (x:=2*(a.aO/4)),Ae]
  obtain⟨w,N,U,w0,w1,-⟩:=L k (n:=2*(a.aO/4)+1) (by omega);have V:O (O (v+w)-a.aO/4)=v+w-a.aO/4:=by rw[Ae (x:=v+w),Ae]
  have hle:(D.map AB++[[I v]]).length*8<=140737488355328:=by rw[am,af];simp only[bf,bm];omega
  have J:PH MN (axS l D (j+(r+1):Nat) v j a k)=some (0,axS l (D++[v]) (j+1+r:Nat) (min (max (v+w-a.aO/4) (-4096)) 4096) (j+1) a N):=by
   rw[Qx9];simp only[go_sem,aa hle,S,T,U,V,Iw,G6];rw[aa,Ae (x:=(j:Int)+1),show j+(r+1)=j+1+r by omega];simp only[axS,bh,ba,cm,AB,f7,gr]
  rw[AR J];obtain⟨X,k',Y,h2,h3⟩:=Q20 L G r (j+1) (D++[v]) (min (max (v+w-a.aO/4) (-4096)) 4096) N (by omega) (by simp[M]) (Zk5 h (by omega) (by omega));exact⟨X,k',Y,by omega,h3⟩
theorem Zai (E:GZ l M)
  (hL:∀{a:Axs} {n:Nat} {v:Int} {k:Nat},(4<=a.aO/\a.aO<=123)->n<=4->GJ a.aO ([]++[v])->∃(D:List Int) (k':Nat),N (axS l [] n v 0 a k)=some (1,[.vC Aa [], .vC Aa (D.map AB),I 0,I 0,I 0,I 0,I 0,I 0,I 0,I 0,I 0,I a.step,I a.aS,I a.bD,I a.bE,I a.low,I a.aY,I a.bB,I a.aV,I a.aO, .vC Aa l,I k'])/\D.length=n/\GJ a.aO D) (k:Nat):
  ∃(a:Axs) (k':Nat),SG M N [.vC Aa l,I k]=some (CH a++[.vC Aa l,I k'])/\AxOK a:=by
 obtain⟨v1,k1,h1,a1,b1,-⟩:=E k (n:=6) (by omega);obtain⟨v2,k2,h2,a2,b2,-⟩:=E k1 (n:=4) (by omega);obtain⟨v3,k3,h3,a3,b3,-⟩:=E k2 (n:=5) (by omega);obtain⟨v4,k4,h4,a4,b4,-⟩:=E k3 (n:=5) (by omega);obtain⟨v5,k5,h5,a5,b5,-⟩:=E k4 (n:=5) (by omega);obtain⟨G,Y,h6,a6,b6,-⟩:=E k5 (n:=5) (by omega);obtain⟨V,k7,h7,a7,b7,-⟩:=E Y (n:=400) (by omega);obtain⟨X,k8,h8,a8,b8,-⟩:=E k7 (n:=120) (by omega);obtain⟨v9,k9,h9,a9,b9,-⟩:=E k8 (n:=9) (by omega);obtain⟨J,e1,s1⟩:=Zpo ⟨a1,b1⟩;obtain⟨L,e2,s2⟩:=Zij ⟨a2,b2⟩;have i1:(0:Int)<=v1/\v1<(([[I 8],[I 4],[I 5],[I 16],[I 23],[I 64]]:Rw).length:Int):=⟨a1,by simp;omega⟩;have i2:(0:Int)<=v2/\v2<(([[I 0],[I 1],[I 3],[I 6]]:Rw).length:Int):=⟨a2,by simp;omega⟩;have i3:(0:Int)<=v3/\v3<(([[I 40],[I 1],[I 3],[I 9],[I 1000]]:Rw).length:Int):=⟨a3,by simp;omega⟩;have i4:(0:Int)<=v4/\v4<(([[I 20],[I 2],[I 3],[I 5],[I 1000]]:Rw).length:Int):=⟨a4,by simp;omega⟩;have i5:(0:Int)<=v5/\v5<(([[I 30],[I 4],[I 5],[I 8],[I 1000]]:Rw).length:Int):=⟨a5,by simp;omega⟩;obtain⟨O,_,_,a0,-,-,s3,t3,-⟩:=Qgt ⟨a3,b3⟩;obtain⟨_,S,_,-,b0,-,-,-,s4,t4,-⟩:=Qgt ⟨a4,b4⟩;obtain⟨_,_,T,-,-,c0,-,-,-,-,s5,t5⟩:=Qgt ⟨a5,b5⟩;have main : ∀ R, R = (if G = 0 then some [I J, I O, I S, I T, I (-16777216), I 16777216, I L, I 0, I 0, .vC Aa [], .vC Aa l, I Y] else
   (N (axS l [] G.toNat (v9-4) 0 ⟨J,O,S,T,-16777216,16777216,L,V-200,4+X,[]⟩ k9)).bind λo=>if o.1=1 then some [I (Ah (nth .dead o.2 11)),I (Ah (nth .dead o.2 12)),I (Ah (nth .dead o.2 13)),I (Ah (nth .dead o.2 14)),I (Ah (nth .dead o.2 15)),I (Ah (nth .dead o.2 16)),I (Ah (nth .dead o.2 17)),I (Ah (nth .dead o.2 18)),I (Ah (nth .dead o.2 19)), .vC Aa (Bb (nth .dead o.2 1)), .vC Aa (Bb (nth .dead o.2 20)),I (Ah (nth .dead o.2 21))]else none)->
   ∃(a:Axs) (k':Nat),R=some (CH a++[.vC Aa l,I k'])/\AxOK a:=by
  intro R U;by_cases c:G=0
  ·rw[aa c]at U;refine⟨⟨J,O,S,T,-16777216,16777216,L,0,0,[]⟩,Y,U,?_⟩;exact⟨s1,s2,by simp,λh=>absurd rfl h,⟨by simp,by simp⟩,by simp,⟨s3,t3,s4,t4,s5,t5,rfl,rfl⟩⟩
  ·rw[ab c]at U;obtain⟨c1,k',g1,g2,g3⟩:=hL (a:=⟨J,O,S,T,-16777216,16777216,L,V-200,4+X,[]⟩) (n:=G.toNat) (v:=v9-4) (k:=k9) (by simp only;omega) (by omega) (Zem (by omega));rw[g1]at U;refine⟨⟨J,O,S,T,-16777216,16777216,L,V-200,4+X,c1⟩,k',?_,?_⟩
   ·rw[U];simp only[go_sem];try rfl
   ·exact⟨s1,s2,by simp only;omega,λ_=>by simp only;omega,g3,by simp only;omega,⟨s3,t3,s4,t4,s5,t5,rfl,rfl⟩⟩
 refine main _ ?_;rw[Q58];simp only[go_sem,h1,h2,h3,h4,h5,h6,aa i1,aa i2,aa i3,aa i4,aa i5,e1,e2,a0,b0,c0];by_cases c:G=0
 ·rw[aa c,aa c]
 ·rw[ab c,ab c];simp only[h7,h8,h9,go_sem,Ae (x:=v9-4),Ae (x:=V-200),Ae (x:=4+X)];have e:((G.toNat:Nat):Int)=G:=by omega
  simp only[axS,e,cm];rfl
theorem Qj8 (D:Src l) (k:Nat):∃(a:Axs) (k':Nat),KB [.vC Aa l,I k]=some (CH a++[.vC Aa l,I k'])/\AxOK a:=by
 refine Zai (N:=Qis) (Hr D) (fun{a n v k} J O L=> ?_) k;obtain⟨p,k',E,G,M⟩:=Q20 (MN:=Cc) (Hr D) J n 0 [] v k (by omega) rfl L;rw[dl]at E G;exact⟨p,k',E,G,M⟩
structure Ax3M (x : Ax3) : Prop where
 a:AxOK x.a
 b:AxOK x.b
 c:AxOK x.c
theorem Ax3M.ok {x:Ax3} (h:Ax3M x):Ax3OK x:=⟨by have:=h.a.bB;omega,by have:=h.b.bB;omega,by have:=h.c.bB;omega⟩
theorem Zl7 (E:Src l):∃x:Ax3,LJ [.vC Aa l]=some (AU x)/\Ax3M x:=by
 obtain⟨a,G,M,g1⟩:=Qj8 E 0;obtain⟨b,N,J,g2⟩:=Qj8 E G;obtain⟨c,T,L,O⟩:=Qj8 E N;refine⟨⟨a,b,c⟩,?_,g1,g2,O⟩;have hf:=Qv l;unfold LJ;generalize KB=S at*;generalize Dj=U at*;rw[Zuk];have D:S [.vC Aa l,I 0]=some (CH a++[.vC Aa l,I G]):=M;simp only[CH,aq,ay]at D J L;simp only[go_sem,hf,D,J,L]
theorem Q1e {p:Pth} {x:Ax3} {D E mv f:Int} {d:Pt} (L:mv=1\/mv= -1) (G:GoodPath p) (I:Ax3OK x):∀(k j:Nat),j+k=p.aF.length->∀w,w=BG p x mv D E (⟨[],0,f,d⟩,d) j->
  An (RL EX LU) (Nw p x D E mv w.1 w.2 j)=some (1,E3 x mv (BG p x mv D E (⟨[],0,f,d⟩,d) p.aF.length).1 (BG p x mv D E (⟨[],0,f,d⟩,d) p.aF.length).2)
 |0,j,T,w,J=>by
  have M:j=p.aF.length:=by omega
  refine AG (o:=(1,_)) ?_ (by simp);rw[Qza,AM (by omega),J,M]
 |k+1,j,T,w,J=>by
  have S:=G.count;have hb:=P8 (mv:=mv) (lo:=D) (hi:=E) (f:=f) (d:=d) I G.ok j (by omega);rw[<-J]at hb;have O:=Zl5 (MV:=EX) (N:=LU) (lo:=D) (hi:=E) (now:=w.2) (j:=j) L G I hb (by omega) (by omega) (by omega) (fun{a b s aR} U=>Ziq L I hb (by omega) (by omega) (k:=268435456) (by omega) U);rw[AR O];exact Q1e L G I k (j+1) (by omega) _ (by rw[BG,<-J])
theorem Q4a {MV:Fn} {N4 N10:Lp} {x:Ax3} {D E mv f:Int}
  (J:N4 (OK p x D E mv ⟨[],0,f,a⟩ a 0 [] 0)=some (1,[.vC Aa (EF p.aF p.aF.length), .vC Ao [],I D,I E,I mv,I p.aQ.x,I p.aQ.y,I p.aQ.z, .vC Af (p.aF.map Ax), .vC Av (p.aD.map A1),I a.x,I a.y,I a.z,I mv,I x.a.step,I x.a.aS,I x.a.bD,I x.a.bE,I x.a.low,I x.a.aY,I x.a.bB,I x.a.aV,I x.a.aO, .vC Aa (x.a.aW.map AB),I x.b.step,I x.b.aS,I x.b.bD,I x.b.bE,I x.b.low,I x.b.aY,I x.b.bB,I x.b.aV,I x.b.aO, .vC Aa (x.b.aW.map AB),I x.c.step,I x.c.aS,I x.c.bD,I x.c.bE,I x.c.low,I x.c.aY,I x.c.bB,I x.c.aV,I x.c.aO, .vC Aa (x.c.aW.map AB),I 0,I f,I a.x,I a.y,I a.z]))
  (G:N10 (Nw p x D E mv ⟨[],0,f,a⟩ a 0)=some (1,E3 x mv (BG p x mv D E (⟨[],0,f,a⟩,a) p.aF.length).1 (BG p x mv D E (⟨[],0,f,a⟩,a) p.aF.length).2)):
  YO MV N4 N10 [.vC Ao [],I p.aQ.x,I p.aQ.y,I p.aQ.z, .vC Af (p.aF.map Ax), .vC Av (p.aD.map A1),I D,I E,I mv,I a.x,I a.y,I a.z,I mv,I x.a.step,I x.a.aS,I x.a.bD,I x.a.bE,I x.a.low,I x.a.aY,I x.a.bB,I x.a.aV,I x.a.aO, .vC Aa (x.a.aW.map AB),I x.b.step,I x.b.aS,I x.b.bD,I x.b.bE,I x.b.low,I x.b.aY,I x.b.bB,I x.b.aV,I x.b.aO, .vC Aa (x.b.aW.map AB),I x.c.step,I x.c.aS,I x.c.bD,I x.c.bE,I x.c.low,I x.c.aY,I x.c.bB,I x.c.aV,I x.c.aO, .vC Aa (x.c.aW.map AB),I 0,I f,I a.x,I a.y,I a.z]=some (E3 x mv (BG p x mv D E (⟨[],0,f,a⟩,a) p.aF.length).1 (BG p x mv D E (⟨[],0,f,a⟩,a) p.aF.length).2):=by
 rw[Ze0];simp only[OK,cm,gr]at J;simp only[Nw,E3,cm,gr]at G;simp only[go_sem,af,J,G]
theorem Q46 {x:Ax3} {D E mv f:Int} (J:mv=1\/mv= -1) (G:GoodPath p) (L:Ax3OK x):
  NJ [.vC Ao [],I p.aQ.x,I p.aQ.y,I p.aQ.z, .vC Af (p.aF.map Ax), .vC Av (p.aD.map A1),I D,I E,I mv,I a.x,I a.y,I a.z,I mv,I x.a.step,I x.a.aS,I x.a.bD,I x.a.bE,I x.a.low,I x.a.aY,I x.a.bB,I x.a.aV,I x.a.aO, .vC Aa (x.a.aW.map AB),I x.b.step,I x.b.aS,I x.b.bD,I x.b.bE,I x.b.low,I x.b.aY,I x.b.bB,I x.b.aV,I x.b.aO, .vC Aa (x.b.aW.map AB),I x.c.step,I x.c.aS,I x.c.bD,I x.c.bE,I x.c.low,I x.c.aY,I x.c.bB,I x.c.aV,I x.c.aO, .vC Aa (x.c.aW.map AB),I 0,I f,I a.x,I a.y,I a.z]=some (E3 x mv (BG p x mv D E (⟨[],0,f,a⟩,a) p.aF.length).1 (BG p x mv D E (⟨[],0,f,a⟩,a) p.aF.length).2):=by
 refine Q4a (MV:=EX) (N4:=LU) (N10:=Qar) ?_ (Q1e J G L p.aF.length 0 (by omega) _ rfl);have h:=Qvc (M:=EX) (x:=x) (lo:=D) (hi:=E) (mv:=mv) (t:=⟨[],0,f,a⟩) (now:=a) G.ok p.aF.length 0 (by omega);rw[Y4]at h;exact h
theorem Zt6 {x:Ax3} (D:V (AA p)=some [I (AO p.aF)]) (G:∀n h:Int,W [I n,I h]=some [I (CZ n h)])
  (E:∀{lo hi mv f:Int},(mv=1\/mv= -1)->M [.vC Ao [],I p.aQ.x,I p.aQ.y,I p.aQ.z, .vC Af (p.aF.map Ax), .vC Av (p.aD.map A1),I lo,I hi,I mv,I a.x,I a.y,I a.z,I mv,I x.a.step,I x.a.aS,I x.a.bD,I x.a.bE,I x.a.low,I x.a.aY,I x.a.bB,I x.a.aV,I x.a.aO, .vC Aa (x.a.aW.map AB),I x.b.step,I x.b.aS,I x.b.bD,I x.b.bE,I x.b.low,I x.b.aY,I x.b.bB,I x.b.aV,I x.b.aO, .vC Aa (x.b.aW.map AB),I x.c.step,I x.c.aS,I x.c.bD,I x.c.bE,I x.c.low,I x.c.aY,I x.c.bB,I x.c.aV,I x.c.aO, .vC Aa (x.c.aW.map AB),I 0,I f,I a.x,I a.y,I a.z]=some (E3 x mv (BG p x mv lo hi (⟨[],0,f,a⟩,a) p.aF.length).1 (BG p x mv lo hi (⟨[],0,f,a⟩,a) p.aF.length).2)):
  Qa5 M Z Y W V (AA p++AU x++[I a.x,I a.y,I a.z,I k,I u])=some (AS (FX p x a k u)):=by
 have he:=Q7d M Z Y W V p.aQ.x p.aQ.y p.aQ.z (p.aF.map Ax) (p.aD.map A1) x.a.step x.a.aS x.a.bD x.a.bE x.a.low x.a.aY x.a.bB x.a.aV x.a.aO (x.a.aW.map AB) x.b.step x.b.aS x.b.bD x.b.bE x.b.low x.b.aY x.b.bB x.b.aV x.b.aO (x.b.aW.map AB) x.c.step x.c.aS x.c.bD x.c.bE x.c.low x.c.aY x.c.bB x.c.aV x.c.aO (x.c.aW.map AB) a.x a.y a.z k u;refine dg he ?_;unfold FX;simp only[AA]at D;simp only[D,G,go_sem,Iw,G6];generalize CZ k (AO p.aF)=f at*;generalize CZ u (AO p.aF)=t at*;by_cases c:t<f
 ·have h:=E (lo:=min f t) (hi:=max f t) (mv:= -1) (f:=f) (.inr rfl);simp only[E3]at h;simp only[h,go_sem,c,dc]
 ·have h:=E (lo:=min f t) (hi:=max f t) (mv:=1) (f:=f) (.inl rfl);simp only[E3]at h;simp only[h,go_sem,c,ez]
theorem Zpv {x:Ax3} {d:Pt} {from_ to:Int} (D:GoodPath p) (E:Ax3OK x):Px (AA p++AU x++[I d.x,I d.y,I d.z,I from_,I to])=some (AS (FX p x d from_ to)):=
 Zt6 (Qyu D.ok) (λ_ _=>Q3u) λG=>Q46 G D E
theorem Q1v {t:Trk} (G:t.aE.length<=10000000):∀(k j:Nat),j+k=t.aE.length->
  An Rk (I t.aE.length::I j::(AS t++AS t))=some (2,[])
 |0,j,J=>by
  refine AG (o:=(2,_)) ?_ (by simp);have he:=Qpz t.aE.length j (t.aE.map Bh) t.length t.aQ t.aT.x t.aT.y t.aT.z (t.aE.map Bh) t.length t.aQ t.aT.x t.aT.y t.aT.z;refine dg he ?_;rw[AM (by omega)]
 |k+1,j,J=>by
  have D:Rk (I t.aE.length::I j::(AS t++AS t))=some (0,I t.aE.length::I (j+1:Nat)::(AS t++AS t)):=by
   have he:=Qpz t.aE.length j (t.aE.map Bh) t.length t.aQ t.aT.x t.aT.y t.aT.z (t.aE.map Bh) t.length t.aQ t.aT.x t.aT.y t.aT.z;refine dg he ?_;have E:(0:Int)<=(j:Int)/\(j:Int)<(t.aE.length:Int):=by omega
   simp only[go_sem,af,ag,aa E,Ae (x:=(j:Int)+1)];rw[aa];simp
  rw[AR D];exact Q1v G k (j+1) (by omega)
theorem Zix (D:t.aE.length<=10000000):Mi (AS t++AS t)=some [B true]:=by
 have h:=Q1v D t.aE.length 0 (by omega);have h':P4 (I t.aE.length::I 0::(AS t++AS t))=some (2,[]):=h;unfold Mi;generalize P4=N at*;have he:=Ziu N (t.aE.map Bh) t.length t.aQ t.aT.x t.aT.y t.aT.z (t.aE.map Bh) t.length t.aQ t.aT.x t.aT.y t.aT.z;refine dg he ?_;simp only[AS,aq,ay]at h';simp only[go_sem,af,h'];simp
theorem Zvn {x:Ax3} (d:Pt) (a b:Int) (D:GoodPath p) (E:Ax3OK x):(FX p x d a b).aE.length<=10000000/\0<=(FX p x d a b).length/\(FX p x d a b).length<=900000000000000:=by
 have G:=D.count;have h:=P8 (mv:=if CZ a (AO p.aF)>CZ b (AO p.aF)then-1 else 1) (lo:=min (CZ a (AO p.aF)) (CZ b (AO p.aF))) (hi:=max (CZ a (AO p.aF)) (CZ b (AO p.aF))) (f:=CZ a (AO p.aF)) (d:=d) E D.ok p.aF.length (cq _);obtain⟨I,J,-⟩:=h;unfold FX;simp only;refine⟨by omega,by omega,by omega⟩
def Cd (a:Axs) (i:Nat):Int:=a.aW.getD i 0
def okB (p:Int):Prop:= -1000000000<=p/\p<=1000000000
structure TH (t : Trk) : Prop where
 q:TQ t
 at0:t.aE≠[]->(pcA t.aE 0).at_=0
 at1:∀i,i+1<t.aE.length->(pcA t.aE (i+1)).at_=eI t.aE i
end Go.Bm
namespace Go.Bm
structure Fix (p : Pth) (x : Ax3) (t : Trk) : Prop where
 p:GoodPath p
 x:Ax3M x
 t:TH t
theorem Zq8 (G:j<i*4294967296+A) (I:X<4294967296) (D:j=R*i+J) (h:4294967296<=R\/J*4294967296+X<R*A):(j*4294967296+X)/(i*4294967296+A)<R:=by
 have E:0<i*4294967296+A:=by omega
 rw[ed E];rcases h with h|h
 ·have L:4294967296*(i*4294967296+A)<=R*(i*4294967296+A):=be _ h;omega
 ·have e:R*(i*4294967296+A)=R*i*4294967296+R*A:=by rw[gw,dq]
  rw[e];clear e;generalize R*i=p at*;generalize R*A=t at*;subst D;rw[cy p J 4294967296,de];exact Nat.add_lt_add_left h _
theorem Qrl {a b v u q r:Nat} (E:v<a*4294967296+b) (G:v=q*a+r) (h:q*b<=r*4294967296+u):q<=(v*4294967296+u)/(a*4294967296+b):=by
 have D:0<a*4294967296+b:=by omega
 rw[Nat.le_div_iff_mul_le D];have e:q*(a*4294967296+b)=q*a*4294967296+q*b:=by rw[gw,dq]
 rw[e];generalize q*a=p at*;generalize q*b=t at*;omega
theorem Qum (D:j<i*4294967296+A) (E:X<4294967296):(j*4294967296+X)/(i*4294967296+A)<4294967296:=by
 rw[ed (by omega)];omega
theorem Qkr {q b:Nat} (D:q<4294967296) (hb:b<4294967296):q*b<=18446744065119617025:=by
 have:=cx (show q<=4294967295 by omega) (show b<=4294967295 by omega);omega
theorem Sx {α:Type} {F G:Nat->Nat->Option α} {a b v u Q:Nat} (D:(v*4294967296+u)/(a*4294967296+b)=Q) (hb:b<4294967296) (T:2147483648<=a) (I:a<4294967296) (E:v<a*4294967296+b) (M:u<4294967296) {X:α}
  (N:∀q r:Nat,q<=4294967297->r<4294967296->F q r=if 4294967296<=q\/r*4294967296+u<q*b then(if 4294967296<=r+a then G (q-1) 0 else F (q-1) (r+a))else G q 0)
  (J:G Q 0=some X):∀(k q r:Nat),q<=Q+k->Q<=q->v=q*a+r->r<4294967296->q<=4294967297->F q r=some X
 |k,q,r,hk,h1,O,U,V=>by
  rw[N q r V U];by_cases c:4294967296<=q\/r*4294967296+u<q*b
  ·rw[aa c];have Y:=Zq8 E M O c;rw[D]at Y;have e:v=(q-1)*a+(r+a):=by
    have:(q-1)*a+a=q*a:=by rw[<-fu];congr 1;omega
    omega
   by_cases S:4294967296<=r+a
   ·rw[aa S];have h6:(q-1)*b<=(r+a)*4294967296+u:=by
     have:=cx (show q-1<=4294967296 by omega) (show b<=4294967296 by omega);omega
    have L:=Qrl E e h6;rw[D]at L;rw[show q-1=Q by omega];exact J
   ·rw[ab S]
    match k with
    |0=>omega
    |k+1=>exact Sx D hb T I E M N J k (q-1) (r+a) (by omega) (by omega) e (by omega) (by omega)
  ·rw[ab c];have L:=Qrl (u:=u) E O (by omega);rw[D]at L;rw[show q=Q by omega];exact J
theorem Qw2 (hb:A<4294967296) (E:2147483648<=i) (G:j<i*4294967296+A) (I:X<4294967296):(j*4294967296+X)/(i*4294967296+A)<=j/i/\j/i<=4294967297/\j=j/i*i+j%i/\j%i<i:=by
 have e:j=j/i*i+j%i:=by have:=em j i;rw[cg]at this;omega
 have D:j%i<i:=fv _ (by omega);refine⟨?_,?_,e,D⟩
 ·rw[<-Nat.lt_succ_iff,ed (by omega)];have e2:(j/i).succ*(i*4294967296+A)=(j/i*i+i)*4294967296+(j/i).succ*A:=by rw[gw,<-dq,fu]
  rw[e2];omega
 ·rw[<-Nat.lt_succ_iff,ed (by omega)];omega
theorem wr {x:Nat} (h:x<=18446744073709551615):wrap .u64 (x:Int)=x:=BO (by omega)
theorem Zli {y s v0:Int} (hb:A<4294967296) (O:2147483648<=i) (I:i<4294967296) (S:j<i*4294967296+A) (T:X<4294967296):
  An (JN M) [U y,U s,U i,U A,U j,U X,U v0,U ((j/i:Nat):Int),U ((j%i:Nat):Int)]=some (1,[U y,U s,U i,U A,U j,U X,U v0,U (((j*4294967296+X)/(i*4294967296+A):Nat):Int)]):=by
 obtain⟨V,Y,f3,f4⟩:=Qw2 hb O S T;refine Sx (F:=λq r=>An (JN M) [U y,U s,U i,U A,U j,U X,U v0,U q,U r]) (G:=λq _=>some (1,[U y,U s,U i,U A,U j,U X,U v0,U q])) rfl hb O I S T ?_ rfl (j/i) _ _ (Nat.le_add_left _ _) V f3 (by omega) Y;intro q r hq hr;have w1:wrap .u64 ((r:Int)+(i:Int))=((r+i:Nat):Int):=by rw[<-f7,wr (by omega)]
 have w3:wrap .u64 (wrap .u64 (4294967296*(r:Int))+(X:Int))=((r*4294967296+X:Nat):Int):=by rw[show(4294967296:Int)*r=((r*4294967296:Nat):Int) by omega,wr (by omega),<-f7,wr (by omega)]
 have w4:4294967296<=q->wrap .u64 ((q:Int)-1)=((q-1:Nat):Int):=λh=>by rw[show(q:Int)-1=((q-1:Nat):Int) by omega,wr (by omega)]
 have D:=Zdg (Dl:=M) y s i A j X v0 q r;rw[w1,w3]at D;by_cases J:4294967296<=q
 ·rw[B6 (show(q:Int)>=4294967296 by omega),w4 J]at D;show _=if _ then _ else _;rw[aa (.inl J)];by_cases E:4294967296<=r+i
  ·rw[B6 (show((r+i:Nat):Int)>=4294967296 by omega)]at D;rw[aa E];exact AG D (by simp)
  ·rw[AM (show¬((r+i:Nat):Int)>=4294967296 by omega)]at D;rw[ab E];exact AR D
 ·have L:=Qkr (q:=q) (b:=A) (by omega) hb;rw[AM (show¬(q:Int)>=4294967296 by omega),<-bz,wr (bn L (by decide))]at D;show _=if _ then _ else _;by_cases N:r*4294967296+X<q*A
  ·rw[B6 (show((q*A:Nat):Int)>((r*4294967296+X:Nat):Int) by omega)]at D;rw[aa (.inr N)];have a0:0<q:=by
    rcases dn q with h|h
    ·rw[h]at N;omega
    ·exact h
   rw[show(q:Int)-1=((q-1:Nat):Int) by omega,wr (by omega)]at D;by_cases E:4294967296<=r+i
   ·rw[B6 (show((r+i:Nat):Int)>=4294967296 by omega)]at D;rw[aa E];exact AG D (by simp)
   ·rw[AM (show¬((r+i:Nat):Int)>=4294967296 by omega)]at D;rw[ab E];exact AR D
  ·rw[AM (show¬((q*A:Nat):Int)>((r*4294967296+X:Nat):Int) by omega)]at D;rw[ab (λh=>h.elim J N)];exact AG D (by simp)
theorem Zjs {y s q1 w:Int} (hb:A<4294967296) (S:2147483648<=i) (I:i<4294967296) (T:j<i*4294967296+A) (V:X<4294967296):
  An (Nu M N) [U y,U s,U i,U A,U X,U q1,U ((j%i:Nat):Int),U w,U ((j/i:Nat):Int)]=some (1,[U y,U s,U X,U q1,U w,U (((j*4294967296+X)/(i*4294967296+A):Nat):Int)]):=by
 obtain⟨Y,f2,f3,f4⟩:=Qw2 hb S T V;refine Sx (F:=λq r=>An (Nu M N) [U y,U s,U i,U A,U X,U q1,U r,U w,U q]) (G:=λq _=>some (1,[U y,U s,U X,U q1,U w,U q])) rfl hb S I T V ?_ rfl (j/i) _ _ (Nat.le_add_left _ _) Y f3 (by omega) f2;intro q r hq hr;have w1:wrap .u64 ((r:Int)+(i:Int))=((r+i:Nat):Int):=by rw[<-f7,wr (by omega)]
 have w3:wrap .u64 (wrap .u64 (4294967296*(r:Int))+(X:Int))=((r*4294967296+X:Nat):Int):=by rw[show(4294967296:Int)*r=((r*4294967296:Nat):Int) by omega,wr (by omega),<-f7,wr (by omega)]
 have w4:4294967296<=q->wrap .u64 ((q:Int)-1)=((q-1:Nat):Int):=λh=>by rw[show(q:Int)-1=((q-1:Nat):Int) by omega,wr (by omega)]
 have D:=Zb4 (Dl:=M) (N17:=N) y s i A X q1 r w q;rw[w1,w3]at D;by_cases J:4294967296<=q
 ·rw[B6 (show(q:Int)>=4294967296 by omega),w4 J]at D;show _=if _ then _ else _;rw[aa (.inl J)];by_cases E:4294967296<=r+i
  ·rw[B6 (show((r+i:Nat):Int)>=4294967296 by omega)]at D;rw[aa E];exact AG D (by simp)
  ·rw[AM (show¬((r+i:Nat):Int)>=4294967296 by omega)]at D;rw[ab E];exact AR D
 ·have L:=Qkr (q:=q) (b:=A) (by omega) hb;rw[AM (show¬(q:Int)>=4294967296 by omega),<-bz,wr (bn L (by decide))]at D;show _=if _ then _ else _;by_cases O:r*4294967296+X<q*A
  ·rw[B6 (show((q*A:Nat):Int)>((r*4294967296+X:Nat):Int) by omega)]at D;rw[aa (.inr O)];have a0:0<q:=by
    rcases dn q with h|h
    ·rw[h]at O;omega
    ·exact h
   rw[show(q:Int)-1=((q-1:Nat):Int) by omega,wr (by omega)]at D;by_cases E:4294967296<=r+i
   ·rw[B6 (show((r+i:Nat):Int)>=4294967296 by omega)]at D;rw[aa E];exact AG D (by simp)
   ·rw[AM (show¬((r+i:Nat):Int)>=4294967296 by omega)]at D;rw[ab E];exact AR D
  ·rw[AM (show¬((q*A:Nat):Int)>((r*4294967296+X:Nat):Int) by omega)]at D;rw[ab (λh=>h.elim J O)];exact AG D (by simp)
theorem Qux {s:Nat} (D:s<=63):(2:Int)^min (Int.toNat (s:Int)) IntKind.u64.bits=((2^s:Nat):Int):=by
 have e:min (Int.toNat (s:Int)) IntKind.u64.bits=s:=by
  show min (Int.toNat (s:Int)) 64=s;omega
 rw[e];simp
theorem Zp0 {s:Nat} (D:s<=63):(2:Int)^min (Int.toNat ((64-s:Nat):Int)) IntKind.u64.bits=((2^(64-s):Nat):Int):=by
 have e:min (Int.toNat ((64-s:Nat):Int)) IntKind.u64.bits=64-s:=by
  show min (Int.toNat ((64-s:Nat):Int)) 64=64-s;omega
 rw[e];simp
theorem Qxe (x y:Nat):((x:Int)).fdiv (y:Int)=((x/y:Nat):Int):=by
 rw[dp _ (by omega)];rfl
theorem V5 (x y:Nat):((x:Int)).tdiv (y:Int)=((x/y:Nat):Int):=by
 rw[dh (by omega)];rfl
theorem orP {A B s:Nat} (D:B<2^s) (h:A*2^s+B<w64):wrap .u64 (((BitVec.ofInt IntKind.u64.bits ((A*2^s:Nat):Int)|||BitVec.ofInt IntKind.u64.bits (B:Int)).toNat:Nat):Int)=((A*2^s+B:Nat):Int):=by
 rw[A_]at h;have e:(BitVec.ofInt IntKind.u64.bits ((A*2^s:Nat):Int)|||BitVec.ofInt IntKind.u64.bits (B:Int)).toNat=A*2^s+B:=by
  rw[BitVec.toNat_or];have e1:∀v:Nat,v<18446744073709551616->(BitVec.ofInt IntKind.u64.bits (v:Int)).toNat=v:=by
   intro v E;simp only[IntKind.bits,fw];omega
  have:=(ig D A).symm;rw[cg]at this;generalize A*2^s=X at*;rw[e1 _ (by omega),e1 _ (by omega)];exact this
 rw[e,wr (by omega)]
theorem Qtx {v u D y:Nat} (G:y<w64) (I:D=(v*4294967296+u)/y) (E:0<y):wrap .u64 (wrap .u64 (wrap .u64 ((v:Int)*4294967296)+(u:Int))-wrap .u64 ((D:Int)*(y:Int)))=(((v*4294967296+u)%y:Nat):Int):=by
 have J:=em (v*4294967296+u) y;have L:=fv (v*4294967296+u) E;rw[<-I,cg]at J;rw[A_]at G;rw[Jq,Jq,Jq,Jq,<-bz];generalize D*y=p at*;generalize(v*4294967296+u)%y=r at*;omega
theorem Qyk (D:0<A) (E:i<w64):wrap .u64 ((i:Int)-wrap .u64 (wrap .u64 ((i/A:Nat):Int)*(A:Int)))=((i%A:Nat):Int):=by
 have G:=em i A;have I:=fv i D;have J:=f0 i A;rw[A_]at E;rw[wr (x:=i/A) (by omega),<-bz];rw[cg]at G;generalize i/A*A=p at*;generalize i%A=r at*;rw[wr (x:=p) (by omega),show(i:Int)-(p:Int)=(r:Int) by omega,wr (by omega)]
theorem Zsg {v u1 u0 Y:Nat} (D:0<Y):(v*w64+(u1*4294967296+u0))/Y=(v*4294967296+u1)/Y*4294967296+((v*4294967296+u1)%Y*4294967296+u0)/Y/\
  (v*w64+(u1*4294967296+u0))%Y=((v*4294967296+u1)%Y*4294967296+u0)%Y:=by
 have e:v*w64+(u1*4294967296+u0)=((v*4294967296+u1)%Y*4294967296+u0)+(v*4294967296+u1)/Y*4294967296*Y:=by
  have h:=em (v*4294967296+u1) Y;rw[cg]at h;rw[A_];generalize(v*4294967296+u1)%Y=r at*;have e2:(v*4294967296+u1)/Y*4294967296*Y=(v*4294967296+u1)/Y*Y*4294967296:=by rw[dq,cg 4294967296,<-dq]
  rw[e2];generalize(v*4294967296+u1)/Y*Y=p at*;omega
 rw[e,Nat.add_mul_div_right _ _ D,Nat.add_mul_mod_self_right];exact⟨iu _ _,rfl⟩
theorem Zh4 {E D y s:Nat} (h0:0<E) (h1:E<y) (a8:y<w64) (a4:D<w64) (hs:s<=63) (h2:9223372036854775808<=y*2^s) (G:y*2^s<w64) (hM:M [U y]=some [I s]):
  YN M (An (JN M)) (An (Nu M (An (JN M)))) [U E,U D,U y]=some [U (((E*w64+D)/y:Nat):Int),U (((E*w64+D)%y:Nat):Int)]:=by
 have hP:0<2^s:=dw _;have a0:2^s*2^(64-s)=w64:=by rw[A_,<-Nat.pow_add,show s+(64-s)=64 by omega]
 have hT:0<2^(64-s):=dw _;have es:wrap .u64 (s:Int)=s:=wr (by omega);have et:wrap .u64 (64-(s:Int))=((64-s:Nat):Int):=by rw[show(64:Int)-s=((64-s:Nat):Int) by omega,wr (by omega)]
 have hB:D/2^(64-s)<2^s:=by rw[ed hT,a0];exact a4
 have hv:E*2^s+D/2^(64-s)<y*2^s:=by
  have:E*2^s+2^s<=y*2^s:=by rw[<-fu];exact be _ h1
  omega
 have hN:(E*w64+D)*2^s=(E*2^s+D/2^(64-s))*w64+D*2^s%w64:=by
  have e1:D*2^s/w64=D/2^(64-s):=by
   rw[<-a0,cg D,Nat.mul_div_mul_left _ _ hP]
  have e2:=em (D*2^s) w64;rw[e1]at e2;rw[cy,cy,de,cg (D/2^(64-s)),e2];congr 1;rw[dq,cg w64,dq]
 have hU:D*2^s%w64<w64:=fv _ Pk;have ey:wrap .u64 ((y:Int)*((2^s:Nat):Int))=((y*2^s:Nat):Int):=by rw[<-bz,wr (Nat.le_of_lt_succ (by rw[A_]at G;exact G))]
 have eh:wrap .u64 ((E:Int)*((2^s:Nat):Int))=((E*2^s:Nat):Int):=by
  rw[<-bz,wr (Nat.le_of_lt_succ (by have:=dy h1 hP;rw[A_]at G;exact Nat.lt_trans this G))]
 have el:wrap .u64 ((D:Int)*((2^s:Nat):Int))=((D*2^s%w64:Nat):Int):=by
  rw[<-bz,Jq,A_];rfl
 have eo:=orP (A:=E) (B:=D/2^(64-s)) (s:=s) hB (by omega);have hq:(E*w64+D)/y=(E*w64+D)*2^s/(y*2^s):=(Nat.mul_div_mul_right _ _ hP).symm;have hr:(E*w64+D)%y=(E*w64+D)*2^s%(y*2^s)/2^s:=by rw[Nat.mul_mod_mul_right,Nat.mul_div_cancel _ hP]
 rw[hq,hr,hN];rw[Qr0];simp only[hM,ak,E0,IT,IF,L3,NB,Rf,ZF,YK,ER,gA,jA,wA,bA,es,et,Qux hs,Zp0 hs,ey,eh,el,Qxe,eo];rw[Es (by simp;omega),AM (show¬(y:Int)<=E by omega),Es (by simp;omega),AM (show¬(s:Int)<0 by omega),AM (show¬(s:Int)<0 by omega),AM (show¬((64-s:Nat):Int)<0 by omega),AM (show¬(s:Int)<0 by omega)];rw[JA,Lw _ G,JA,Lw _ hU];have S:y*2^s=y*2^s/4294967296*4294967296+y*2^s%4294967296:=by omega
 have hW:D*2^s%w64=D*2^s%w64/4294967296*4294967296+D*2^s%w64%4294967296:=by omega
 have hb:y*2^s%4294967296<4294967296:=fv _ (by omega);have a1:D*2^s%w64%4294967296<4294967296:=fv _ (by omega);have a2:D*2^s%w64/4294967296<4294967296:=by rw[A_]at hU⊢;omega
 have ha:2147483648<=y*2^s/4294967296:=by omega
 have a3:y*2^s/4294967296<4294967296:=by rw[A_]at G;omega
 clear hN hq hr eh el eo ey hB;generalize E*2^s+D/2^(64-s)=v at*;generalize D*2^s%w64=w at*;generalize y*2^s=Y at*;generalize w/4294967296=u1 at*;generalize w%4294967296=u0 at*;generalize Y/4294967296=a at*;generalize Y%4294967296=b at*;subst hW;rw[AM (show¬(a:Int)=0 by omega),V5,Qyk (by omega) (Nat.lt_trans hv G),wr (x:=v/a) (by have:=f0 v a;rw[A_]at G;omega)];have hl:=Zli (M:=M) (y:=(Y:Int)) (s:=s) (v0:=u0) hb ha a3 (by rw[<-S];exact hv) a2;rw[hl];rw[<-S];have J:0<Y:=by omega
 have T:=Qtx (v:=v) (u:=u1) (y:=Y) G rfl J;have a5:(v*4294967296+u1)/Y<4294967296:=by rw[S];exact Qum (by rw[<-S];exact hv) a2
 have L:=fv (v*4294967296+u1) J;obtain⟨k1,k2⟩:=Zsg (v:=v) (u1:=u1) (u0:=u0) J;rw[k1,k2];clear hl k1 k2;obtain⟨V,g1⟩:∃V,(v*4294967296+u1)/Y=V:=⟨_,rfl⟩;obtain⟨O,g2⟩:∃O,(v*4294967296+u1)%Y=O:=⟨_,rfl⟩;rw[g1]at T a5⊢;rw[g2]at T L⊢;simp only[ak,E0,IT,IF,L3,NB,Rf,ZF,YK,ER,T];rw[show Nat.beq 1 1=true from rfl,ai,AM (show¬(a:Int)=0 by omega),V5,Qyk (by omega) (Nat.lt_trans L G),wr (x:=O/a) (by have:=f0 O a;rw[A_]at G;omega)];have a6:=Zjs (M:=M) (N:=An (JN M)) (y:=(Y:Int)) (s:=s) (q1:=V) (w:=O) hb ha a3 (by rw[<-S];exact L) a1;rw[a6];rw[<-S];have X:=Qtx (v:=O) (u:=u0) (y:=Y) G rfl J;have a7:(O*4294967296+u0)/Y<4294967296:=by rw[S];exact Qum (by rw[<-S];exact L) a1
 obtain⟨q0,g3⟩:∃q0,(O*4294967296+u0)/Y=q0:=⟨_,rfl⟩;obtain⟨r0,g4⟩:∃r0,(O*4294967296+u0)%Y=r0:=⟨_,rfl⟩;rw[g3]at X a7⊢;rw[g4]at X⊢;simp only[ak,E0,IT,IF,L3,NB,Rf,ER,X];rw[show Nat.beq 1 1=true from rfl,ai,AM (show¬(s:Int)<0 by omega),Qux hs,Qxe];have w1:wrap .u64 (wrap .u64 ((V:Int)*4294967296)+(q0:Int))=((V*4294967296+q0:Nat):Int):=by
  rw[show(V:Int)*4294967296=((V*4294967296:Nat):Int) by omega,wr (by omega),<-f7,wr (by omega)]
 rw[w1]
theorem Zhi (N:0<i) (h:i<w64):∃s:Nat,Ge [U i]=some [I s]/\s<=63/\9223372036854775808<=i*2^s/\i*2^s<w64:=by
 have E:=A_;obtain⟨b1,b2,b3⟩:=Lib.bitLenAux_bounds 64 i (by rw[<-show w64=2^64 by rw[E]];exact h) (by omega);have J:Lib.bitLen i=Lib.bitLenAux 64 i:=rfl;generalize hb:Lib.bitLenAux 64 i=L at*;have G:L<=64:=by
  by_cases c:L<=64
  ·exact c
  ·have:=Nat.pow_le_pow_right (show 0<2 by omega) (show 64<=L-1 by omega);rw[show(2:Nat)^64=18446744073709551616 from rfl]at this;omega
 refine⟨64-L,?_,by omega,?_,?_⟩
 ·unfold Ge;have D:ET=18446744073709551616:=rfl;have M:inU (i:Int)=true:=by
   simp only[inU,D,al,bp];omega
  simp only[E0,ER,gA,jA,wA,bA,M,ai,ag,J];rw[show(64:Int)-(L:Int)=((64-L:Nat):Int) by omega]
 ·have e:2^(L-1)*2^(64-L)=9223372036854775808:=by rw[<-Nat.pow_add,show L-1+(64-L)=63 by omega]
  rw[<-e];exact be _ b2
 ·have e:2^L*2^(64-L)=w64:=by rw[<-Nat.pow_add,show L+(64-L)=64 by omega,E]
  rw[<-e];exact dy b3 (dw _)
theorem Zs4 (E:i<j) (G:j<w64) (D:A<w64):FG [U i,U A,U j]=some [U (((i*w64+A)/j:Nat):Int),U (((i*w64+A)%j:Nat):Int)]:=by
 rcases dn i with h|h
 ·subst h;rw[gc,dl];exact Qzp D E
 ·obtain⟨s,e,e1,e2,e3⟩:=Zhi (show 0<j by omega) G;exact Zh4 h E G D e1 e2 e3 e
structure Plan3 (a b c : Int) : Prop where
 a:1<=a/\a<=65536
 b:2<=b/\b<=65536
 c:1<=c/\c<=16777216
theorem CX (a:AC) (l:List AC):nth .dead (a::l) 0=a:=rfl
theorem JG (a:AC) (l:List AC) (n:Nat):nth .dead (a::l) (n+1)=nth .dead l n:=rfl
theorem Kh (n:Int):Ah (.int .i64 n)=n:=rfl
def Dz (k b:Int):Int:=if b<=0 then 0 else(b-1)/k*b-k*((b-1)/k*((b-1)/k+1)/2)
def G9 (j k v a:Int):Prop:= -j<=a/\a<=j/\Dz k (-a)<=v/\v<=16777216-Dz k a/\(v=0->a<=k)
instance (j k v a:Int):Decidable (G9 j k v a):=by unfold G9;infer_instance
theorem JP {k b:Int} (h:b<=0):Dz k b=0:=by simp[Dz,h]
theorem Qkp {k b:Int} (h:b<=k):Dz k b=0:=by
 unfold Dz;split
 ·rfl
 ·rw[Int.ediv_eq_zero_of_lt (by omega) (by omega)];simp
theorem Q9g (m:Int):m*(m+1)/2=(m-1)*m/2+m:=by
 have:m*(m+1)=(m-1)*m+m*2:=by
  rw[Int.sub_mul,Int.mul_add,Int.mul_one,gf];omega
 rw[this,Int.add_mul_ediv_right _ _ (by omega)]
theorem Vl {k b:Int} (D:0<k) (h:k<b):Dz k b=(b-k)+Dz k (b-k):=by
 have e1:(b-1)/k=(b-k-1)/k+1:=by
  have:b-1=(b-k-1)+k*1:=by omega
  rw[this,Int.add_mul_ediv_left _ _ (by omega)]
 unfold Dz;rw[ab,ab,e1];generalize(b-k-1)/k=m;rw[Q9g (m+1)];have e2:m+1-1=m:=by omega
 rw[e2,Int.mul_add k,il m 1 b,Int.mul_sub m b k,Int.mul_add k m 1,iv k m];omega
theorem Qle {k:Int} (D:0<k):∀(n:Nat) (b:Int),b<=n->0<=Dz k b
 |0,b,h=>by rw[JP (by omega)];omega
 |n+1,b,h=>by
  by_cases hb:b<=k
  ·rw[Qkp hb];omega
  ·rw[Vl D (by omega)];have:=Qle D n (b-k) (by omega);omega
theorem K5 {k b:Int} (D:0<k):0<=Dz k b:=Qle D b.toNat b (by omega)
def bs (k v:Int):Nat->Int->Int->Int
 |0,low,_=>low
 |n+1,low,aY=>if low<aY then
   if Dz k (aY-(aY-low)/2)<=v-(aY-(aY-low)/2)then bs k v n (aY-(aY-low)/2) aY else bs k v n low (aY-(aY-low)/2-1)
  else low
def Bn (j k v a:Int):Int:= -(bs k v 20 (-a-k) (min (k-a) j))
theorem Qga (k v:Int):∀(n:Nat) (low aY:Int),low<=aY->aY-low<2^n->Dz k low<=v-low->
  Dz k (bs k v n low aY)<=v-bs k v n low aY/\low<=bs k v n low aY/\bs k v n low aY<=aY/\(bs k v n low aY=aY\/v-(bs k v n low aY+1)<Dz k (bs k v n low aY+1))
 |0,low,aY,G,J,E=>by
  simp only[bs];have:aY-low<1:=by simpa using J
  exact⟨E,by omega,G, .inl (by omega)⟩
 |n+1,low,aY,G,J,E=>by
  have L:(2:Int)^(n+1)=2*2^n:=by rw[Int.pow_succ];omega
  unfold bs;by_cases D:low<aY
  ·rw[aa D];by_cases I:Dz k (aY-(aY-low)/2)<=v-(aY-(aY-low)/2)
   ·rw[aa I];obtain⟨a,b,c,d⟩:=Qga k v n (aY-(aY-low)/2) aY (by omega) (by omega) I;exact⟨a,by omega,c,d⟩
   ·rw[ab I];obtain⟨a,b,c,d⟩:=Qga k v n low (aY-(aY-low)/2-1) (by omega) (by omega) E;refine⟨a,b,by omega, .inr ?_⟩;rcases d with d|d
    ·have e:bs k v n low (aY-(aY-low)/2-1)+1=aY-(aY-low)/2:=by omega
     rw[e];omega
    ·exact d
  ·rw[ab D];exact⟨E,by omega,G, .inl (by omega)⟩
theorem Qqx (L:Plan3 u k r) (M:G9 u k v d) {B:Int} (N:B=bs k v 20 (-d-k) (min (k-d) u)):
  Dz k B<=v-B/\ -d-k<=B/\B<=k-d/\B<=u/\(B=min (k-d) u\/v-(B+1)<Dz k (B+1))/\0<=v:=by
 obtain⟨⟨U,V⟩,⟨X,Y⟩,p5,p6⟩:=L;obtain⟨h1,h2,O,h4,h5⟩:=M;have E:0<k:=by omega
 have l0:=K5 (b:= -d) E;have D:Dz k (-d-k)<=v-(-d-k):=by
  by_cases S:k< -d
  ·rw[Vl E S]at O;omega
  ·rw[JP (by omega)];omega
 obtain⟨G,I,T,J⟩:=Qga k v 20 (-d-k) (min (k-d) u) (by omega) (by simp;omega) D;rw[<-N]at G I T J;exact⟨G,I,by omega,by omega,J,by omega⟩
theorem closed (J:Plan3 u k r) (L:G9 u k v d):
  G9 u k (v+Bn u k v d) (Bn u k v d)/\Bn u k v d-d<=k/\d-Bn u k v d<=k/\(0<d\/(v=0/\Bn u k v d=0)\/Bn u k v d<0):=by
 obtain⟨B,M⟩:∃B,B=bs k v 20 (-d-k) (min (k-d) u):=⟨_,rfl⟩;have hb:Bn u k v d= -B:=by unfold Bn;rw[M]
 obtain⟨Y,q2,q3,q4,D,q6⟩:=Qqx J L M;rw[hb];obtain⟨⟨p1,p2⟩,⟨p3,p4⟩,p5,p6⟩:=J;obtain⟨h1,h2,h3,h4,h5⟩:=L;have I:0<k:=by omega
 have top:B+1<=0->B=min (k-d) u:=by
  intro h;rcases D with D|D
  ·exact D
  ·rw[JP h]at D;omega
 have S: -d<=B\/0<=B:=by
  by_cases E:B+1<=0
  ·have:=top E;omega
  ·right;omega
 have G:d<=0->0<=B:=λN=>by
  by_cases E:B+1<=0
  ·have:=top E;omega
  ·omega
 have la:=K5 (b:=d) I;have T: -u<=B:=by
  by_cases E:B+1<=0
  ·have:=top E;omega
  ·omega
 have e1: -(-B)=B:=by omega
 refine⟨⟨by omega,by omega,by rw[e1];omega,?_,?_⟩,by omega,by omega,?_⟩
 ·by_cases E:0<=B
  ·rw[JP (b:= -B) (by omega)];omega
  ·have ht:=top (by omega);have U:B=k-d:=by omega
   have e2: -B=d-k:=by omega
   have hs:=Vl (k:=k) (b:=d) I (by omega);rw[e2];omega
 ·intro O;omega
 ·by_cases N:0<d
  ·exact .inl N
  ·right;have V:=G (by omega);by_cases O:v=0
   ·left;have:=K5 (b:=B) I;exact⟨O,by omega⟩
   ·right;by_cases X:B=0
    ·rcases D with D|D
     ·omega
     ·rw[X,Qkp (k:=k) (b:=0+1) (by omega)]at D;omega
    ·omega
def Dd (j k:Int):Nat->Int->Int->List Int×Bool
 |0,v,_=>([],decide (v<=0))
 |n+1,v,a=>if v<=0 then([],true)else((v+Bn j k v a)::(Dd j k n (v+Bn j k v a) (Bn j k v a)).1,(Dd j k n (v+Bn j k v a) (Bn j k v a)).2)
theorem Q07 (j k:Int):∀(n:Nat) (v a:Int),(Dd j k n v a).2=true->Dd j k (n+1) v a=Dd j k n v a
 |0,v,a,h=>by
  have h:v<=0:=of_decide_eq_true h;unfold Dd;rw[aa h];show([],true)=([],decide (v<=0));rw[ah h]
 |n+1,v,a,h=>by
  unfold Dd at h⊢;by_cases c:v<=0
  ·rw[aa c,aa c]
  ·rw[ab c]at h;rw[ab c,ab c,Q07 j k n _ _ h]
theorem OV (D:Plan3 u k r) (E:G9 u k v d): -65536<=d/\d<=65536/\0<=v/\v<=16777216:=by
 obtain⟨G,I,J,L,-⟩:=E;have M:=D.a;have N:=D.b
 have O:=K5 (k:=k) (b:=d) (by omega);have S:=K5 (k:=k) (b:= -d) (by omega);omega
end Go.Bm
noncomputable section
namespace Go.Bm
def DH (a k v x:Int):List Int×Bool:=if G9 a k v x/\(Dd a k 4096 v x).2=true then((Dd a k 4096 v x).1,true)else([],false)
theorem IZ {a k v x:Int}:(DH a k v x).2=true↔G9 a k v x/\(Dd a k 4096 v x).2=true:=by
 unfold DH;by_cases h:G9 a k v x/\(Dd a k 4096 v x).2=true
 ·rw[aa h];exact⟨λ_=>h,λ_=>rfl⟩
 ·rw[ab h];exact⟨λq=>(by cases q),λq=>absurd q h⟩
theorem Zhf {a k c v x:Int} (D:Plan3 a k c) (h:(DH a k v x).2=true):(DH a k (v+Bn a k v x) (Bn a k v x)).2=true/\
  (DH a k v x).1=if v<=0 then []else(v+Bn a k v x)::(DH a k (v+Bn a k v x) (Bn a k v x)).1:=by
 obtain⟨E,G⟩:=IZ.1 h;have M:=closed D E;have T:=OV D M.1;by_cases I:v<=0
 ·have N:v=0:=by have:=OV D E;omega
  have hb:Bn a k v x=0:=by
   obtain⟨B,O⟩:∃B,B=bs k v 20 (-x-k) (min (k-x) a):=⟨_,rfl⟩;obtain⟨U,V,X,Y,J,q6⟩:=Qqx D E O;have:=K5 (k:=k) (b:=B) (by have:=D.b;omega);have hx:=E.2.2.2.2 N;have ha:=D.a;have e:Bn a k v x= -B:=by unfold Bn;rw[O]
   rw[e];rcases J with J|J
   ·omega
   ·by_cases L:B+1<=0
    ·rw[JP L]at J;omega
    ·omega
  have e0:Dd a k 4096 0 0=([],true):=by unfold Dd;rw[aa]
  refine⟨?_,?_⟩
  ·rw[hb,N];refine IZ.2 ⟨?_,by rw[show(0:Int)+0=0 from rfl,e0]⟩;have:=M.1;rw[hb,N]at this;exact this
  ·rw[aa I];unfold DH;rw[aa ⟨E,G⟩];unfold Dd;rw[aa I]
 ·have e:Dd a k 4096 v x=((v+Bn a k v x)::(Dd a k 4095 (v+Bn a k v x) (Bn a k v x)).1,(Dd a k 4095 (v+Bn a k v x) (Bn a k v x)).2):=by
   show(if v<=0 then _ else _)=_;rw[ab I]
  rw[e]at G;have S:=Q07 a k 4095 _ _ G;have L:(DH a k (v+Bn a k v x) (Bn a k v x)).2=true:=IZ.2 ⟨M.1,by rw[S];exact G⟩;refine⟨L,?_⟩;rw[ab I];have e2:(DH a k v x).1=(Dd a k 4096 v x).1:=by unfold DH;rw[aa (IZ.1 h)]
  have e3:(DH a k (v+Bn a k v x) (Bn a k v x)).1=(Dd a k 4096 (v+Bn a k v x) (Bn a k v x)).1:=by unfold DH;rw[aa (IZ.1 L)]
  rw[e2,e3,S,e]
structure KOK (K : Kf) : Prop where
 f:Fix K.p K.x K.t
 plan:Plan3 K.pa K.pb K.pc
 aF:∀g∈K.p.aF,0<=g.aU/\g.aU<K.aA.length/\i64 g.aX
 aD:∀m∈K.p.aD,0<=m.aU/\m.aU<K.aA.length/\i64 m.at_
 count:K.p.aD.length<=1000000
 aS:∀it∈K.aA,it.aP=8->i64 it.aS
 len:i64 K.len
 set:i64 K.set
abbrev IX (c:Cv):Int:=O (c.m0.tdiv 256)
def Mo (K:Kf) (c:Cv):Prop:=(DH K.pa K.pb c.m1 c.m2).2=true
theorem Mo.ready {c:Cv} (h:Mo K c):G9 K.pa K.pb c.m1 c.m2:=(IZ.1 h).1
theorem Q9j {c:Cv} (D:Plan3 K.pa K.pb K.pc) (G:Mo K c) {v:Int} (E:v=O (c.m1+Bn K.pa K.pb c.m1 c.m2)):v=c.m1+Bn K.pa K.pb c.m1 c.m2/\O (v-c.m1)=Bn K.pa K.pb c.m1 c.m2/\(DH K.pa K.pb v (O (v-c.m1))).2=true:=by
 have I:=OV D G.ready;have J:=OV D (closed D G.ready).1;rw[Ae]at E;have e:O (v-c.m1)=Bn K.pa K.pb c.m1 c.m2:=by rw[E,Ae];omega
 refine⟨E,e,?_⟩;rw[e,E];exact(Zhf D G).1
theorem Q7f (h:KOK K) {c:Cv} (E:Mo K c) {v:Int} (G:(DH K.pa K.pb v (O (v-c.m1))).2=true\/∃r:Int,v=O (c.m1+r)/\r=Bn K.pa K.pb c.m1 c.m2):(DH K.pa K.pb v (O (v-c.m1))).2=true:=by
 rcases G with D|⟨r,D,I⟩
 ·exact D
 ·subst I;exact(Q9j h.plan E D).2.2
theorem Zr9 {a k c:Int} (D:Plan3 a k c):(DH a k 0 0).2=true:=by
 refine IZ.2 ⟨?_,by unfold Dd;rw[aa]⟩;have E:=D.a;have hb:=D.b
 refine⟨by omega,by omega,?_,?_,λ_=>by omega⟩
 ·rw[JP (by omega)];omega
 ·rw[JP (by omega)];omega
structure Gd (K : Kf) (n : Int) (c : Cv) : Prop where
 way:c.way=0
 pass:0<=c.aK/\c.aK<=K.p.aD.length
 task:c.on=true->0<=c.idx/\c.idx<K.p.aD.length
 mo:Mo K c
 m0: -(16777216*n)<=c.m0/\c.m0<=16777216*n
theorem Gd.bC (h:KOK K) {n:Int} {c:Cv} (g:Gd K n c) (G:0<=n/\n<=10000) {v:Int} (E:(DH K.pa K.pb v (O (v-c.m1))).2=true\/∃r:Int,v=O (c.m1+r)/\r=Bn K.pa K.pb c.m1 c.m2):
  Gd K (n+1) {c with m0:=O (c.m0+v),m1:=v,m2:=O (v-c.m1),m3:=c.m0,m4:=c.m3,m5:=c.m4}:=by
 have I:=g.m0;have D:=Q7f h g.mo E;have J:=OV h.plan (IZ.1 D).1;refine⟨g.way,g.pass,g.task,D,?_⟩;show-(16777216*(n+1))<=O (c.m0+v)/\O (c.m0+v)<=16777216*(n+1);rw[Ae];omega
theorem Gd.same {n:Int} {c c':Cv} (g:Gd K n c) (D:c'.way=c.way) (E:c'.aK=c.aK) (G:c'.on=c.on) (I:c'.idx=c.idx) (J:c'.m0=c.m0) (L:c'.m1=c.m1) (M:c'.m2=c.m2):Gd K n c':=
 ⟨D▸g.way,E▸g.pass,by rw[G,I];exact g.task,by have:=g.mo;unfold Mo at*;rw[L,M];exact this,J▸g.m0⟩
abbrev stand (c:Cv):Cv:={c with m0:=O (IX c*256),m1:=0,m2:=0,m3:=O (IX c*256),m4:=O (IX c*256),m5:=O (IX c*256)}
theorem Zfi (u:Int):Rx [I u]=some [I (O (u*256)),I 0,I 0,I (O (u*256)),I (O (u*256)),I (O (u*256))]:=by
 show XL [I u]=_;rw[Zrd]
theorem Q67 (h: -v<=u/\u<=v): -v<=u.tdiv 256*256/\u.tdiv 256*256<=v:=by
 by_cases k:0<=u
 ·rw[dh k];omega
 ·obtain⟨b,rfl⟩:∃b,u= -b:=⟨-u,by omega⟩;rw[Int.neg_tdiv,dh (by omega)];omega
theorem Gd.stand (h:KOK K) {n:Int} {c:Cv} (g:Gd K n c) (D:0<=n/\n<=10000):Gd K n (stand c)/\IX (stand c)=IX c:=by
 have E:=Q67 g.m0;have e:IX c=c.m0.tdiv 256:=Ae;have e2:(Go.Bm.stand c).m0=c.m0.tdiv 256*256:=by
  show O (IX c*256)=_;rw[e,Ae]
 refine⟨⟨g.way,g.pass,g.task,Zr9 h.plan,?_⟩,?_⟩
 ·rw[e2];omega
 ·show O ((Go.Bm.stand c).m0.tdiv 256)=_;rw[e2,Int.mul_tdiv_cancel _ (by omega),e,Ae]
theorem Out.eqv {α:Type} {p:α->Prop} {a b:Option α} (h:a=b) (g:Out p b):Out p a:=h▸g
theorem Zer (r k:Int):(AW r k=r/\AX r k=0)\/(AW r k=0/\AX r k=r)\/(AW r k= -r/\AX r k=0)\/(AW r k=0/\AX r k= -r):=by
 have D:k%4=0\/k%4=1\/k%4=2\/k%4=3:=by omega
 unfold AW AX;rcases D with h|h|h|h<;>simp[h]
theorem Qxz (r k:Int):sq2 (AW r k) (AX r k)=r*r:=by
 unfold sq2;rcases Zer r k with⟨D,E⟩|⟨D,E⟩|⟨D,E⟩|⟨D,E⟩<;>rw[D,E]<;>grind
theorem Q66 (E:r=1\/r=2\/r=3) (G:0<u) (I:0<v):crs (AW u k) (AX u k) (AW v (k+r)) (AX v (k+r))≠0\/dt2 (AW u k) (AX u k) (AW v (k+r)) (AX v (k+r))<0:=by
 have J:k%4=0\/k%4=1\/k%4=2\/k%4=3:=by omega
 have L:0<u*v:=Int.mul_pos G I;have O: -u*v= -(u*v)/\u* -v= -(u*v)/\ -u* -v=u*v:=⟨Int.neg_mul ..,Int.mul_neg ..,Int.neg_mul_neg ..⟩;have e:∀j:Int,(k+r)%4=j->∀i:Int,k%4=i->crs (AW u k) (AX u k) (AW v (k+r)) (AX v (k+r))=(if i=0 then u else if i=2 then-u else 0)*(if j=1 then v else if j=3 then-v else 0)-(if i=1 then u else if i=3 then-u else 0)*(if j=0 then v else if j=2 then-v else 0)/\
   dt2 (AW u k) (AX u k) (AW v (k+r)) (AX v (k+r))=(if i=0 then u else if i=2 then-u else 0)*(if j=0 then v else if j=2 then-v else 0)+(if i=1 then u else if i=3 then-u else 0)*(if j=1 then v else if j=3 then-v else 0):=by
  intro j M i N;subst M N;exact⟨rfl,rfl⟩
 rcases E with rfl|rfl|rfl<;>rcases J with D|D|D|D
 ·obtain⟨e1,e2⟩:=e 1 (by omega) _ D;simp at e1 e2;omega
 ·obtain⟨e1,e2⟩:=e 2 (by omega) _ D;simp at e1 e2;omega
 ·obtain⟨e1,e2⟩:=e 3 (by omega) _ D;simp at e1 e2;omega
 ·obtain⟨e1,e2⟩:=e 0 (by omega) _ D;simp at e1 e2;omega
 ·obtain⟨e1,e2⟩:=e 2 (by omega) _ D;simp at e1 e2;omega
 ·obtain⟨e1,e2⟩:=e 3 (by omega) _ D;simp at e1 e2;omega
 ·obtain⟨e1,e2⟩:=e 0 (by omega) _ D;simp at e1 e2;omega
 ·obtain⟨e1,e2⟩:=e 1 (by omega) _ D;simp at e1 e2;omega
 ·obtain⟨e1,e2⟩:=e 3 (by omega) _ D;simp at e1 e2;omega
 ·obtain⟨e1,e2⟩:=e 0 (by omega) _ D;simp at e1 e2;omega
 ·obtain⟨e1,e2⟩:=e 1 (by omega) _ D;simp at e1 e2;omega
 ·obtain⟨e1,e2⟩:=e 2 (by omega) _ D;simp at e1 e2;omega
theorem Zg4 (h:ArcMade u D):Qb1 D:=by
 obtain⟨r,k,t,g,x,L,h2,h3,h4,h5,h6,M,S,h9,N,I,E,J⟩:=h.ends;have G:=h.aG;have a1:dU D D.fr=AW r k:=by unfold dU;rw[E,(Lj G).1];omega
 have a2:dW D D.fr=AX r k:=by unfold dW;rw[E,(Lj G).2.1];omega
 have a3:dU D D.to=AW (r+g) (k+t):=by unfold dU;rw[E,J,(Lj G).1,(Lj G).1];omega
 have a4:dW D D.to=AX (r+g) (k+t):=by unfold dW;rw[E,J,(Lj G).2.1,(Lj G).2.1];omega
 have U:qA D=r*r:=by unfold qA;rw[a1,a2,Qxz]
 have V:qB D=(r+g)*(r+g):=by unfold qB;rw[a3,a4,Qxz]
 have m1:64<=r*r:=by
  have:=d6 L L (by omega) (by omega);omega
 have m2:64<=(r+g)*(r+g):=by
  have:=d6 (show(8:Int)<=r+g by omega) (show(8:Int)<=r+g by omega) (by omega) (by omega);omega
 unfold Qb1;refine⟨by omega,by omega,?_,?_,?_⟩
 ·rw[U,V];unfold Er;right;have hg:g*g<=16:=by
   have:=d6 S S M (by omega);omega
  have e1:r*r+(r+g)*(r+g)-16=2*(r*(r+g))+(g*g-16):=by grind
  have T:0<=r*(r+g):=ga (by omega) (by omega);have X:64<=r*(r+g):=by
   have:=d6 L (show(8:Int)<=r+g by omega) (by omega) (by omega);omega
  have Y:0<=g*g:=ga M M;have e2:4*(r*r)*((r+g)*(r+g))=(2*(r*(r+g)))*(2*(r*(r+g))):=by grind
  rw[e1,e2];generalize 2*(r*(r+g))=m at*;exact f8 (by omega) (by omega)
 ·intro hf;rw[I]at hf;have O:=of_decide_eq_true hf;rw[a1,a2,a3,a4,O,N O,iw,iw];exact⟨rfl,rfl⟩
 ·intro hf;rw[I]at hf;have O:=of_decide_eq_false hf;unfold cAB dAB;rw[a1,a2,a3,a4];exact Q66 (by omega) (by omega) (by omega)
theorem Zra (h:Made D) (G:bd 1000000 D.fr) (I:bd 1000000 D.to):By D:=by
 refine⟨h.aP,AP G (by omega),AP I (by omega),λJ=> ?_⟩;have E:=h.arc J;exact⟨E.aG,E.dir,AP (Qxu E (by omega) G).2 (by omega),Zg4 E⟩
end Go.Bm
namespace Go.Bm
open Classical
structure Oth (it : Itm) : Prop where
 aP:7<=it.aP/\it.aP<=14
 spin:it.aP=8->3<=it.n/\it.n<=5/\0<=it.aS/\it.aS<=4000
 dwell:it.aP=7->0<=it.n/\it.n<=4
 out:it.aP=10->0<=it.n/\it.n<=15
def Hv:Pt->List Itm->Prop
 |_,[]=>True
 |p,it::l=>if Az it then it.fr=p/\Hv it.to l else Hv p l
def DV:Pt->List Itm->Pt
 |p,[]=>p
 |p,it::l=>if Az it then DV it.to l else DV p l
theorem Tz {it:Itm}:∀{l:List Itm} {p:Pt},Hv p l->(Az it->it.fr=DV p l)->Hv p (l++[it])
 |[],p,_,h=>by
  simp only[ay,Hv];split
  ·rename_i c;exact⟨h c,trivial⟩
  ·trivial
 |a::l,p,D,h=>by
  simp only[aq,Hv]at D⊢;unfold DV at h;by_cases c:Az a
  ·rw[aa c]at D h⊢;exact⟨D.1,Tz D.2 h⟩
  ·rw[ab c]at D h⊢;exact Tz D h
theorem HM {it:Itm}:∀{l:List Itm} {p:Pt},DV p (l++[it])=if Az it then it.to else DV p l
 |[],p=>by simp only[ay,DV]
 |a::l,p=>by
  simp only[aq,DV];by_cases c:Az a
  ·rw[aa c,aa c];exact HM
  ·rw[ab c,ab c];exact HM
structure Items (A : Nat) (p : Pt) (l : List Itm) : Prop where
 link:Hv p l
 made:∀it∈l,(Az it/\Made it/\EY it/\bd A it.fr/\bd A it.to)\/Oth it
theorem KQ {it:Itm} (h:Items A a L) (E:Az it->it.fr=DV a L) (G:(Az it/\Made it/\EY it/\bd A it.fr/\bd A it.to)\/Oth it):Items A a (L++[it]):=by
 refine⟨Tz h.link E,λi D=> ?_⟩;simp only[co,gp]at D;rcases D with D|rfl
 ·exact h.made i D
 ·exact G
theorem Qk (h:Oth D): ¬Az D:=λg=>by have:=h.aP;have:=g.2;omega
theorem Zpw (D:GZ l M) (k:Nat):
  ∃(it:Itm) (k':Nat),VH M [.vC Aa l,I k]=some (Ag it++[.vC Aa l,I k'])/\k<=k'/\Oth it/\it.aP≠14:=by
 rw[Q9l];obtain⟨v0,k0,e0,a0,b0,J,-,-⟩:=D k (n:=8) (by omega);obtain⟨v1,X,e1,a1,b1,L,-,-⟩:=D k0 (n:=16) (by omega);obtain⟨v2,k2,e2,a2,b2,N,-,-⟩:=D X (n:=2) (by omega);obtain⟨v3,k3,e3,a3,b3,O,-,-⟩:=D k0 (n:=5) (by omega);obtain⟨Y,k4,e4,a4,b4,S,-,-⟩:=D k0 (n:=3) (by omega);obtain⟨v5,k5,e5,a5,b5,T,-,-⟩:=D k4 (n:=4000) (by omega);simp only[go_sem,e0,e1,e2,e3,e4,e5];rw[Ae (x:=3+Y)];have fin:∀(G n U:Int) (on:Bool) (k':Nat),k<=k'->G≠14->Oth ⟨G,0,⟨0,0,0⟩,⟨0,0,0⟩,0,⟨0,0,0⟩,0,false,0,false,0,0,0,n,U,on⟩->
   ∃(it:Itm) (E:Nat),some [I G,I 0,I 0,I 0,I 0,I 0,I 0,I 0,I 0,I 0,I 0,I 0,I 0,B false,I 0,B false,I 0,I 0,I 0,I n,I U,B on, .vC Aa l,I k']=some (Ag it++[.vC Aa l,I E])/\k<=E/\Oth it/\it.aP≠14:=by
  intro G n U on k' h1 h0 h2;exact⟨_,k',rfl,h1,h2,h0⟩
 by_cases J:v0=0
 ·rw[aa J];exact fin _ _ _ _ _ (by omega) (by omega) ⟨by simp only;omega,by simp,by simp,λ_=>by simp only;omega⟩
 rw[ab J];by_cases L:v0=1
 ·rw[aa L];exact fin _ _ _ _ _ (by omega) (by omega) ⟨by simp only;omega,by simp,by simp,λ_=>by simp only;omega⟩
 rw[ab L];by_cases N:v0=2
 ·rw[aa N];exact fin _ _ _ _ _ (by omega) (by omega) ⟨by simp only;omega,by simp,λ_=>by simp only;omega,by simp⟩
 rw[ab N];by_cases O:v0=3
 ·rw[aa O];exact fin _ _ _ _ _ (by omega) (by omega) ⟨by simp only;omega,λ_=>by simp only;omega,by simp,by simp⟩
 rw[ab O];by_cases S:v0=4
 ·rw[aa S];exact fin _ _ _ _ _ (by omega) (by omega) ⟨by simp only;omega,by simp,by simp,by simp⟩
 rw[ab S];by_cases T:v0=5
 ·rw[aa T];exact fin _ _ _ _ _ (by omega) (by omega) ⟨by simp only;omega,by simp,by simp,by simp⟩
 rw[ab T];by_cases V:v0=6
 ·rw[aa V];exact fin _ _ _ _ _ (by omega) (by omega) ⟨by simp only;omega,by simp,by simp,by simp⟩
 rw[ab V];exact fin _ _ _ _ _ (by omega) (by omega) ⟨by simp only;omega,by simp,by simp,by simp⟩
theorem Q61 (D:Src l) (k:Nat):∃(it:Itm) (k':Nat),JR [.vC Aa l,I k]=some (Ag it++[.vC Aa l,I k'])/\k<=k'/\Oth it/\it.aP≠14:=Zpw (Hr D) k
theorem Q64 (h:0<=v/\v<8):∃x,Ah (nth .dead (nth [] [[I 2],[I 2],[I 2],[I 3],[I 1],[I 6],[I 5],[I 4]] v.toNat) 0)=x/\1<=x/\x<=6:=by
 have D:v=0\/v=1\/v=2\/v=3\/v=4\/v=5\/v=6\/v=7:=by omega
 rcases D with rfl|rfl|rfl|rfl|rfl|rfl|rfl|rfl<;>exact⟨_,rfl,by decide⟩
theorem QK (h:∀x∈L,x.aP≠14) (G:D.aP≠14):∀x∈L++[D],x.aP≠14:=λx E=>by
 simp only[co,gp]at E;rcases E with E|rfl
 ·exact h x E
 ·exact G
theorem Zho {MM MO ML MN MF:Fn} (V:GZ l MN)
  (hM : ∀ {p : Pt}, bd 100000000 p -> ∀ {aP : Int}, (1 <= aP /\ aP <= 6) -> ∀ k : Nat,
   ∃(it:Itm) (k':Nat),MM [I p.x,I p.y,I p.z,I aP, .vC Aa l,I k]=some (Ag it++[.vC Aa l,I k'])/\k<=k'/\it.fr=p/\it.aP=aP/\Made it/\EY it)
  (hO:∀k:Nat,∃(it:Itm) (k':Nat),MO [.vC Aa l,I k]=some (Ag it++[.vC Aa l,I k'])/\k<=k'/\Oth it/\it.aP≠14)
  (hL:∀k:Nat,ML [.vC Aa l,I k]=some [B (decide (k<l.length)), .vC Aa l,I k]) {D:Int} {fin:Bool} (hm:D<=100) {p:Pt}:
  ∀s:List Itm×Nat,(Items (4+40*102) p s.1/\bd (4+40*s.1.length) (DV p s.1)/\(s.1=[]\/s.1.length<=D+1)/\∀it∈s.1,it.aP≠14)->
   ∃o,An (Qjc MM MO ML MN MF) [.vC Ac (s.1.map Ag),I D,B fin,I (DV p s.1).x,I (DV p s.1).y,I (DV p s.1).z, .vC Aa l,I s.2]=some o/\o.1≠0/\
    ∃aA,o=(1,[.vC Ac (aA.map Ag),B fin])/\Items (4+40*102) p aA/\(aA=[]\/aA.length<=D+1)/\∀it∈aA,it.aP≠14:=by
 refine Qo8 (S:=List Itm×Nat) (λs=>[.vC Ac (s.1.map Ag),I D,B fin,I (DV p s.1).x,I (DV p s.1).y,I (DV p s.1).z, .vC Aa l,I s.2]) _ (λs=>l.length-s.2) _ ?_;rintro⟨aA,k⟩ ⟨M,O,X,N⟩;simp only at M O X N;simp only;rw[Zpt];simp only[go_sem,hL,af];by_cases c1:(aA.length:Int)<D
 case neg=>
  rw[ab c1];exact .inr ⟨_,rfl,by simp,aA,rfl,M,X,N⟩
 rw[aa c1];by_cases Y:k<l.length
 case neg=>
  rw[ab (by simpa using Y)];exact .inr ⟨_,rfl,by simp,aA,rfl,M,X,N⟩
 rw[aa (by simpa using Y)];obtain⟨v,k1,e1,a1,b1,d1,d2,-⟩:=V k (n:=12) (by omega);have d3:=d2 Y;subst d3;simp only[go_sem,e1];have a0:aA.length<100:=by omega
 by_cases c3:v<4
 ·rw[aa c3];obtain⟨it,U,e2,g1,g2,g0⟩:=hO (k+1);have E:=Qk g2;simp only[go_sem,e2,Ag,aq,ay];rw[aa (by simp;omega)];left;refine⟨(aA++[it],U),?_,⟨KQ M (λh=>absurd h E) (.inr g2),?_, .inr ?_,QK N g0⟩,?_⟩
  ·simp only[HM,ab E,bh,ba,cm,Ag]
  ·simp only[HM,ab E,am,ff];exact AP O (by omega)
  ·simp only[am,ff];omega
  ·simp only;omega
 ·rw[ab c3,Ae];obtain⟨x,hx,a5,a6⟩:=Q64 (v:=v-4) (by omega);have a2:bd 100000000 (DV p aA):=AP O (by omega);obtain⟨it,U,e2,g1,g2,g3,g4,g5⟩:=hM a2 (aP:=x) (by omega) (k+1);have G:Az it:=by unfold Az;omega
  have L:=Q6v g4 (by rw[g2];exact O);rw[aa (by simp;omega)];simp only[go_sem,hx,e2,Ag,aq,ay];have J:(Az it/\Made it/\EY it/\bd (4+40*102) it.fr/\bd (4+40*102) it.to)\/Oth it:= .inl ⟨G,g4,g5,by rw[g2];exact AP O (by omega),AP L (by omega)⟩;by_cases c5:it.aP=5
  ·rw[aa c5];obtain⟨v3,k3,e3,a3,b3,d3,-,-⟩:=V U (n:=2) (by omega);obtain⟨v4,k4,e4,a4,b4,d4,-,-⟩:=V k3 (n:=3000) (by omega);simp only[go_sem,e3,e4];rw[Ae (x:=3+v3),Ae (x:=200+v4)];rw[aa (by simp;omega),aa (by simp;omega)];have T:Oth ⟨8,0,⟨0,0,0⟩,⟨0,0,0⟩,0,⟨0,0,0⟩,0,false,0,false,0,0,0,3+v3,200+v4,false⟩:=⟨by simp only;omega,λ_=>by simp only;omega,by simp,by simp⟩;have E:=Qk T;have i1:=KQ M (λh=>absurd h E) (.inr T);left;refine⟨(aA++[⟨8,0,⟨0,0,0⟩,⟨0,0,0⟩,0,⟨0,0,0⟩,0,false,0,false,0,0,0,3+v3,200+v4,false⟩]++[it],k4),?_,⟨KQ i1 (λ_=>by rw[HM,ab E];exact g2) J,?_, .inr ?_,QK (QK N (by simp only;omega)) (by omega)⟩,?_⟩
   ·simp only[HM,aa G,bh,ba,cm,Ag]
   ·simp only[HM,aa G,am,ff];exact AP L (by omega)
   ·simp only[am,ff];omega
   ·simp only;omega
  ·rw[ab c5,aa (by simp;omega)];left;refine⟨(aA++[it],U),?_,⟨KQ M (λ_=>g2) J,?_, .inr ?_,QK N (by omega)⟩,?_⟩
   ·simp only[HM,aa G,bh,ba,cm,Ag]
   ·simp only[HM,aa G,am,ff];exact AP L (by omega)
   ·simp only[am,ff];omega
   ·simp only;omega
def Is:Itm:=⟨14,0,⟨0,0,0⟩,⟨0,0,0⟩,0,⟨0,0,0⟩,0,false,0,false,0,0,0,0,0,false⟩
theorem Qnm:Oth Is:=⟨by simp[Is],by simp[Is],by simp[Is],by simp[Is]⟩
theorem Zrt {MM MO ML G O:Fn} (J:GZ l G) (V:O [.vC Aa l]=some [.vC Aa l,I 0]) {D:Int} {fin:Bool} (hm:D<=100)
  (X:∀(p:Pt) (k:Nat),bd 4 p->∃aA,N [.vC Ac [],I D,B fin,I p.x,I p.y,I p.z, .vC Aa l,I k]=some (1,[.vC Ac (aA.map Ag),B fin])/\Items 4084 p aA/\(aA=[]\/aA.length<=D+1)/\∀it∈aA,it.aP≠14):
  ∃(p:Pt) (aA:List Itm),Qjp MM MO ML G O N [.vC Aa l,I D,B fin]=some [.vC Ac ((aA++if fin=true then [Is]else []).map Ag)]/\Items 4084 p aA/\(aA=[]\/aA.length<=D+1)/\∀it∈aA,it.aP≠14:=by
 obtain⟨L,S,e1,a1,b1,c1,-,-⟩:=J 0 (n:=9) (by omega);obtain⟨T,Y,e2,a2,b2,c2,-,-⟩:=J S (n:=9) (by omega);obtain⟨U,k3,e3,a3,b3,c3,-,-⟩:=J Y (n:=9) (by omega);obtain⟨aA,h1,h2,E,h0⟩:=X ⟨L-4,T-4,U-4⟩ k3 ⟨by simp only;omega,by simp only;omega,by simp only;omega⟩;rw[Zgq];have M:G [I 9, .vC Aa l,I 0]=some [I L, .vC Aa l,I S]:=e1;simp only[go_sem,V,M,e2,e3];rw[Ae (x:=L-4),Ae (x:=T-4),Ae (x:=U-4)];simp only[h1,go_sem];refine⟨_,aA,?_,h2,E,h0⟩;have hlen:aA.length<=101:=by
  rcases E with E|E
  ·rw[E];simp
  ·omega
 cases fin
 ·simp
 ·rw[aa rfl,aa (by simp;omega),aa rfl,bh];rfl
theorem Znd (G:Src l) {D:Int} (M:D<=100) (fin:Bool):
  ∃(p:Pt) (aA:List Itm),JY [.vC Aa l,I D,B fin]=some [.vC Ac (aA.map Ag)]/\Items 4084 p aA/\(aA.length:Int)<=max D (-1)+2/\(fin=true->∃l,aA=l++[Is]/\(l.length:Int)<=max D (-1)+1)/\(fin=false->(aA.length:Int)<=max D (-1)+1/\∀it∈aA,it.aP≠14):=by
 obtain⟨p,aA,J,O,E,S⟩:=Zrt (MM:=I_) (MO:=JR) (ML:=Ik) (N:=Yb) (fin:=fin) (Hr G) (Qv l) M λp k L=>by
  obtain⟨o,J,-,aA,rfl,E,T,U⟩:=Zho (MF:=Dj) (fin:=fin) (Hr G) (λL _ V k=>Zhm G L V k) (λk=>Q61 G k) (Q62 l) M (p:=p) ([],k) ⟨⟨trivial,by simp⟩,L, .inl rfl,by simp⟩;exact⟨aA,J,E,T,U⟩
 have hle:(aA.length:Int)<=max D (-1)+1:=by
  rcases E with E|E
  ·rw[E];simp;omega
  ·omega
 refine⟨p,_,J,?_,?_,λhf=> ?_,λhf=> ?_⟩
 ·cases fin
  ·simpa using O
  ·simp only[dc];exact KQ O (λh=>absurd h (Qk Qnm)) (.inr Qnm)
 ·cases fin
  ·simp;omega
  ·simp;omega
 ·subst hf;exact⟨aA,by simp,hle⟩
 ·subst hf;exact⟨by simpa using hle,by simpa using S⟩
theorem Zle (D:Src l) {most:Int} (E:most<=100) (fin:Bool):
  ∃(p:Pt) (aA:List Itm),JY [.vC Aa l,I most,B fin]=some [.vC Ac (aA.map Ag)]/\Items 4084 p aA/\(aA.length:Int)<=max most (-1)+2/\(fin=true->∃l,aA=l++[Is]/\(l.length:Int)<=max most (-1)+1)/\(fin=false->(aA.length:Int)<=max most (-1)+1):=by
 obtain⟨p,aA,G,J,L,M,N⟩:=Znd D E fin;exact⟨p,aA,G,J,L,M,λh=>(N h).1⟩
theorem Qf6 {A:Nat} {aA:List Itm} (E:A<=1000000) (I:∀it∈aA,(Az it/\Made it/\EY it/\bd A it.fr/\bd A it.to)\/Oth it):∀(k i:Nat) (last:Int) (p:Pt),i+k=aA.length->Hv p (aA.drop i)->(0<=last->(vD aA last.toNat).to=p)->DR aA k i last=0
 |0,_,_,_,_,_,_=>rfl
 |k+1,i,last,p,X,h,M=>by
  have D:i<aA.length:=by omega
  have J:=I _ (Zu7 D);rw[O6 D]at h;unfold Hv at h;unfold DR;have N: ¬Bo (vD aA i):=by
   rcases J with⟨O,G,Y,S,T⟩|L
   ·have U:=Zra G (AP S E) (AP T E);have hf:=G.aZ;have hb:=G.bH;have V:=G.aP;rintro(g|g|⟨-,g|g|g|g⟩|⟨g,-⟩)
    ·omega
    ·omega
    ·exact g U
    ·omega
    ·omega
    ·omega
    ·exact g O
   ·have V:=L.aP;rintro(g|g|⟨g,-⟩|⟨-,g1,g2⟩)
    ·omega
    ·omega
    ·exact Qk L g
    ·have:=L.spin g1;omega
  rw[ab N];by_cases c:Az (vD aA i)
  ·rw[aa c]at h⊢;rw[ab (λg=>g.2 (by rw[M g.1];exact h.1.symm))];exact Qf6 E I k (i+1) i _ (by omega) h.2 (λ_=>by rw[ag])
  ·rw[ab c]at h⊢;exact Qf6 E I k (i+1) last p (by omega) h M
theorem Qwk (D:A<=1000000) (h:Items A a L) (E:L.length<=20000):BM L=0:=by
 unfold BM;rw[ab];exact Qf6 D h.made L.length 0 (-1) a (by omega) (by rw[fd];exact h.link) (λh=>by omega)
end Go.Bm
namespace Go.Bm
theorem Q7x (N:∀{hi lo y:Nat},hi<y->y<w64->lo<w64->M [U hi,U lo,U y]=some [U (((hi*w64+lo)/y:Nat):Int),U (((hi*w64+lo)%y:Nat):Int)])
  {hi lo y:Nat} (E:hi<w64) (G:lo<w64) (D:0<y) (O:y<w64):
  ∃I J:Nat,X7 M [U hi,U lo,U y]=some [U I,U J,B (decide (0<(hi*w64+lo)%y))]/\I<w64/\J<w64/\I*w64+J=(hi*w64+lo)/y:=by
 have S:=N (hi:=0) (lo:=hi) D O E;rw[gc,dl,show((0:Nat):Int)=0 from rfl]at S;have T:=fv hi D;have V:=N (hi:=hi%y) (lo:=lo) T O G;have e:=em hi y;have e2:hi*w64+lo=hi%y*w64+lo+hi/y*w64*y:=by
  have:hi*w64=hi/y*w64*y+hi%y*w64:=by
   rw[<-e,Nat.mul_add_mod,Nat.mod_mod];rw[show(y*(hi/y)+hi%y)/y=hi/y from by rw[e]];rw[cy,cg y,dq,cg y,dq]
  omega
 have X:(hi*w64+lo)/y=(hi%y*w64+lo)/y+hi/y*w64:=by rw[e2,Nat.add_mul_div_right _ _ D]
 have Y:(hi*w64+lo)%y=(hi%y*w64+lo)%y:=by rw[e2,Nat.add_mul_mod_self_right]
 have L:(hi%y*w64+lo)/y<w64:=by
  rw[ed D];have:hi%y*w64+w64<=y*w64:=by rw[<-fu];exact be _ T
  rw[cg w64];omega
 refine⟨hi/y,(hi%y*w64+lo)/y,?_,Nat.lt_of_le_of_lt (f0 _ _) E,L,by rw[X];omega⟩;rw[Zbe];simp only[go_sem,S,V,Y];by_cases c:0<(hi%y*w64+lo)%y
 ·rw[ah c,ah (show(((hi%y*w64+lo)%y:Nat):Int)>0 by omega)]
 ·rw[aj c,aj (show¬(((hi%y*w64+lo)%y:Nat):Int)>0 by omega)]
theorem Zgl {A n t:Nat} (D:0<n) (J:t*t<=2*A*(2*A)/n) (L:2*A*(2*A)/n<(t+1)*(t+1)) (down:Bool) {E:Prop} [Decidable E] (M:E↔(2*A*(2*A)%n=0/\t*t=2*A*(2*A)/n)):
  DT A n down (if t%2=1/\(¬E\/down=false)then t/2+1 else t/2):=by
 have T:2*A*(2*A)=4*(A*A):=by grind
 have G:t*t*n<=2*A*(2*A):=(Nat.le_div_iff_mul_le D).1 J;have U:2*A*(2*A)<(t+1)*(t+1)*n:=(ed D).1 L;have N:(2*A*(2*A)%n=0/\t*t=2*A*(2*A)/n)↔t*t*n=2*A*(2*A):=by
  have hd:=em (2*A*(2*A)) n;constructor
  ·rintro⟨g1,g2⟩;rw[g2,cg];omega
  ·intro g;rw[<-g];exact⟨Nat.mul_mod_left _ _,(Nat.mul_div_cancel _ D).symm⟩
 have I:=M.trans N;rw[T]at G U I;clear M N J L;generalize V:4*(A*A)=Q at*;unfold DT;rw[V];rcases Nat.mod_two_eq_zero_or_one t with O|O
 ·rw[ab];obtain⟨m,rfl⟩:∃m,t=2*m:=⟨t/2,by omega⟩;rw[show 2*m/2=m by omega];have h5:(2*m+1)*(2*m+1)*n<=(2*m+1)*(2*m+1)*n:=cq _;refine⟨?_,?_⟩
  ·rcases dn m with S|S
   ·exact .inl S
   ·right;have X:(2*m-1)*(2*m-1)*n<2*m*(2*m)*n:=dy (fy (by omega)) D;split<;>omega
  ·split<;>omega
 ·obtain⟨m,rfl⟩:∃m,t=2*m+1:=⟨t/2,by omega⟩;rw[show(2*m+1)/2=m by omega];have X:(2*m+1+1)*(2*m+1+1)*n<=(2*(m+1)+1)*(2*(m+1)+1)*n:=OO (by omega);have h7:(2*m-1)*(2*m-1)*n<(2*m+1)*(2*m+1)*n:=dy (fy (by omega)) D;have Y:2*(m+1)-1=2*m+1:=by omega
  by_cases c: ¬E\/down=false
  ·rw[aa ⟨O,c⟩,Y];refine⟨.inr ?_,?_⟩
   ·cases down
    ·simp only[cv,ez];exact G
    ·simp only[dc];rcases c with c|c
     ·exact Nat.lt_of_le_of_ne G λh=>c (I.2 h)
     ·cases c
   ·split<;>omega
  ·have c1:(2*m+1)*(2*m+1)*n=Q:=by
    by_cases g:E
    ·exact I.1 g
    ·exact absurd (.inl g) c
   have c2:down=true:=by
    cases down
    ·exact absurd (.inr rfl) c
    ·rfl
   subst c2;rw[ab (λh=>c h.2)];simp only[dc];exact⟨.inr (by omega),by omega⟩
theorem Q63 {x d:Int}:sgn x d<0↔x*d<0:=by
 rcases QV x d with⟨h,g⟩|⟨h,g⟩|⟨h,g⟩<;>omega
theorem Zpu {x d:Int} {n X D N l1 qh ql t L l2:Nat} (hX:X<=2147483648) (hD:D<=2147483648) (hn:0<n/\n<=4611686018427387904)
  (z1:Q [I x]=some [U X]) (z2:Q [I d]=some [U D]) (hk:S [I 2]=some [B true]) (a3:T [U ((2*(X*D):Nat):Int),U ((2*(X*D):Nat):Int)]=some [U N,U l1])
  (a4:V [U N,U l1,U n]=some [U qh,U ql,B (decide (0<2*(X*D)*(2*(X*D))%n))]) (a5:qh*w64+ql=2*(X*D)*(2*(X*D))/n) (a6:ql<w64) (a7:W [U qh,U ql]=some [U t]) (a2:t<w64)
  (a8:T [U t,U t]=some [U L,U l2]) (a9:L*w64+l2=t*t) (b0:l2<w64) (hs:Y [I x,I d]=some [I (sgn x d)])
  (hg:∀(more:Int) (some_ neg:Bool),Z [I 2,I more,B some_,B neg]=some [B (if more>0 then true else if more=0 then !neg else false)])
  (g1:∀{n:Nat},n<9223372036854775808->M [U n,B false]=some [I n,B true]) (g2:∀{n:Nat},n<=9223372036854775808->M [U n,B true]=some [I (-(n:Int)),B true]) {J:Nat}
  (O:t%2=1->(¬(2*(X*D)*(2*(X*D))%n=0/\t*t=2*(X*D)*(2*(X*D))/n)\/ ¬sgn x d<0)->J=t/2+1) (a0: ¬(t%2=1/\(¬(2*(X*D)*(2*(X*D))%n=0/\t*t=2*(X*D)*(2*(X*D))/n)\/ ¬sgn x d<0))->J=t/2) (b3:t<=9223372036854775808):
  Uc M Z Y W V T S Q [I x,I d,I n,I 2]=some [I (if sgn x d<0 then-(J:Int)else J),B true]:=by
 have b4:X*D<=2147483648*2147483648:=cx hX hD;have w1:wrap .u64 (2*wrap .u64 ((X:Int)*(D:Int)))=((2*(X*D):Nat):Int):=by
  rw[<-bz,wr (by omega),show(2:Int)*((X*D:Nat):Int)=((2*(X*D):Nat):Int) by omega,wr (by omega)]
 have w2:wrap .u64 (n:Int)=n:=wr (by omega);have w3:((t:Int)).tdiv 2=((t/2:Nat):Int):=V5 t 2;have w4:wrap .u64 ((t/2:Nat):Int)=((t/2:Nat):Int):=wr (by rw[A_]at a2;omega);have w5:wrap .u64 (((t/2:Nat):Int)+1)=((t/2+1:Nat):Int):=by rw[show((t/2:Nat):Int)+1=((t/2+1:Nat):Int) by omega,wr (by rw[A_]at a2;omega)]
 have w6:((t:Int).tmod 2=1)=(t%2=1):=by
  rw[gi (by omega)];exact propext ⟨by omega,by omega⟩
 have b1:∀(neg:Bool) (k:Nat),k<9223372036854775808->M [U k,B neg]=some [I (if neg=true then-(k:Int)else k),B true]:=by
  intro neg k hk;cases neg
  ·exact g1 hk
  ·exact g2 (by omega)
 have key:∀(neg:Bool) (k:Nat),decide (sgn x d<0)=neg->J=k->k<9223372036854775808->M [U k,B neg]=some [I (if sgn x d<0 then-(J:Int)else J),B true]:=by
  intro neg k N L h3;rw[b1 neg k h3,L];congr 3;by_cases c:sgn x d<0
  ·rw[aa c,aa (by rw[<-N];exact ah c)]
  ·rw[ab c,ab (by rw[<-N];simpa using c)]
 have b2:(L=qh/\l2=ql)↔t*t=2*(X*D)*(2*(X*D))/n:=by
  rw[<-a9,<-a5];constructor
  ·rintro⟨rfl,rfl⟩;rfl
  ·intro h;have a1:∀p q u v:Nat,u<w64->v<w64->p*w64+u=q*w64+v->p=q/\u=v:=by
    intro p q u v hu hv h;rcases Nat.lt_trichotomy p q with c|c|c
    ·have:=be w64 (show p+1<=q from c);rw[fu]at this;omega
    ·subst c;exact⟨rfl,by omega⟩
    ·have:=be w64 (show q+1<=p from c);rw[fu]at this;omega
   exact a1 _ _ _ _ b0 a6 h
 rw[Q6a];simp only[go_sem,z1,z2,hk,w1,w2,a3,a4,a7,hs,a8,w3,w4,w5,hg];rw[ab,ab,ab,ab,ab (by simp)];have G:t/2+1<9223372036854775808:=by omega
 have hT:∀k:Nat,J=k->k<9223372036854775808->((M [U (k:Int),B (decide (sgn x d<0))]).bind λo=>some [I (Ah (nth .dead o 0)),B (CD (nth .dead o 1))])=some [I (if sgn x d<0 then-(J:Int)else J),B true]:=by
  intro k N L;rw[key _ k rfl N L];rfl
 have e3:((L:Int)=qh/\(l2:Int)=ql/\True)=(t*t=2*(X*D)*(2*(X*D))/n):=by
  rw[<-propext b2];exact propext ⟨λh=>⟨by omega,by omega⟩,λh=>⟨by omega,by omega,trivial⟩⟩
 simp only[e3,w6];have n1:((1:Int)>0)=True:=by simp
 have n2:((-1:Int)>0)=False:=by simp
 have n3:((-1:Int)=0)=False:=by simp
 have n4:((0:Int)>0)=False:=by simp
 by_cases cR:2*(X*D)*(2*(X*D))%n=0
 ·rw[ab (show¬0<2*(X*D)*(2*(X*D))%n by omega)];by_cases E:t%2=1
  ·by_cases cE:t*t=2*(X*D)*(2*(X*D))/n
   ·by_cases cn:sgn x d<0
    ·have:=a0 (λh=>h.2.elim (λg=>g ⟨cR,cE⟩) λg=>g cn);simp only[n1,n2,n3,n4,cv,E,cE,gu,dc,ez];rw[ab (by simp[cn])];exact hT _ this (by omega)
    ·have:=O E (.inr cn);simp only[n1,n2,n3,n4,cv,E,cE,gu,dc,ez];rw[aa (by simp;omega)];exact hT _ this G
   ·have:=O E (.inl λg=>cE g.2);simp only[n1,n2,n3,n4,cv,E,cE,gu,gv,dc,ez];exact hT _ this G
  ·have:=a0 (λh=>E h.1);simp only[n1,n2,n3,n4,cv,E,ez,ite_self];exact hT _ this (by omega)
 ·rw[aa (show 0<2*(X*D)*(2*(X*D))%n by omega)];by_cases E:t%2=1
  ·have:=O E (.inl λg=>cR g.1);simp only[n1,n2,n3,n4,cv,E,gv,dc];exact hT _ this G
  ·have:=a0 (λh=>E h.1);simp only[n1,n2,n3,n4,cv,E,gv,dc,ez];exact hT _ this (by omega)
theorem Zkg {x d:Int} {n:Nat} (M:0<n) (N:0<=d) (E:DT (x.natAbs*d.natAbs) n (decide (x*d<0)) J):(if x*d<0 then-(J:Int)else J)=Bd x d n:=by
 unfold Bd;rw[gq];by_cases I:x<0
 ·rw[aa I];by_cases L:d=0
  ·subst L;rw[Int.mul_zero,ab];rw[show x.natAbs*(0:Int).natAbs=0 from by simp]at E⊢;have e1:DT 0 n true 0:=⟨.inl rfl,by simp⟩;rw[Nx e1];obtain⟨G,-⟩:=E;rw[aj (by simp)]at G;simp only[cv,ez]at G;rcases G with G|G
   ·omega
   ·rcases dn J with O|O
    ·omega
    ·have S:=Nat.mul_pos (Nat.mul_pos (show 0<2*J-1 by omega) (show 0<2*J-1 by omega)) M;omega
  ·have D:x*d<0:=Int.mul_neg_of_neg_of_pos I (by omega);rw[ah D]at E;rw[aa D,Nx E]
 ·rw[ab I];have D: ¬x*d<0:=by have:=ga (show 0<=x by omega) N;omega
  rw[aj D]at E;rw[ab D,Nx E]
theorem UV {x d n:Int} (hx:x.natAbs<=2147483648) (hd:0<=d/\d<=2147483648) (hn:0<n/\n<=4611686018427387904):Hf [I x,I d,I n,I 2]=some [I (Bd x d n),B true]:=by
 obtain⟨N,rfl⟩:=bj (show 0<=n by omega);have hD:d.natAbs<=2147483648:=by omega
 have a1:x.natAbs*d.natAbs<=2147483648*2147483648:=cx hx hD;have L:0<N/\N<=4611686018427387904:=by omega
 have O:2*(x.natAbs*d.natAbs)<w64:=by rw[A_];omega
 obtain⟨G,l1,e1,e2,e3⟩:=Mf O O;have S:N<w64:=by rw[A_];omega
 have T:G<w64:=by
  have:=Nat.mul_lt_mul'' O O;rw[<-e2]at this;by_cases c:G<w64
  ·exact c
  ·have:=be w64 (show w64<=G by omega);omega
 obtain⟨qh,ql,q1,q2,q3,U⟩:=Q7x (M:=FG) Zs4 T e3 L.1 S;rw[e2]at q1 U;obtain⟨t,r1,V,r3,Y⟩:=Q21 q2 q3;rw[U]at V r3;obtain⟨h2,l2,p1,p2,p3⟩:=Mf Y Y;have ht:t<=9223372036854775808:=by
  have k1:t*t<=2*(x.natAbs*d.natAbs)*(2*(x.natAbs*d.natAbs)):=bn V (f0 _ _);have k2:=Nat.mul_self_le_mul_self_iff.1 k1;omega
 have hi:=Zgl L.1 V r3 (decide (x*d<0)) (E:=2*(x.natAbs*d.natAbs)*(2*(x.natAbs*d.natAbs))%N=0/\t*t=2*(x.natAbs*d.natAbs)*(2*(x.natAbs*d.natAbs))/N) Iff.rfl;have J:=Zkg L.1 hd.1 hi;rw[<-J];have:= @Q63 x d;have a0:∀a:Int,(if x*d<0 then-a else a)=if sgn x d<0 then-a else a:=by
  intro a;by_cases c:x*d<0
  ·rw[aa c,aa (this.2 c)]
  ·rw[ab c,ab (λh=>c (this.1 h))]
 rw[a0];refine Zpu (X:=x.natAbs) (D:=d.natAbs) hx hD L (H1 (by unfold i64;omega)) (H1 (by unfold i64;omega)) (Qc9 (.inr (.inr rfl))) e1 q1 U q3 r1 Y p1 p2 p3 (U5 x d) Q08 Z3 Qn3 (λG h2=> ?_) (λh=> ?_) ht
 ·rw[aa ⟨G,h2.imp id λh=>aj λg=>h (this.2 g)⟩]
 ·rw[ab λg=>h ⟨g.1,g.2.imp id λk g2=>by rw[decide_eq_false_iff_not]at k;exact k (this.1 g2)⟩]
theorem Qzf (D:bd 67108864 a) (hb:bd 67108864 b):
    O (O (O (0+O (O (a.x-b.x)*O (a.x-b.x)))+O (O (a.y-b.y)*O (a.y-b.y)))+O (O (a.z-b.z)*O (a.z-b.z)))=sqD a b:=by
  have h:∀x y:Int,x.natAbs<=67108864->y.natAbs<=67108864->0<=(x-y)*(x-y)/\(x-y)*(x-y)<=18014398509481984:=by
    intro x y E G;exact CN (x:=x-y) (A:=134217728) (by omega)
  have I:=h _ _ D.1 hb.1;have J:=h _ _ D.2.1 hb.2.1;have L:=h _ _ D.2.2 hb.2.2;obtain⟨a1,a2,a3⟩:=D;obtain⟨b1,b2,b3⟩:=hb;rw[Ae (x:=a.x-b.x),Ae (x:=a.y-b.y),Ae (x:=a.z-b.z)];unfold sqD Hj BX;simp only;generalize(a.x-b.x)*(a.x-b.x)=u at*;generalize(a.y-b.y)*(a.y-b.y)=v at*;generalize(a.z-b.z)*(a.z-b.z)=w at*;rw[Ae (x:=u),Ae (x:=0+u),Ae (x:=v),Ae (x:=0+u+v),Ae (x:=w),Ae,Int.zero_add]
theorem Q7h {n:Nat} (E:bd 67108864 a) (hb:bd 67108864 b) (D:sqD a b=n)
    (G:∃r:Nat,M [I n,I 1]=some [I ((if((1:Int)=1/\r*r<n)\/((1:Int)=2/\r*r+r<n)then r+1 else r:Nat):Int),B true]/\r*r<=n/\n<(r+1)*(r+1)):
    Tv M [I a.x,I a.y,I a.z,I b.x,I b.y,I b.z]=some [I (Au a b)]:=by
  obtain⟨r,J,L,N⟩:=G;have O:=Qt9 L N;rw[Zkd,Qzf E hb,D];simp only[go_sem,J];unfold Au;rw[D,Q2m O];congr 3;by_cases c:r*r<n
  · rw[aa (.inl ⟨trivial,c⟩),aa c]
  · rw[ab (by simp[c]),ab c]
theorem YB (D:bd 67108864 a) (hb:bd 67108864 b):HN [I a.x,I a.y,I a.z,I b.x,I b.y,I b.z]=some [I (Au a b)]:=by
  have E:=KW a b;have J:=KN D hb (cq _);obtain⟨n,G⟩:=bj E;exact Q7h D hb G (Qoy (by omega) (.inl rfl))
theorem Ztu {MO:Fn} {a b:Spk} {u w:Int} (L:okS a) (hb:okS b) (M:u.natAbs<=100000000) (N:w.natAbs<=100000000)
    (S: ¬(u=0/\w=0)->MO [I u,I (hf a.r b.r),I (sq2 u w),I 2]=some [I (Bd u (hf a.r b.r) (sq2 u w)),B true]/\MO [I w,I (hf a.r b.r),I (sq2 u w),I 2]=some [I (Bd w (hf a.r b.r) (sq2 u w)),B true]):
    (bif u == 0 then
      bif w==0 then some [AC.int IntKind.i64 0,AC.int IntKind.i64 0,AC.int IntKind.i64 0,AC.int IntKind.i64 0,AC.bool false]
      else(MO [AC.int IntKind.i64 u,AC.int IntKind.i64 ((O (O (a.r+b.r)+1)).fdiv (2^min (Int.toNat 1) IntKind.i64.bits)),AC.int IntKind.i64 (O (O (u*u)+O (w*w))),AC.int IntKind.i64 2]).bind λD=>
       (MO [AC.int IntKind.i64 w,AC.int IntKind.i64 ((O (O (a.r+b.r)+1)).fdiv (2^min (Int.toNat 1) IntKind.i64.bits)),AC.int IntKind.i64 (O (O (u*u)+O (w*w))),AC.int IntKind.i64 2]).bind λE=>
       some [AC.int IntKind.i64 (Ah (nth AC.dead D 0)),AC.int IntKind.i64 (Ah (nth AC.dead E 0)),AC.int IntKind.i64 ((O (O (a.r+b.r)+1)).fdiv (2^min (Int.toNat 1) IntKind.i64.bits)),AC.int IntKind.i64 ((O (O (a.h+b.h)+1)).fdiv (2^min (Int.toNat 1) IntKind.i64.bits)),AC.bool true]
     else(MO [AC.int IntKind.i64 u,AC.int IntKind.i64 ((O (O (a.r+b.r)+1)).fdiv (2^min (Int.toNat 1) IntKind.i64.bits)),AC.int IntKind.i64 (O (O (u*u)+O (w*w))),AC.int IntKind.i64 2]).bind λD=>
       (MO [AC.int IntKind.i64 w,AC.int IntKind.i64 ((O (O (a.r+b.r)+1)).fdiv (2^min (Int.toNat 1) IntKind.i64.bits)),AC.int IntKind.i64 (O (O (u*u)+O (w*w))),AC.int IntKind.i64 2]).bind λE=>
       some [AC.int IntKind.i64 (Ah (nth AC.dead D 0)),AC.int IntKind.i64 (Ah (nth AC.dead E 0)),AC.int IntKind.i64 ((O (O (a.r+b.r)+1)).fdiv (2^min (Int.toNat 1) IntKind.i64.bits)),AC.int IntKind.i64 ((O (O (a.h+b.h)+1)).fdiv (2^min (Int.toNat 1) IntKind.i64.bits)),AC.bool true])=
    some (AT (Fa a b u w)++[B (decide (¬(u=0/\w=0)))]):=by
  have q1:=CN M;have q2:=CN N;have e:O (O (u*u)+O (w*w))=sq2 u w:=by
    unfold sq2;generalize u*u=x at*;generalize w*w=y at*;rw[Ae (x:=x),Ae (x:=y),Ae]
  have T:(O (O (a.r+b.r)+1)).fdiv (2^min (Int.toNat 1) IntKind.i64.bits)=hf a.r b.r:=by
    have U:=L.2.2.1;have V:=hb.2.2.1;rw[Ae (x:=a.r+b.r),Ae (x:=a.r+b.r+1),show(2^min (Int.toNat 1) IntKind.i64.bits:Int)=2 from rfl,dp _ (by omega)];rfl
  have X:(O (O (a.h+b.h)+1)).fdiv (2^min (Int.toNat 1) IntKind.i64.bits)=hf a.h b.h:=by
    have U:=L.2.2.2;have V:=hb.2.2.2;rw[Ae (x:=a.h+b.h),Ae (x:=a.h+b.h+1),show(2^min (Int.toNat 1) IntKind.i64.bits:Int)=2 from rfl,dp _ (by omega)];rfl
  simp only[T,X,e];simp only[go_sem];unfold Fa;by_cases h:u=0/\w=0
  · rw[aa h.1,aa h.2,aa h]
    simp[h]
  · obtain⟨Y,n2⟩:=S h
    rw[ab h];simp only[Y,n2,go_sem];have hd:decide (¬(u=0/\w=0))=true:=ah h;rw[hd];by_cases G:u=0
    · rw[aa G,ab (λJ=>h ⟨G,J⟩)];try rfl
    · rw[ab G];try rfl
theorem Q8x {a b:Spk} (L:okS a) (hb:okS b) {dir:Int} (E:dir=1\/dir= -1) (bG:Bool)
    (hO:∀{u w:Int},u.natAbs<=100000000->w.natAbs<=100000000-> ¬(u=0/\w=0)->M [I u,I (hf a.r b.r),I (sq2 u w),I 2]=some [I (Bd u (hf a.r b.r) (sq2 u w)),B true]/\M [I w,I (hf a.r b.r),I (sq2 u w),I 2]=some [I (Bd w (hf a.r b.r) (sq2 u w)),B true])
    (hC:Z [I a.u,I a.w,I a.r,I a.h,I b.u,I b.w,I b.r,I b.h]=some [I (crs a.u a.w b.u b.w)]) (hD:Y [I a.u,I a.w,I a.r,I a.h,I b.u,I b.w,I b.r,I b.h]=some [I (dt2 a.u a.w b.u b.w)])
    (a0:(crs a.u a.w b.u b.w).natAbs<=5000000000000000):
    Zo M Z Y [I a.u,I a.w,I a.r,I a.h,I b.u,I b.w,I b.r,I b.h,I dir,B bG]=some (AT (CF a b dir bG)++[B (decide (¬((Bs a b dir bG).1=0/\(Bs a b dir bG).2=0)))]):=by
  have key:=fun{u w:Int} (T:u.natAbs<=100000000) (U:w.natAbs<=100000000)=>Ztu (MO:=M) (a:=a) (b:=b) L hb T U (hO T U);have G:=OH L hb E bG;obtain⟨a1,a2,-⟩:=L;obtain⟨b1,b2,-⟩:=hb;have w1:O (0-a.u)= -a.u:=by rw[Ae];omega
  have w2:O (0-a.w)= -a.w:=by rw[Ae];omega
  have w3:O (a.u+b.u)=a.u+b.u:=Ae;have w4:O (a.w+b.w)=a.w+b.w:=Ae;have w5:O (0-(a.u+b.u))= -(a.u+b.u):=by rw[Ae];omega
  have w6:O (0-(a.w+b.w))= -(a.w+b.w):=by rw[Ae];omega
  have w7:O (b.w-a.w)=b.w-a.w:=Ae;have w8:O (a.u-b.u)=a.u-b.u:=Ae;have w9:O (dir*(b.w-a.w))=dir*(b.w-a.w):=by rcases E with rfl|rfl<;>exact Ae
  have N:O (dir*(a.u-b.u))=dir*(a.u-b.u):=by rcases E with rfl|rfl<;>exact Ae
  have S:O (crs a.u a.w b.u b.w*dir)=crs a.u a.w b.u b.w*dir:=by rcases E with rfl|rfl<;>exact Ae
  rw[Zc8];try dsimp only[go_sem]
  unfold CF;simp only[w1,w2,w3,w4,w5,w6,w7,w8,w9,N,hC,hD,ak,E0,ER,gA,jA,wA,bA,S];have fin:∀{x:Option (List AC)},x=some (AT (Fa a b (Bs a b dir bG).1 (Bs a b dir bG).2)++[B (decide (¬((Bs a b dir bG).1=0/\(Bs a b dir bG).2=0)))])->
      (bif dir !=1 then bif dir != -1 then some [AC.int IntKind.i64 0,AC.int IntKind.i64 0,AC.int IntKind.i64 0,AC.int IntKind.i64 0,AC.bool false]else x else x)=some (AT (Fa a b (Bs a b dir bG).1 (Bs a b dir bG).2)++[B (decide (¬((Bs a b dir bG).1=0/\(Bs a b dir bG).2=0)))]):=by
    intro x V;rcases E with rfl|rfl
    · rw[Es (by decide)];exact V
    · rw[Dv (by decide),Es (by decide)];exact V
  refine fin ?_;have D:=key G.1 G.2;unfold Bs at*;cases bG
  · simp only[ao,cv,ez]at D⊢
    by_cases J:0<dt2 a.u a.w b.u b.w
    · rw[AM (show¬dt2 a.u a.w b.u b.w<=0 by omega)]
      by_cases X:0<crs a.u a.w b.u b.w*dir
      · rw[AM (show¬crs a.u a.w b.u b.w*dir<=0 by omega)]
        rw[aa ⟨J,X⟩]at D⊢;exact D
      · rw[B6 (show crs a.u a.w b.u b.w*dir<=0 by omega)]
        rw[ab (λh=>X h.2),aa J]at D⊢;exact D
    · rw[B6 (show dt2 a.u a.w b.u b.w<=0 by omega)]
      rw[ab (λh=>J h.1),ab J]at D⊢;exact D
  · simp only[ai,dc]at D⊢
    exact D
theorem Zsh {u w r:Int} (D:u.natAbs<=100000000) (E:w.natAbs<=100000000) (G:0<=r/\r<=50000000) (h: ¬(u=0/\w=0)):
    Hf [I u,I r,I (sq2 u w),I 2]=some [I (Bd u r (sq2 u w)),B true]/\Hf [I w,I r,I (sq2 u w),I 2]=some [I (Bd w r (sq2 u w)),B true]:=by
  have J:=PC h;have L:=CN D;have M:=CN E;have N:sq2 u w<=20000000000000000:=by unfold sq2;omega
  exact⟨UV (by omega) (by omega) (by omega),UV (by omega) (by omega) (by omega)⟩
theorem Q90 {a b:Spk} (D:okS a) (hb:okS b) {dir:Int} (E:dir=1\/dir= -1) (bG:Bool):
    Kb [I a.u,I a.w,I a.r,I a.h,I b.u,I b.w,I b.r,I b.h,I dir,B bG]=some (AT (CF a b dir bG)++[B (decide (¬((Bs a b dir bG).1=0/\(Bs a b dir bG).2=0)))]):=by
  have G:=(QX D.1 D.2.1 hb.1 hb.2.1).2;exact Q8x D hb E bG (λJ L h=>Zsh J L (Qbg D.2.2.1 hb.2.2.1) h)
    (Qf0 (CM D.1) (CM D.2.1) (CM hb.1) (CM hb.2.1)) (Qdk (CM D.1) (CM D.2.1) (CM hb.1) (CM hb.2.1)) G
def okT (s:Spk):Prop:=okS s/\ ¬(s.u=0/\s.w=0)/\1<=s.r
theorem Qke {a b:Spk} (G: ¬(a.u=0/\a.w=0)) (hb: ¬(b.u=0/\b.w=0)) {dir:Int} (I:dir=1\/dir= -1) (bG:Bool): ¬((Bs a b dir bG).1=0/\(Bs a b dir bG).2=0):=by
  have J:=PC G;unfold sq2 at J;unfold Bs;split
  · simp only;omega
  · rename_i hf
    have key:0<dt2 a.u a.w b.u b.w-> ¬(a.u+b.u=0/\a.w+b.w=0):=by
      intro E ⟨L,M⟩;have e1:b.u= -a.u:=by omega
      have e2:b.w= -a.w:=by omega
      unfold dt2 at E;rw[e1,e2,Int.mul_neg,Int.mul_neg]at E;omega
    split
    · rename_i c;exact key c.1
    · split
      · rename_i N D
        have:=key D;simp only;omega
      · rename_i N D
        simp only;rintro⟨L,M⟩;have e1:b.w=a.w/\a.u=b.u:=by rcases I with rfl|rfl<;>omega
        unfold dt2 at D;rw[e1.1,<-e1.2]at D;omega
theorem Zrl {u w r:Int} (E:u.natAbs<=100000000) (G:w.natAbs<=100000000) (O:1<=r/\r<=50000000) (h: ¬(u=0/\w=0)): ¬(Bd u r (sq2 u w)=0/\Bd w r (sq2 u w)=0):=by
  have S:=PC h;have T:=CN E;have U:=CN G;have V:sq2 u w<=20000000000000000:=by unfold sq2;omega
  obtain⟨I,J⟩:=Qzn u w;have key:∀x:Int,x.natAbs<=100000000->x*x<=sq2 u w->Bd x r (sq2 u w)=0->4*(x*x)<=sq2 u w:=by
    intro x L M N;obtain⟨-,-,D⟩:=Ov (x:=x) (r:=r) (n:=sq2 u w) (bn L (by decide)) (by omega) (by omega) M;rw[N]at D;obtain⟨-,D⟩:=D;have X:4*(x.natAbs*r.natAbs*(x.natAbs*r.natAbs))<=(sq2 u w).natAbs:=by
      rw[show(0:Int).natAbs=0 from rfl]at D;split at D<;>omega
    have e1:x.natAbs*r.natAbs*(x.natAbs*r.natAbs)=x.natAbs*x.natAbs*(r.natAbs*r.natAbs):=by grind
    have Y:x.natAbs*x.natAbs*1<=x.natAbs*x.natAbs*(r.natAbs*r.natAbs):=ii _ (cx (show 1<=r.natAbs by omega) (show 1<=r.natAbs by omega));have e2:((x.natAbs*x.natAbs:Nat):Int)=x*x:=fc;omega
  rintro⟨g1,g2⟩;have k1:=key u E I g1;have k2:=key w G J g2;unfold sq2 at*;omega
theorem Zo7 {a b:Spk} (D:okT a) (hb:okT b) {dir:Int} (G:dir=1\/dir= -1) (bG:Bool):okT (CF a b dir bG):=by
  have I:=Qke D.2.1 hb.2.1 G bG;have E:=OH D.1 hb.1 G bG;have L:=D.1.2.2.1;have M:=hb.1.2.2.1;have N:=D.2.2;have O:=hb.2.2;have J:1<=hf a.r b.r/\hf a.r b.r<=50000000:=by unfold hf;omega
  refine⟨Xe D.1 hb.1 G bG,?_,?_⟩
  · unfold CF Fa
    rw[ab I];exact Zrl E.1 E.2 J I
  · unfold CF Fa
    rw[ab I];exact J.1
theorem Zmh {r n:Int} (D:0<=r/\r<=50000000):Ln [I r,I n]=some [B (decide (n<=32*r-64))]:=by
  unfold Ln;rw[Zl4,Ae (x:=8*r),Ae (x:=8*r*4),Ae (x:=8*r*4-64),show 8*r*4-64=32*r-64 by omega]
theorem Q8d {a b:Spk} (G:okS a) (hb:okS b) {dir:Int} (N:dir=1\/dir= -1) (bG:Bool)
    (S:∀{r n:Int},(0<=r/\r<=50000000)->M [I r,I n]=some [B (decide (n<=32*r-64))])
    (T:Z [I a.u,I a.w,I a.r,I a.h,I b.u,I b.w,I b.r,I b.h]=some [I (crs a.u a.w b.u b.w)]) (U:(crs a.u a.w b.u b.w).natAbs<=5000000000000000):
    Qbw M Z [.vC BE l,I a.u,I a.w,I a.r,I a.h,I b.u,I b.w,I b.r,I b.h,B bG,I dir]=some [.vC BE l,B (decide (DX a b dir bG)),I dir]:=by
  have V:0<=mn a.r b.r/\mn a.r b.r<=50000000:=by
    have X:=G.2.2.1;have Y:=hb.2.2.1;unfold mn;split<;>omega
  obtain⟨a1,a2,-⟩:=G;obtain⟨b1,b2,-⟩:=hb;have J:=ES a1 b1;have L:=ES a2 b2;have q1:=CN J;have q2:=CN L;have e:O (O ((a.u-b.u)*(a.u-b.u))+O ((a.w-b.w)*(a.w-b.w)))=sq2 (a.u-b.u) (a.w-b.w):=by
    unfold sq2;generalize(a.u-b.u)*(a.u-b.u)=x at*;generalize(a.w-b.w)*(a.w-b.w)=y at*;rw[Ae (x:=x),Ae (x:=y),Ae]
  have E:O (crs a.u a.w b.u b.w*dir)=crs a.u a.w b.u b.w*dir:=by rcases N with rfl|rfl<;>exact Ae
  rw[Q6s,D8 J (by decide),D8 L (by decide),e];cases bG
  · simp only[Bool.not_false,ai,T,ak,E0,ER,gA,jA,wA,bA,E,S V,Pb]
    by_cases c:0<crs a.u a.w b.u b.w*dir
    · rw[B6 (show crs a.u a.w b.u b.w*dir>0 from c)]
      by_cases D:sq2 (a.u-b.u) (a.w-b.w)<=32*mn a.r b.r-64
      · rw[ah D,ah (show DX a b dir false from⟨rfl,c,D⟩)]
      · rw[aj D,aj (λh:DX a b dir false=>D h.2.2)]
    · rw[AM (show¬crs a.u a.w b.u b.w*dir>0 from c),aj (λh:DX a b dir false=>c h.2.1)]
  · simp only[i9,ao]
    rw[aj (λh:DX a b dir true=>by cases h.1)]
theorem Q5f {out:Rw} {a b:Spk} (D:okS a) (hb:okS b) {dir:Int} (E:dir=1\/dir= -1) (bG:Bool):
    Js [.vC BE out,I a.u,I a.w,I a.r,I a.h,I b.u,I b.w,I b.r,I b.h,B bG,I dir]=some [.vC BE out,B (decide (DX a b dir bG)),I dir]:=
  Q8d D hb E bG Zmh (Qf0 (CM D.1) (CM D.2.1) (CM hb.1) (CM hb.2.1)) (QX D.1 D.2.1 hb.1 hb.2.1).2
theorem Qjb {dir:Int} (D:dir=1\/dir= -1):∀(n k:Nat) (bG:Bool) (a b:Spk) (out:List Spk),k<=16->k<n->okT a->okT b->out.length+2^k<=1000000->
    LC n [.vC BE (out.map AT),I a.u,I a.w,I a.r,I a.h,I b.u,I b.w,I b.r,I b.h,B bG,I (16-k:Int),I dir]=some [.vC BE ((out++CW dir k bG a b).map AT),I dir]
  |0,k,_,_,_,_,_,J,_,_,_=>by omega
  |n+1,0,bG,a,b,out,_,_,E,hb,L=>by
    show RC _ _ _ _=_;rw[Qk5,AM (by omega),Dv]
    · unfold CW
      rw[bh];rfl
    · exact ef (by simp only[am,af,bf,bm];omega)
  |n+1,k+1,bG,a,b,out,J,O,E,hb,L=>by
    have G:=Zo7 E hb D bG;have M:=Qke E.2.1 hb.2.1 D bG;have e3:2^(k+1)=2^k+2^k:=by rw[dx];omega
    have S:0<2^k:=dw _;have T:=(Mx k false a (CF a b dir bG) (dir:=dir)).2;have i1:=Qjb D n k false a (CF a b dir bG) out (by omega) (by omega) E G (by omega);have N:=Qjb D n k false (CF a b dir bG) b (out++CW dir k false a (CF a b dir bG)) (by omega) (by omega) G hb (by rw[am];omega);have e1:=Q5f (out:=out.map AT) E.1 hb.1 D bG;have e2:=Q90 E.1 hb.1 D bG;rw[ah M]at e2;show RC (LC n) Kb Js _=_;generalize LC n=U at*;generalize Kb=V at*;generalize Js=X at*;rw[Qk5,B6 (by omega),Ae,show(16-((k+1:Nat):Int)+1)=16-(k:Int) by omega];unfold CW;generalize CF a b dir bG=m at*;generalize CW dir k false a m=Y at*;generalize CW dir k false m b=p2 at*;simp only[aq,ay,AT]at e2;simp only[e1,e2,ak,E0,IT,IF,L3,NB,ER,gA,jA,wA,bA,Pb,i1,N,RV];by_cases c:DX a b dir bG
    · rw[aa c,Es (by simp[c]),Dv]
      · rw[bh];rfl
      · exact ef (by simp only[am,af,bf,bm];omega)
    · rw[ab c,Dv (by simp[c]),ai,f6]
theorem Quq (E:bd 1048576 D.ce) (G:bd 1048576 a) (I:64<=sq2 (dU D a) (dW D a)):okT (Bu D a):=by
 obtain⟨S,T,J,L⟩:=Oy E G;have e:sq2 (dU D a*16) (dW D a*16)=256*sq2 (dU D a) (dW D a):=by unfold sq2;grind
 refine⟨LH E G,?_,?_⟩
 ·show¬(dU D a*16=0/\dW D a*16=0);rintro⟨g1,g2⟩;rw[show dU D a=0 by omega,show dW D a=0 by omega]at I;simp[sq2]at I
 ·show 1<=FI _;obtain⟨n,M⟩:=bj J;rw[M]at L⊢;obtain⟨r,-,N,O,-⟩:=RW (n:=n) (by omega);rw[Qs (QO N O)];have:1<=r:=by
   rcases dn r with h|h
   ·subst h;omega
   ·exact h
  split<;>omega
theorem Q28 {n:Nat} (J:n<=2251799813685248):Ht [I n,I 2]=some [I (FI n),B true]:=by
 obtain⟨r,D,E,G⟩:=Qoy (n:=n) (mode:=2) (by omega) (.inr rfl);rw[D,Qs (QO E G)];congr 3;by_cases c:r*r+r<n
 ·rw[aa (.inr ⟨rfl,c⟩),aa c]
 ·rw[ab (by simp;omega),ab c]
theorem Znc (N:∃v,V (Ag D)=some [B v]/\(v=true↔By D)) (h:By D)
  (O:D.aP=3->W (Ag D)=some [I (dU D D.fr*16),I (dW D D.fr*16),I 0,I (plH D.aG D.fr*16),I (dU D D.to*16),I (dW D D.to*16),I 0,I (plH D.aG D.to*16)])
  (J:∀p:Pt,D.aP=3->(p=D.fr\/p=D.to)->Y [I (dU D p*16),I (dW D p*16),I 0,I (plH D.aG p*16),I (dU D p*16),I (dW D p*16),I 0,I (plH D.aG p*16)]=some [I (sq2 (dU D p*16) (dW D p*16))])
  (L:∀p:Pt,D.aP=3->(p=D.fr\/p=D.to)->Z [I (sq2 (dU D p*16) (dW D p*16)),I 2]=some [I (FI (sq2 (dU D p*16) (dW D p*16))),B true])
  (S:D.aP=3->M (.vC BE [AT (Bu D D.fr)]::AT (Bu D D.fr)++AT (Bu D D.to)++[B D.bG,I 0,I D.dir])=some [.vC BE ((BS D).map AT),I D.dir]):
  Qhd M Z Y W V (Ag D)=if D.aP=3 then some [.vC BE ((BS D).map AT),B true]else some [.vC BE [],B false]:=by
 obtain⟨v,T,G⟩:=N;rw[Znt];by_cases E:D.aP=3
 ·have e:=O E;have p:=S E;have U:=J D.fr E (.inl rfl);have X:=J D.to E (.inr rfl);have q1:=L D.fr E (.inl rfl);have q2:=L D.to E (.inr rfl);simp only[aq,ay,Bu,AT]at p;simp only[go_sem,T,e,U,X,q1,q2,p];rw[ab (by simp[E]),ab (by simp[G.2 h]),aa E]
 ·simp only[go_sem];rw[aa E,ab E]
theorem Q4c (h:By D):Mb (Ag D)=if D.aP=3 then some [.vC BE ((BS D).map AT),B true]else some [.vC BE [],B false]:=by
 have hb:D.aP=3->∀p:Pt,(p=D.fr\/p=D.to)->bd 1048576 D.ce/\bd 1048576 p:=by
  intro G p I;obtain⟨-,L,M,N⟩:=h;obtain⟨-,-,E,-⟩:=N G;rcases I with rfl|rfl
  ·exact⟨E,L⟩
  ·exact⟨E,M⟩
 refine Znc (Qhm D) h (λG=> ?_) (λp G I=> ?_) (λp G I=> ?_) λG=> ?_
 ·obtain⟨-,L,M,N⟩:=h;obtain⟨I,-,E,-⟩:=N G;exact Q1q I L M E
 ·obtain⟨E,J⟩:=hb G p I;obtain⟨g1,g2,-⟩:=Oy E J;exact Qdk (bn g1 (by decide)) (bn g2 (by decide)) (bn g1 (by decide)) (bn g2 (by decide))
 ·obtain⟨E,J⟩:=hb G p I;obtain⟨-,-,O,S⟩:=Oy E J;obtain⟨n,T⟩:=bj O;rw[T]at S⊢;exact Q28 (by omega)
 ·obtain⟨-,L,M,N⟩:=h;obtain⟨I,U,E,V,X,-⟩:=N G;have:=Qjb U 20 16 D.bG (Bu D D.fr) (Bu D D.to) [Bu D D.fr] (by omega) (by omega) (Quq E L V) (Quq E M X) (show 1+2^16<=1000000 by decide);exact this
theorem Zh2 {u w h pl:Int} (E:BL pl):Kq [I u,I w,I h,I pl]=some (ptR (spP pl u w h)):=by
 show Qb4 EL _=_;have D:=Qad pl;generalize EL=M at*;rw[Ziw];rcases E with rfl|rfl|rfl
 ·have e:axI 17=(0,1,2):=rfl;rw[e]at D;rw[D];rfl
 ·have e:axI 18=(2,0,1):=rfl;rw[e]at D;rw[D];rfl
 ·have e:axI 19=(1,2,0):=rfl;rw[e]at D;rw[D];rfl
theorem Q6q {α:Type} (pre rest:List α) (x z:α):(pre++x::rest).set pre.length z=(pre++[z])++rest:=by
 rw[List.set_append_right _ _ (cq _),Nat.sub_self];simp
def DC {α:Type} (f:Nat->α) (z:α) (n i:Nat):List α:=(List.range i).map f++List.replicate (n-i) z
theorem Qy5 {α:Type} (f:Nat->α) (z:α) {n i:Nat} (h:i<=n):(DC f z n i).length=n:=by unfold DC;simp;omega
theorem Qu1 {α:Type} (f:Nat->α) (z:α) {n i:Nat} (h:i<n):(DC f z n i).set i (f i)=DC f z n (i+1):=by
 unfold DC;have e:n-i=(n-(i+1))+1:=by omega
 rw[e,ij];have:=Q6q ((List.range i).map f) (List.replicate (n-(i+1)) z) z (f i);rw[af,List.length_range]at this;rw[this,List.range_succ,bh];rfl
theorem Qno {α:Type} (f:Nat->α) (z:α) (n:Nat):DC f z n n=(List.range n).map f:=by unfold DC;simp
theorem Q6o {α:Type} (l:List α) (d:α):(List.range l.length).map (λi=>l.getD i d)=l:=by
 apply List.ext_getElem
 ·simp
 ·intro i E D;simp[D]
def Ig:Spk:=⟨0,0,0,0⟩
theorem Qnh {MS MP MF MK MV:Fn} {it:Itm} {l:List Spk} {cu cw:Int} (S:l.length<=65537) (L:cu.natAbs<=16777216) (M:cw.natAbs<=16777216) (G:∀s∈l,okS s)
  (O:∀{u w h:Int},MS [I u,I w,I h,I it.aG]=some (ptR (spP it.aG u w h))) {f:Nat->List AC} (hf:∀i,f i=ptR (spP it.aG (cu+(l.getD i Ig).u) (cw+(l.getD i Ig).w) (l.getD i Ig).h)):
  ∀(k i:Nat),i+k=l.length->An (Lt MS MP MF MK MV) (.vC kPt (DC f [I 0,I 0,I 0] l.length i)::I cu::I cw:: .vC BE (l.map AT)::I l.length::I i::Ag it)=
   some (1,[.vC kPt ((List.range l.length).map f)])
 |0,i,T=>by
  refine AG ?_ (by simp);rw[Qtn];simp only[go_sem];rw[ab,show i=l.length by omega,Qno]
 |k+1,i,T=>by
  have D:i<l.length:=by omega
  have U:Lt MS MP MF MK MV (.vC kPt (DC f [I 0,I 0,I 0] l.length i)::I cu::I cw:: .vC BE (l.map AT)::I l.length::I i::Ag it)=
    some (0, .vC kPt (DC f [I 0,I 0,I 0] l.length (i+1))::I cu::I cw:: .vC BE (l.map AT)::I l.length::I (i+1:Nat)::Ag it):=by
   rw[Qtn];have V:nth [] (l.map AT) i=AT l[i]:=DF _ _ _ _ D;have X:=G _ (bv D);have N:=Qy5 f [I 0,I 0,I 0] (show i<=l.length by omega);have J:=hf i;rw[show l.getD i Ig=l[i] by simp[D]]at J;have E:=Qu1 f [I 0,I 0,I 0] D;rw[J]at E;generalize l[i]=s at*;obtain⟨s1,s2,-⟩:=X;simp only[go_sem,ag,af,V];rw[aa,aa,Ae (x:=cu+s.u),Ae (x:=cw+s.w),Ae (x:=(i:Int)+1)];simp only[O,go_sem,N];rw[aa,E];rfl
  rw[AR U];exact Qnh S L M G O hf k (i+1) (by omega)
theorem Zj9 {MS G J L M:Fn} {S:List Spk} {f:Pt} {u w h:Int} (O:M (Ag D)=some [B true])
  (T:L (Ag D)=some [.vC BE (S.map AT),B true]) (hf:J [I D.ce.x,I D.ce.y,I D.ce.z]=some (ptR f)) (E:G [I f.x,I f.y,I f.z,I D.aG]=some [I u,I w,I h]) (V:S.length<=65537)
  (U:N [.vC kPt (List.replicate S.length [I 0,I 0,I 0]),I u,I w, .vC BE (S.map AT),I S.length,I 0,I D.aP,I D.block,I D.fr.x,I D.fr.y,I D.fr.z,I D.to.x,I D.to.y,I D.to.z,I D.aG,I D.ce.x,I D.ce.y,I D.ce.z,I D.dir,B D.bG,I D.aZ,B D.perRev,I D.side,I D.radius,I D.bH,I D.n,I D.aS,B D.on]=some (1,[.vC kPt l])):
  Ro MS G J L M N (Ag D)=some [.vC kPt l,B true]:=by
 rw[SU];simp only[go_sem,O,T,hf,E,af,ag,U];rw[ab (by simp),ab (by simp),aa]
theorem Zr4 (hV:∃v,V (Ag D)=some [B v]/\(v=true↔By D)) (h:By D)
  (L:W (Ag D)=if D.aP=3 then some [.vC BE ((BS D).map AT),B true]else some [.vC BE [],B false])
  (O:∀{p:Pt},bd 100000000 p->Y [I p.x,I p.y,I p.z]=some (ptR (At p))) (hP:BL D.aG->∀{p:Pt},Z [I p.x,I p.y,I p.z,I D.aG]=some [I (plU D.aG p),I (plW D.aG p),I (plH D.aG p)])
  (hS:BL D.aG->∀{u w h:Int},M [I u,I w,I h,I D.aG]=some (ptR (spP D.aG u w h))):
  Ro M Z Y W V (An (Lt M Z Y W V)) (Ag D)=some [.vC kPt ((BR D).map ptR),B true]:=by
 obtain⟨v,hv,S⟩:=hV;rw[SU];have T:=S.2 h;subst T;obtain⟨-,h1,h2,ha⟩:=id h;by_cases E:D.aP=3
 ·obtain⟨hp,hd,hc,-⟩:=ha E;rw[aa E]at L;obtain⟨c1,c2,c3⟩:=EC (pl:=D.aG) (Fb hc);have G:=(Qe D).2;have U:=Qnh (MS:=M) (MP:=Z) (MF:=Y) (MK:=W) (MV:=V) (it:=D) (l:=BS D) (cu:=plU D.aG (At D.ce)) (cw:=plW D.aG (At D.ce)) G c1 c2 (Qd1 h E) (hS hp)
   (f:=λi=>ptR (IR D ((BS D).getD i Ig))) (λ_=>rfl) (BS D).length 0 (by omega)
  have J:(List.range (BS D).length).map (λi=>ptR (IR D ((BS D).getD i Ig)))=((BS D).map (IR D)).map ptR:=by
   rw[List.map_map]
   conv=>rhs;rw[<-Q6o (BS D) Ig]
   rw[List.map_map];rfl
  rw[J]at U;have X:DC (λi=>ptR (IR D ((BS D).getD i Ig))) [I 0,I 0,I 0] (BS D).length 0=List.replicate (BS D).length [I 0,I 0,I 0]:=by unfold DC;simp
  rw[X]at U;have hf:=O (AP hc (by decide));have a0:= @hP hp (At D.ce);have:=Zj9 (MS:=M) (N:=An (Lt M Z Y W V)) hv L hf a0 G U;rw[SU]at this;unfold BR;rw[aa E];exact this
 ·rw[ab E]at L;have f1:=O (AP h1 (by decide));have f2:=O (AP h2 (by decide));unfold BR;rw[ab E];simp only[go_sem,hv,L,f1,f2];simp
theorem Ztk (h:By D):NL (Ag D)=some [.vC kPt ((BR D).map ptR),B true]:=
 Zr4 (Qhm D) h (Q4c h) Quu (λE=>Qog E) (λE=>Zh2 E)
theorem Zol {c a:Pt} (D:bd B24 c) (E:bd B24 a) (G:a≠c) (L:0<=d/\d<=33554432)
  (J:∀{x:Int},x.natAbs<=33554432*4->x*x<=sqD a c->M [I x,I d,I (sqD a c),I 2]=some [I (Bd x d (sqD a c)),B true]/\(Bd x d (sqD a c)).natAbs<=268435456):
  Qja M [I c.x,I c.y,I c.z,I a.x,I a.y,I a.z,I d]=some (ptR (Ba c a d)++[B true]):=by
 obtain⟨T,U,V⟩:=Qgq a c;have N:=ES E.1 D.1;have O:=ES E.2.1 D.2.1;have S:=ES E.2.2 D.2.2;obtain⟨X,b1⟩:=J (x:=a.x-c.x) (bn N (by decide)) T;obtain⟨Y,b2⟩:=J (x:=a.y-c.y) (bn O (by decide)) U;obtain⟨n3,b3⟩:=J (x:=a.z-c.z) (bn S (by decide)) V;have h6: ¬d<0:=gm.2 L.1;have h7: ¬d>33554432:=gm.2 L.2;rw[Q53,Qzf (AP E (by decide)) (AP D (by decide)),D8 N (by decide),D8 O (by decide),D8 S (by decide)];simp only[go_sem,X,Y,n3];rw[ab (λh=>G (BU.2 ⟨h.1,h.2.1,h.2.2.1⟩)),ab h6,ab h7];rw[D8 (LE D.1 b1) (by decide),D8 (LE D.2.1 b2) (by decide),D8 (LE D.2.2 b3) (by decide)];rfl
theorem VE {c a:Pt} (E:bd B24 c) (G:bd B24 a) (D:a≠c) (L:0<=d/\d<=33554432):
  FN [I c.x,I c.y,I c.z,I a.x,I a.y,I a.z,I d]=some (ptR (Ba c a d)++[B true]):=by
 have N:sqD a c≠0:=λh=>D (OB.1 h);have O:=KW a c;have S:=KN (AP G (by decide)) (AP E (by decide)) (show 67108864<=67108864 by omega);refine Zol E G D L fun{x} J M=> ?_;obtain⟨-,g2,-⟩:=Ov J (r:=d) (by omega) (n:=sqD a c) (by omega) M;exact⟨UV (bn J (by decide)) (by omega) (by omega),g2⟩
theorem Qna {p c q:Pt} (D:bd B24 p) (E:bd B24 c) (G:bd B24 q):FV [I p.x,I p.y,I p.z,I c.x,I c.y,I c.z,I q.x,I q.y,I q.z]=some [I (Cz p c q)]:=by
 have hb:=Qru D E G;have g1:=CN hb.1;have g2:=CN hb.2.1;have J:=CN hb.2.2;unfold FV;unfold bd B24 at D E G;have w:∀u v c:Int,u.natAbs<=16777216->v.natAbs<=16777216->c.natAbs<=16777216->O (O (u+v)-O (2*c))=u-c+(v-c):=by
  intro u v c L M N;rw[Ae (x:=u+v),Ae (x:=2*c),Ae];omega
 rw[Zlo,w _ _ _ D.1 G.1 E.1,w _ _ _ D.2.1 G.2.1 E.2.1,w _ _ _ D.2.2 G.2.2 E.2.2];have e1:p.x-c.x+(q.x-c.x)=(Dx p c q).x:=rfl;have e2:p.y-c.y+(q.y-c.y)=(Dx p c q).y:=rfl;have e3:p.z-c.z+(q.z-c.z)=(Dx p c q).z:=rfl;rw[e1,e2,e3];unfold Cz Hj;generalize(Dx p c q).x*(Dx p c q).x=u at*;generalize(Dx p c q).y*(Dx p c q).y=v at*;generalize(Dx p c q).z*(Dx p c q).z=w at*;rw[Ae (x:=u),Ae (x:=0+u),Ae (x:=v),Ae (x:=0+u+v),Ae (x:=w),Ae,Int.zero_add]
open Classical in
theorem Zgp {a c b:Pt} (O:bd B24 a) (S:bd B24 c) (hb:bd B24 b) (D:a≠c) (E:b≠c) (L:0<=k/\k<=16000) (hd:0<=d/\d+u<=33554432) (he:0<u) (G:u.fdiv (2^min (Int.toNat 1) IntKind.i64.bits)=v)
  (l3:0<=Au a c/\Au a c<=268435456) (l4:0<=Au c b/\Au c b<=268435456)
  (T:∀{a:Pt} {d:Int},bd B24 a->a≠c->0<=d/\d<=33554432->Z [I c.x,I c.y,I c.z,I a.x,I a.y,I a.z,I d]=some (ptR (Ba c a d)++[B true]))
  (X:∀{p q:Pt},bd B24 p->bd B24 q->M [I p.x,I p.y,I p.z,I c.x,I c.y,I c.z,I q.x,I q.y,I q.z]=some [I (Cz p c q)]):
  K2 M Z Y [I k,I (mn (Au a c) (Au c b)-2),I d,I u,I a.x,I a.y,I a.z,I c.x,I c.y,I c.z,I b.x,I b.y,I b.z]=
   some (0,[I k,I (mn (Au a c) (Au c b)-2),I (if Cu a c b k (d+u)then d+u else d),I v,I a.x,I a.y,I a.z,I c.x,I c.y,I c.z,I b.x,I b.y,I b.z]):=by
 obtain⟨m1,m2⟩:=MY (Au a c) (Au c b);have a0:0<=16*k*k/\16*k*k<=4096000000:=by
  have:=d6 (show 16*k<=256000 by omega) L.2 L.1 (by omega);exact⟨ga (by omega) L.1,by omega⟩
 rw[Qwp,G,Ae (x:=d+u),B6 he,Ae (x:=16*k),Ae (x:=16*k*k)];by_cases h:d+u>mn (Au a c) (Au c b)-2
 ·rw[B6 h,ab (λN:Cu a c b k (d+u)=>by have:=N.1;omega)]
 ·rw[AM h];have k1:bd B24 (Ba c a (d+u)):=Ga S O D (by omega);have k2:bd B24 (Ba c b (d+u)):=Ga S hb E (by rw[Lc b c];omega);have U:=T (d:=d+u) O D (by omega);have V:=T (d:=d+u) hb E (by omega);simp only[aq,ay,ptR]at U V;simp only[U,V,go_sem,X k1 k2];by_cases J:Cz (Ba c a (d+u)) c (Ba c b (d+u))<=16*k*k
  ·rw[aa J,aa (show Cu a c b k (d+u)from⟨by omega,J⟩)]
  ·rw[ab J,ab (λN:Cu a c b k (d+u)=>J N.2)]
open Classical in
theorem Qlz {J L M:Fn} {a c b:Pt} {D m:Int}
  (E : ∀ {d e bit : Int}, 0 <= d /\ d + e <= 33554432 -> 0 < e -> e.fdiv (2 ^ min (Int.toNat 1) IntKind.i64.bits) = bit -> K2 J L M [I D, I m, I d, I e, I a.x, I a.y, I a.z, I c.x, I c.y, I c.z, I b.x, I b.y, I b.z] =
   some (0,[I D,I m,I (if Cu a c b D (d+e)then d+e else d),I bit,I a.x,I a.y,I a.z,I c.x,I c.y,I c.z,I b.x,I b.y,I b.z])):
  ∀(k:Nat) (d:Int),0<=d/\d+((2^(k+1):Nat):Int)<=33554432->
  An (K2 J L M) [I D,I m,I d,I ((2^k:Nat):Int),I a.x,I a.y,I a.z,I c.x,I c.y,I c.z,I b.x,I b.y,I b.z]=some (1,[I (DY (Cu a c b D) k d)])
 |0,d,N=>by
  simp only[dl,Nat.pow_one]at N;have G:∀d:Int,An (K2 J L M) [I D,I m,I d,I 0,I a.x,I a.y,I a.z,I c.x,I c.y,I c.z,I b.x,I b.y,I b.z]=some (1,[I d]):=by
   intro d;refine AG ?_ (by simp);rw[Qwp];rw[AM (by omega)]
  have O:=E (d:=d) (e:=1) (by omega) (by omega) Qhu;have e:((2^0:Nat):Int)=1:=rfl;rw[e,AR O,G];rfl
 |k+1,d,N=>by
  have S:0<2^(k+1):=dw _;have e3:2^(k+1+1)=2^(k+1)+2^(k+1):=by rw[dx 2 (k+1)];omega
  rw[e3]at N;have O:=E (d:=d) (e:=((2^(k+1):Nat):Int)) (by omega) (by omega) (Tx k);rw[AR O];unfold DY;refine Qlz E k _ ?_;split<;>omega
theorem Zlv {a c b:Pt}
  (L:M [I a.x,I a.y,I a.z,I c.x,I c.y,I c.z]=some [I (Au a c)]) (O:M [I c.x,I c.y,I c.z,I b.x,I b.y,I b.z]=some [I (Au c b)])
  (T:0<=Au a c/\Au a c<=268435456) (U:0<=Au c b/\Au c b<=268435456)
  (S:a≠c->b≠c->N [I k,I (mn (Au a c) (Au c b)-2),I 0,I 16777216,I a.x,I a.y,I a.z,I c.x,I c.y,I c.z,I b.x,I b.y,I b.z]=some (1,[I (DY (Cu a c b k) 24 0)])):
  Qge Z Y M N [I a.x,I a.y,I a.z,I c.x,I c.y,I c.z,I b.x,I b.y,I b.z,I k]=some [I (Ca a c b k)]:=by
 rw[Zbc];have m3:0<=mn (Au a c) (Au c b)/\mn (Au a c) (Au c b)<=268435456:=by unfold mn;split<;>omega
 unfold Ca;by_cases G:a=c
 ·rw[aa (.inl G)];have D:=BU.1 G;simp only[go_sem];rw[aa ⟨D.1,D.2.1,D.2.2,trivial⟩]
 ·by_cases D:b=c
  ·rw[aa (.inr D)];have E:=BU.1 D;simp only[go_sem];rw[ab (λh=>G (BU.2 ⟨h.1,h.2.1,h.2.2.1⟩)),aa ⟨E.1,E.2.1,E.2.2,trivial⟩]
  ·have J:=S G D;simp only[go_sem,L,O];rw[Ae];simp only[J,go_sem];rw[ab (λh=>G (BU.2 ⟨h.1,h.2.1,h.2.2.1⟩)),ab (λh=>D (BU.2 ⟨h.1,h.2.1,h.2.2.1⟩)),ab (show¬(a=c\/b=c)from λh=>h.elim G D)];by_cases E:DY (Cu a c b k) 24 0<16
   ·rw[aa E,aa E]
   ·rw[ab E,ab E]
theorem Zqk {a c b:Pt} (L:bd B24 a) (G:bd B24 c) (hb:bd B24 b) (M:0<=k/\k<=16000):
  JI [I a.x,I a.y,I a.z,I c.x,I c.y,I c.z,I b.x,I b.y,I b.z,I k]=some [I (Ca a c b k)]:=by
 have A:=AP L (show B24<=67108864 by decide);have C:=AP G (show B24<=67108864 by decide);have D:=AP hb (show B24<=67108864 by decide);exact Zlv (YB A C) (YB C D) (FM A C) (FM C D)
  λN O=>Qlz (λJ he E=>Zgp L G hb N O M J he E (FM A C) (FM C D) (λhb S J=>VE G hb S J) λT U=>Qna T G U) 24 0 (by decide)
theorem Zd9 {p c q:Pt} (T:M [I p.x,I p.y,I p.z,I c.x,I c.y,I c.z,I q.x,I q.y,I q.z]=some [I (Cz p c q)]):
  ∀(k:Nat) (n:Int),GW n->64<=n*2^k->An (OA M) [I n,I p.x,I p.y,I p.z,I c.x,I c.y,I c.z,I q.x,I q.y,I q.z]=some (1,[I (Je (Cz p c q) k n)]):=by
 have G:∀n:Int,GW n->OA M [I n,I p.x,I p.y,I p.z,I c.x,I c.y,I c.z,I q.x,I q.y,I q.z]=if n<64/\Cz p c q>16*n*n*n*n*4*4 then some (0,[I (n*2),I p.x,I p.y,I p.z,I c.x,I c.y,I c.z,I q.x,I q.y,I q.z])else some (1,[I n]):=by
  intro n E;rw[Zqu];simp only[go_sem,T];have N:O (O (O (O (O (O (16*n)*n)*n)*n)*4)*4)=16*n*n*n*n*4*4/\O (n*2)=n*2:=by
   rcases E with rfl|rfl|rfl|rfl|rfl|rfl<;>decide
  rw[N.1,N.2];by_cases J:n<64
  ·rw[aa J];by_cases L:Cz p c q>16*n*n*n*n*4*4
   ·rw[aa L,aa ⟨J,L⟩]
   ·rw[ab L,ab (λh=>L h.2)]
  ·rw[ab J,ab (λh=>J h.1)]
 intro k;induction k with
 |zero=>
  intro n E D;have:n=64:=by rcases E with rfl|rfl|rfl|rfl|rfl|rfl<;>simp at D⊢
  subst this;refine AG ?_ (by simp);rw[G _ E,ab];rfl
 |succ k U=>
  intro n E D;unfold Je;by_cases h:n<64/\Cz p c q>16*n*n*n*n*4*4
  ·rw[aa h];have S:=G n E;rw[aa h]at S;rw[AR S];refine U (n*2) ?_ ?_
   ·rcases E with rfl|rfl|rfl|rfl|rfl|rfl<;>simp[GW]at h⊢
   ·rw[Int.pow_succ]at D;rw[Int.mul_assoc,iv 2];exact D
  ·rw[ab h];refine AG ?_ (by simp);rw[G _ E,ab h]
theorem Zsu {p c q:Pt} (D:bd B24 p) (E:bd B24 c) (G:bd B24 q):IH [I p.x,I p.y,I p.z,I c.x,I c.y,I c.z,I q.x,I q.y,I q.z]=some [I (HD p c q)]:=by
 have J:=Zd9 (Qna D E G) 5 2 (.inl rfl) (by decide);show W0 _ (An (OA _)) _=_;generalize FV=M at*;rw[Q96];simp only[go_sem,J];rfl
theorem Q1f {α:Type} (d x:α):∀(l:List α) (i:Nat),i<l.length->nth d (l.set i x) i=x
 |a::l,0,_=>rfl
 |a::l,i+1,h=>by simp only[List.set_cons_succ,nth];exact Q1f d x l i (by simpa using h)
theorem Zgy {n i p c q:Int} (D:2<=n/\n<=64) (E:0<=i/\i<=n) (G:p.natAbs<=B24) (J:c.natAbs<=B24) (L:q.natAbs<=B24):
  Ee [I (O (O (O (O (n-i)*O (n-i))*O (p-c))+O (O (i*i)*O (q-c)))),I 1,I (O (n*n)),I 2]=some [I (C9 ((n-i)*(n-i)*(p-c)+i*i*(q-c)) (n*n)),B true]:=by
 have M:0<n*n/\n*n<=4096:=⟨Int.mul_pos (by omega) (by omega),by have:=d6 D.2 D.2 (by omega) (by omega);omega⟩;have N:0<=(n-i)*(n-i)/\(n-i)*(n-i)<=4096:=⟨Ec _,by have:=d6 (show n-i<=64 by omega) (show n-i<=64 by omega) (by omega) (by omega);omega⟩;have S:0<=i*i/\i*i<=4096:=⟨Ec _,by have:=d6 (show i<=64 by omega) (show i<=64 by omega) (by omega) (by omega);omega⟩;unfold B24 at*;rw[Ae (x:=n-i),Ae (x:=(n-i)*(n-i)),Ae (x:=p-c),Ae (x:=i*i),Ae (x:=q-c),Ae (x:=n*n)];have m1:=D6 (x:=(n-i)*(n-i)) (y:=p-c) (A:=4096) (B:=33554432) (by omega) (by omega);have m2:=D6 (x:=i*i) (y:=q-c) (A:=4096) (B:=33554432) (by omega) (by omega);generalize(n-i)*(n-i)*(p-c)=u at*;generalize i*i*(q-c)=v at*;rw[Ae (x:=u),Ae (x:=v),Ae];have h:=Y8 (a:=u+v) (b:=1) (c:=n*n) (by unfold i64;omega) (by unfold i64;omega) (by omega) (by rw[show(1:Int).natAbs=1 from rfl,Nat.mul_one];omega);rw[Int.mul_one]at h;exact h
theorem Qw7 {MR MP MT MC:Fn} {p c q:Pt} {N:Nat} (T:2<=N/\N<=64) (E:bd B24 p) (G:bd B24 c) (J:bd B24 q)
  (M:∀{i p c q:Int},(0<=i/\i<=N)->p.natAbs<=B24->c.natAbs<=B24->q.natAbs<=B24->MR [I (O (O (O (O ((N:Int)-i)*O ((N:Int)-i))*O (p-c))+O (O (i*i)*O (q-c)))),I 1,I (O ((N:Int)*(N:Int))),I 2]=some [I (C9 (((N:Int)-i)*((N:Int)-i)*(p-c)+i*i*(q-c)) ((N:Int)*(N:Int))),B true])
  {f:Nat->List AC} (hf:∀i:Nat,f i=ptR (EV N i p c q)):
  ∀(k i:Nat),i+k=N+1->An (L5 MR MP MT MC) [.vC kPt (DC f [I 0,I 0,I 0] (N+1) i),I N,I (N+1:Nat),I i,I c.x,I c.y,I c.z,I p.x,I p.y,I p.z,I q.x,I q.y,I q.z]=
   some (1,[.vC kPt ((List.range (N+1)).map f)])
 |0,i,U=>by
  obtain rfl:i=N+1:=by omega
  refine AG ?_ (by simp);rw[Qkl,Qno,AM (by omega)]
 |k+1,i,U=>by
  have b1:=HA (n:=N) (i:=i) (A:=B24) (by omega) (by omega) E.1 G.1 J.1;have b2:=HA (n:=N) (i:=i) (A:=B24) (by omega) (by omega) E.2.1 G.2.1 J.2.1;have b3:=HA (n:=N) (i:=i) (A:=B24) (by omega) (by omega) E.2.2 G.2.2 J.2.2;have V:=M (i:=i) (by omega) E.1 G.1 J.1;have X:=M (i:=i) (by omega) E.2.1 G.2.1 J.2.1;have Y:=M (i:=i) (by omega) E.2.2 G.2.2 J.2.2;have hs:L5 MR MP MT MC [.vC kPt (DC f [I 0,I 0,I 0] (N+1) i),I N,I (N+1:Nat),I i,I c.x,I c.y,I c.z,I p.x,I p.y,I p.z,I q.x,I q.y,I q.z]=
    some (0,[.vC kPt (DC f [I 0,I 0,I 0] (N+1) (i+1)),I N,I (N+1:Nat),I (i+1:Nat),I c.x,I c.y,I c.z,I p.x,I p.y,I p.z,I q.x,I q.y,I q.z]):=by
   have hlen:=Qy5 f [I 0,I 0,I 0] (show i<=N+1 by omega);have D:=Qu1 f [I 0,I 0,I 0] (show i<N+1 by omega);rw[hf i]at D;generalize DC f [I 0,I 0,I 0] (N+1) i=l at*;have L:∀x:List AC,nth [] (l.set i x) i=x:=λx=>Q1f _ _ _ _ (by omega);rw[Qkl];have S:(0:Int)<=(i:Int)/\(i:Int)<((N+1:Nat):Int):=by omega
   simp only[go_sem,V,X,Y,ag,hlen,aa S,List.set_set,L,gd];rw[aa];unfold JT B24 at b1 b2 b3;rw[Ae (x:=c.x+_),Ae (x:=c.y+_),Ae (x:=c.z+_),Ae (x:=(i:Int)+1)];rw[<-D];rfl
  rw[AR hs];exact Qw7 T E G J M hf k (i+1) (by omega)
theorem Zf6 {a c b:Pt} (G:bd B24 a) (D:bd B24 c) (hb:bd B24 b) (ht:0<=k/\k<=16000):
  Np [I a.x,I a.y,I a.z,I c.x,I c.y,I c.z,I b.x,I b.y,I b.z,I k]=some [.vC kPt ((Ez a c b k).map ptR)]:=by
 show Qe1 _ _ _ _ (An (L5 _ _ _ _)) _=_;have e1:=Zqk G D hb ht;have hR:= @Zgy;generalize JI=V at*;unfold Ez;by_cases h:Ca a c b k=0
 ·rw[aa h];rw[Qu4];simp only[go_sem,e1];rw[aa h];rfl
 ·rw[ab h];obtain⟨X,Y,h3,h4,h5,-⟩:=RR h;obtain⟨m1,m2⟩:=MY (Au a c) (Au c b);have h0: ¬Ca a c b k=0:=h;generalize Ca a c b k=d at*;have J:bd B24 (Ba c a d):=Ga D G X (by omega);have M:bd B24 (Ba c b d):=Ga D hb Y (by rw[Lc b c];omega);have t1:=VE D G X (d:=d) (by omega);have t2:=VE D hb Y (d:=d) (by omega);have p1:=Zsu J D M;have p2:=(Pw J D M).2;generalize HD (Ba c a d) c (Ba c b d)=n at*;obtain⟨N,rfl⟩:∃N:Nat,n=N:=⟨n.toNat,by rcases p2 with rfl|rfl|rfl|rfl|rfl|rfl<;>rfl⟩;have hN:2<=N/\N<=64:=by unfold GW at p2;omega
  have S:=Qw7 (MR:=Ee) (MP:=IH) (MT:=FN) (MC:=V) hN J D M (λhi hp D hq=>hR (by omega) hi hp D hq) (f:=λi=>ptR (EV N i (Ba c a d) c (Ba c b d))) (λ_=>rfl) (N+1) 0 (by omega);have T:∀f:Nat->List AC,DC f [I 0,I 0,I 0] (N+1) 0=List.replicate (N+1) [I 0,I 0,I 0]:=λf=>by unfold DC;rw[List.range_zero,cm,ay,Nat.sub_zero]
  rw[T]at S;generalize Ee=MR at*;generalize IH=MP at*;generalize FN=MT at*;generalize Ba c a d=p at*;generalize Ba c b d=q at*;rw[Qu4];simp only[aq,ay,ptR]at t1 t2;have E:(List.range (N+1)).map (fun(i:Nat)=>ptR (EV N i p c q))=((List.range ((N:Int).toNat+1)).map fun(i:Nat)=>EV N i p c q).map ptR:=by rw[List.map_map,ag];rfl
  rw[E]at S;generalize((List.range ((N:Int).toNat+1)).map fun(i:Nat)=>EV N i p c q).map ptR=C at*;generalize An (L5 MR MP MT V)=L at*;have U:L [.vC kPt (List.replicate (N+1) [I 0,I 0,I 0]),I N,I (N+1:Nat),I 0,I c.x,I c.y,I c.z,I p.x,I p.y,I p.z,I q.x,I q.y,I q.z]=some (1,[.vC kPt C]):=S;have w1:O ((N:Int)+1)=((N+1:Nat):Int):=by rw[Ae];rfl
  simp only[e1,t1,t2,p1,w1,ak,E0,IT,IF,ER,gA,jA,wA,bA,ag,List.length_replicate,RV];rw[Es (by simpa using h0),B6 trivial,Dv (by simp;omega),U];rfl
end Go.Bm
namespace Go.Bm
open Classical
theorem OS (k:Int):De [I k]=some [B (decide (1<=k/\k<=6))]:=by
 unfold De;rw[Zui];by_cases h:1<=k
 ·rw[B6 (show k>=1 from h)];by_cases D:k<=6
  ·rw[ah D,ah ⟨h,D⟩]
  ·rw[aj D,aj λE=>D E.2]
 ·rw[AM (show¬k>=1 from h),aj λE=>h E.1]
theorem Rs (it:Itm):D7 (Ag it)=some [B (decide (smI it))]:=by
 unfold D7;rw[Ztq];by_cases h:it.aP=2
 ·rw[Dv (by simp[h])];congr 2;by_cases E:it.fr=it.to
  ·have D:=BU.1 E;rw[aj (λG:smI it=>G.2 E)];simp[D.1,D.2.1,D.2.2]
  ·rw[ah (show smI it from⟨h,E⟩)];have D: ¬(it.fr.x=it.to.x/\it.fr.y=it.to.y/\it.fr.z=it.to.z):=λD=>E (BU.2 D);simp only[B,AC.bool.injEq,gx,Bool.and_true];by_cases a:it.fr.x=it.to.x<;>by_cases b:it.fr.y=it.to.y<;>by_cases c:it.fr.z=it.to.z<;>simp[a,b,c]at D⊢
 ·rw[Es (by simp[h]),aj (λG:smI it=>h G.1)]
theorem QA (E:bd 1048576 D.fr) (G:bd 1048576 D.to):Fg (Ag D)=some (ptR (AY D)):=by
 obtain⟨a1,a2,a3⟩:=E;obtain⟨b1,b2,b3⟩:=G;unfold Fg;rw[Zb3,Ae (x:=D.fr.x+D.to.x),Ae (x:=(D.fr.x+D.to.x)*8),Ae (x:=D.fr.y+D.to.y),Ae (x:=(D.fr.y+D.to.y)*8),Ae (x:=D.fr.z+D.to.z),Ae (x:=(D.fr.z+D.to.z)*8)];rfl
theorem Zue (h:bd 100000000 a):LD [I a.x,I a.y,I a.z]=some (ptR (At a)):=by
 unfold LD;rw[Zbf];obtain⟨D,E,G⟩:=h;rw[Ae,Ae,Ae];rfl
theorem Qn6 (it:Itm):Gs (Ag it)=some [B (decide (syI it))]:=by
 unfold Gs;rw[Zf2];by_cases D:it.aP=5
 ·rw[Dv (by simp[D]),ah (show syI it from .inl D)]
 ·rw[Es (by simp[D])];by_cases E:it.aP=6
  ·rw[ah (show syI it from .inr E)];simp[E]
  ·rw[aj (show¬syI it from λh=>h.elim D E)];simp[E]
theorem Zf1 (hM:Z [I D.aP]=some [B (decide (1<=D.aP/\D.aP<=6))]) (hV:∃v,M (Ag D)=some [B v]/\(v=true↔By D)):
  Qch M Z (Ag D)=some [I (if Bo D then 1 else 0)]:=by
 obtain⟨v,hv,L⟩:=hV;have E:∀{x:Int},(Bo D->x=1)->(¬Bo D->x=0)->some [I x]=some [I (if Bo D then 1 else 0)]:=by
  intro x h1 h2;by_cases c:Bo D
  ·rw[aa c,h1 c]
  ·rw[ab c,h2 c]
 rw[Zdv];simp only[go_sem,hM,hv];unfold Bo Az at E⊢;have one:∀{P:Prop},P->(P->(1:Int)=1)/\(¬P->(1:Int)=0):=λh=>⟨λ_=>rfl,λg=>absurd h g⟩;have zero:∀{P:Prop},¬P->(P->(0:Int)=1)/\(¬P->(0:Int)=0):=λh=>⟨λg=>absurd g h,λ_=>rfl⟩;by_cases N:D.aP<1
 ·rw[aa N];exact E (λ_=>rfl) λg=>absurd (.inl N) g
 rw[ab N];by_cases O:D.aP>14
 ·rw[aa O];exact E (λ_=>rfl) λg=>absurd (.inr (.inl O)) g
 rw[ab O];by_cases G:1<=D.aP/\D.aP<=6
 ·simp only[aa G];have S:D.aP≠8:=by omega
  simp only[ab S];by_cases J:By D
  ·rw[ab (by simp[L.2 J])];by_cases T:D.bH<0
   ·rw[aa T];exact E (λ_=>rfl) λg=>absurd (.inr (.inr (.inl ⟨G, .inr (.inr (.inl T))⟩))) g
   rw[ab T];by_cases U:D.bH>1000
   ·rw[aa U];exact E (λ_=>rfl) λg=>absurd (.inr (.inr (.inl ⟨G, .inr (.inr (.inr U))⟩))) g
   rw[ab U];by_cases V:D.aP=1
   ·rw[ab (show¬D.aP≠1 by omega)];refine E (λg=> ?_) λ_=>rfl;rcases g with g|g|⟨-,g|g|g|g⟩|g
    ·omega
    ·omega
    ·exact absurd J g
    ·omega
    ·omega
    ·omega
    ·omega
   ·rw[aa V];by_cases X:D.aZ<1
    ·rw[aa X];exact E (λ_=>rfl) λg=>absurd (.inr (.inr (.inl ⟨G, .inr (.inl ⟨V, .inl X⟩)⟩))) g
    rw[ab X];by_cases Y:D.aZ>60000000
    ·rw[aa Y];exact E (λ_=>rfl) λg=>absurd (.inr (.inr (.inl ⟨G, .inr (.inl ⟨V, .inr Y⟩)⟩))) g
    rw[ab Y];refine E (λg=> ?_) λ_=>rfl;rcases g with g|g|⟨-,g|g|g|g⟩|g
    ·omega
    ·omega
    ·exact absurd J g
    ·omega
    ·omega
    ·omega
    ·omega
  ·rw[aa (λh=>J (L.1 h))];exact E (λ_=>rfl) λg=>absurd (.inr (.inr (.inl ⟨G, .inl J⟩))) g
 ·simp only[ab G];by_cases J:D.aP=8
  ·rw[aa J];by_cases d1:D.n<3
   ·rw[aa d1];exact E (λ_=>rfl) λg=>absurd (.inr (.inr (.inr ⟨G,J, .inl d1⟩))) g
   rw[ab d1];by_cases d2:D.n>5
   ·rw[aa d2];exact E (λ_=>rfl) λg=>absurd (.inr (.inr (.inr ⟨G,J, .inr (.inl d2)⟩))) g
   rw[ab d2];by_cases d3:D.aS<0
   ·rw[aa d3];exact E (λ_=>rfl) λg=>absurd (.inr (.inr (.inr ⟨G,J, .inr (.inr (.inl d3))⟩))) g
   rw[ab d3];by_cases d4:D.aS>30000
   ·rw[aa d4];exact E (λ_=>rfl) λg=>absurd (.inr (.inr (.inr ⟨G,J, .inr (.inr (.inr d4))⟩))) g
   rw[ab d4];refine E (λg=> ?_) λ_=>rfl;rcases g with g|g|⟨g,-⟩|⟨-,-,g⟩
   ·omega
   ·omega
   ·exact absurd g G
   ·omega
  ·rw[ab J];refine E (λg=> ?_) λ_=>rfl;rcases g with g|g|⟨g,-⟩|⟨-,g,-⟩
   ·omega
   ·omega
   ·exact absurd g G
   ·omega
theorem Ztj (it:Itm):HQ (Ag it)=some [I (if Bo it then 1 else 0)]:=Zf1 (OS _) (Qhm it)
def CG:List Itm->Nat->Nat
 |[],k=>k
 |it::l,k=>if it.aP=10 then CG l (k+1)else k
def CQ (aA:List Itm) (i:Nat):Nat:=CG (aA.drop (i+1)) (i+1)
theorem Qha:∀(l:List Itm) (k:Nat),k<=CG l k/\CG l k<=k+l.length
 |[],k=>by simp[CG]
 |it::l,k=>by
  unfold CG;split
  ·have:=Qha l (k+1);simp;omega
  ·simp
theorem Qst:∀(l:List Itm) (k:Nat),Em l k=if CG l k-k<l.length/\smI (l.getD (CG l k-k) it0)then(CG l k:Int)else-1
 |[],k=>by simp[Em]
 |it::l,k=>by
  have I:=Qha l (k+1);by_cases D:it.aP=10
  ·have e1:Em (it::l) k=Em l (k+1):=by rw[Em,aa D]
   have e2:CG (it::l) k=CG l (k+1):=by rw[CG,aa D]
   rw[e1,e2,Qst l (k+1)];have e3:CG l (k+1)-k=(CG l (k+1)-(k+1))+1:=by omega
   rw[e3,List.getD_cons_succ];by_cases c:CG l (k+1)-(k+1)<l.length
   ·have G:CG l (k+1)-(k+1)+1<(it::l).length:=by simp;omega
    by_cases E:smI (l.getD (CG l (k+1)-(k+1)) it0)
    ·rw[aa ⟨c,E⟩,aa ⟨G,E⟩]
    ·rw[ab (λg=>E g.2),ab (λg=>E g.2)]
   ·rw[ab (λg=>c g.1),ab (λg=>c (by have:=g.1;simp at this;omega))]
  ·have e1:Em (it::l) k=if smI it then(k:Int)else-1:=by rw[Em,ab D]
   have e2:CG (it::l) k=k:=by rw[CG,ab D]
   rw[e1,e2,Nat.sub_self,List.getD_cons_zero];by_cases c:smI it
   ·rw[aa c,aa ⟨by simp,c⟩]
   ·rw[ab c,ab (λg=>c g.2)]
theorem Qt1 {aA:List Itm} (L:aA.length<=1000000):∀(k i:Nat),i+k=aA.length->
  An NQ [.vC Ac (aA.map Ag),I i]=some (1,[I (CG (aA.drop i) i)])
 |0,i,M=>by
  refine AG ?_ (by simp);rw[Qyb];simp only[go_sem,af];rw[ab,du (by omega)];rfl
 |k+1,i,M=>by
  have E:i<aA.length:=by omega
  have N:=Cs E;rw[O6 E];have D:NQ [.vC Ac (aA.map Ag),I i]=if(vD aA i).aP=10 then some (0,[.vC Ac (aA.map Ag),I (i+1:Nat)])else some (1,[I i]):=by
   rw[Qyb];have J:(0:Int)<=(i:Int)/\(i:Int)<(aA.length:Int):=by omega
   simp only[go_sem,af,ag,N,aa J];rw[aa,Ae];rfl
  unfold CG;by_cases G:(vD aA i).aP=10
  ·rw[aa G]at D⊢;rw[AR D];exact Qt1 L k (i+1) (by omega)
  ·rw[ab G]at D⊢;exact AG D (by simp)
theorem Yc (D:L.length<=1000000) {i:Nat} (E:i<L.length):EA [.vC Ac (L.map Ag),I i]=some [I (CQ L i)]:=by
 show Zz (An NQ) _=_;have h:=Qt1 D (L.length-(i+1)) (i+1) (by omega);rw[Zd6,Ae,show(i:Int)+1=((i+1:Nat):Int) by omega,h];rfl
theorem Quo:Be L i=if smI (vD L i)/\(vD L i).bH≠0/\CQ L i<L.length/\smI (vD L (CQ L i))then(CQ L i:Int)else-1:=by
 unfold Be;by_cases h:smI (vD L i)/\(vD L i).bH≠0
 ·rw[aa h,Qst];have D:=Qha (L.drop (i+1)) (i+1);rw[dk]at D;have e:(L.drop (i+1)).getD (CG (L.drop (i+1)) (i+1)-(i+1)) it0=vD L (CQ L i):=by
   unfold vD;rw[fa,dv,fa];have:i+1+(CG (L.drop (i+1)) (i+1)-(i+1))=CQ L i:=by unfold CQ;omega
   rw[this]
  rw[e,dk];have e2:CG (L.drop (i+1)) (i+1)=CQ L i:=rfl;rw[e2]at D⊢;by_cases c:CQ L i<L.length/\smI (vD L (CQ L i))
  ·rw[aa ⟨by omega,c.2⟩,aa ⟨h.1,h.2,c⟩]
  ·rw[ab (λg=>c ⟨by have:=g.1;omega,g.2⟩),ab (λg=>c g.2.2)]
 ·rw[ab h,ab (λg=>h ⟨g.1,g.2.1⟩)]
theorem Zn5 (U:∀it,M (Ag it)=some [B (decide (smI it))]) {i:Nat} (X:i<L.length) (Y:Z [.vC Ac (L.map Ag),I i]=some [I (CQ L i)]):
  Uq M Z [.vC Ac (L.map Ag),I i]=some [B (decide (0<=Be L i))]:=by
 have hr:=Cs X;have V:=U (vD L i);rw[Zmt,Quo];simp only[Ag]at V;have O:(0:Int)<=(i:Int)/\(i:Int)<(L.length:Int):=by omega
 simp only[go_sem,af,ag,hr,V,Y,aa O];by_cases G:smI (vD L i)
 case neg=>rw[ab G,ab (λg=>G g.1)];simp
 rw[aa G];by_cases J:(vD L i).bH=0
 ·rw[ab (by simp[J]),ab (λg=>g.2.1 J)];simp
 rw[aa J];by_cases S:CQ L i<L.length
 ·have T:=Cs S;have D:=U (vD L (CQ L i));simp only[Ag]at D;have E:(0:Int)<=(CQ L i:Int)/\(CQ L i:Int)<(L.length:Int):=by omega
  rw[aa,aa E];simp only[go_sem,T,D];by_cases N:smI (vD L (CQ L i))
  ·rw[ah N,aa ⟨G,J,S,N⟩,ah (by omega)]
  ·rw[aj N,ab (λg=>N g.2.2.2)];simp
 ·rw[ab,ab (λg=>S g.2.2.1)];simp
theorem Qkk (E:L.length<=1000000) {i:Nat} (D:i<L.length):F9 [.vC Ac (L.map Ag),I i]=some [B (decide (0<=Be L i))]:=
 Zn5 Rs D (Yc E D)
theorem QS (h:0<=Be L i):Be L i=CQ L i:=by
 rw[Quo]at h⊢;split at h
 ·rename_i c;rw[aa c]
 ·omega
theorem Zb1 {a c b:Pt} (E:bd B24 a) (D:bd B24 c) (hb:bd B24 b):(Ez a c b k).length%2=1:=by
 unfold Ez;by_cases h:Ca a c b k=0
 ·rw[aa h];rfl
 ·rw[ab h];obtain⟨G,I,N,O,S,-⟩:=RR h;obtain⟨m1,m2⟩:=MY (Au a c) (Au c b);generalize Ca a c b k=d at*;have J:bd B24 (Ba c a d):=Ga D E G (by omega);have L:bd B24 (Ba c b d):=Ga D hb I (by rw[Lc b c];omega);have M:=(Pw J D L).2;generalize HD (Ba c a d) c (Ba c b d)=n at*;rw[af,List.length_range];rcases M with rfl|rfl|rfl|rfl|rfl|rfl<;>rfl
theorem Zgi {l:List Pt} (N:0<=D.bH/\D.bH<=1000) (T:1<=l.length/\l.length<=65) (E:l.length%2=1)
  (G:Y (Ag D)=some (ptR (AY D))) (J:Y (Ag z)=some (ptR (AY z))) (S:Z [I D.to.x,I D.to.y,I D.to.z]=some (ptR (At D.to)))
  (L:M (ptR (AY D)++ptR (At D.to)++ptR (AY z)++[I (D.bH*16)])=some [.vC kPt (l.map ptR)]):
  Qca M Z Y (Ag D++Ag z)=some [.vC kPt ((l.take (l.length/2+1)).map ptR), .vC kPt ((l.drop (l.length/2)).map ptR)]:=by
 simp only[Ag,aq,ay]at G J⊢;rw[Zug];simp only[ptR,aq,ay]at L;simp only[go_sem,G,J,S];rw[Ae];simp only[L,go_sem,af];have e:O ((O ((l.length:Int)-1)).tdiv 2)=((l.length/2:Nat):Int):=by
  rw[Ae (x:=(l.length:Int)-1),dh (by omega),Ae];omega
 have e2:O (((l.length/2:Nat):Int)+1)=((l.length/2+1:Nat):Int):=by rw[Ae];omega
 simp only[e,e2,ag];rw[aa,aa,i7,i8]
theorem Zap (E:drawn D) (G:drawn z):
  OT (Ag D++Ag z)=some [.vC kPt (((Ez (AY D) (At D.to) (AY z) (D.bH*16)).take ((Ez (AY D) (At D.to) (AY z) (D.bH*16)).length/2+1)).map ptR), .vC kPt (((Ez (AY D) (At D.to) (AY z) (D.bH*16)).drop ((Ez (AY D) (At D.to) (AY z) (D.bH*16)).length/2)).map ptR)]:=
 have I:=Jm E.1.2.1 E.1.2.2.1;have J:=Fb E.1.2.2.1;have L:=Jm G.1.2.1 G.1.2.2.1
 Zgi E.2 (Qsa I J L).2 (Zb1 I J L) (QA E.1.2.1 E.1.2.2.1) (QA G.1.2.1 G.1.2.2.1) (Zue (AP E.1.2.2.1 (by decide))) (Zf6 I J L (by have:=E.2;omega))
theorem Zkp (hi:i<L.length) (hd:drawn (vD L i)) (hf:IJ L i u) (N:∀k<L.length,Az (vD L k)->drawn (vD L k))
  (hK:T (Ag (vD L i))=some [.vC kPt ((BR (vD L i)).map ptR),B true]) (hM:V (Ag (vD L i))=some [B (decide (smI (vD L i)))])
  (hJ:∀{i k:Nat},i<L.length->k<L.length->drawn (vD L i)->drawn (vD L k)->W (Ag (vD L i)++Ag (vD L k))=some [.vC kPt (((CE L i k).take ((CE L i k).length/2+1)).map ptR), .vC kPt (((CE L i k).drop ((CE L i k).length/2)).map ptR)])
  (hS:Y [.vC Ac (L.map Ag),I i]=some [B (decide (0<=Be L i))]) (hN:Z [.vC Ac (L.map Ag),I i]=some [I (CQ L i)]) (hC:M (Ag (vD L i))=some (ptR (AY (vD L i)))):
  Tw M Z Y W V T [.vC Ac (L.map Ag),I i,I u]=some [.vC kPt ((Bq L i u).map ptR)]:=by
 have r1:=Cs hi;obtain⟨a6,a7⟩:=W8 (vD L i);rw[Zay];simp only[Ag,aq,ay]at hK hM hC hJ;have a3:(0:Int)<=(i:Int)/\(i:Int)<(L.length:Int):=by omega
 simp only[go_sem,af,ag,r1,hK,hM,hC,hS,hN,ay,aa a3];unfold Bq;by_cases hs:smI (vD L i)
 case neg=>rw[aa (by simp[hs]),ab hs]
 rw[ab (by simp[hs]),aa hs];have a4:(vD L i).aP≠3:=by have:=hs.1;omega
 have S:(BR (vD L i)).length=2:=by unfold BR;rw[ab a4];rfl
 have w1:O (((BR (vD L i)).length:Int)-1)=1:=by rw[S];rfl
 rw[w1,S,aa,aa];unfold IW;rcases hf with rfl|⟨f,rfl,a0,a1⟩
 ·rw[ab (show¬(-1:Int)>=0 by omega)];unfold G2;rw[ab (show¬(0:Int)<= -1 by omega)];by_cases D:0<=Be L i
  ·obtain⟨k,hk,E,G⟩:=Pi N D;have U:=QS D;rw[hk]at U;have X:CQ L i=k:=by omega
   obtain⟨j1,j2,j3⟩:=Iu (aA:=L) (i:=i) (k:=k) hd G;have hj:=hJ hi E hd G;have r2:=Cs E;have J:(0:Int)<=(k:Int)/\(k:Int)<(L.length:Int):=by omega
   rw[aa D,aa D,hk,X,ag,aa J];simp only[go_sem,ag,r2,hj];rw[aa (by simp[Jf];omega),aa (by simp;omega),aa (by simp;omega)];simp only[Jf,bh,ba,cm]
  ·rw[ab D,ab D,aa (by simp[Jf];omega),aa (by simp;omega),aa (by simp;omega)];simp only[Jf,Rb,bh,ba,cm]
 ·have a5:=hJ a0 hi a1 hd;obtain⟨f1,f2,f3⟩:=Iu (aA:=L) (i:=f) (k:=i) a1 hd;have rf:=Cs a0;have a2:(0:Int)<=(f:Int)/\(f:Int)<(L.length:Int):=by omega
  rw[aa (show(f:Int)>=0 by omega),aa a2];unfold G2;rw[aa (show(0:Int)<=(f:Int) by omega),ag];simp only[rf,go_sem,a5,ag];by_cases D:0<=Be L i
  ·obtain⟨k,hk,E,G⟩:=Pi N D;have U:=QS D;rw[hk]at U;have X:CQ L i=k:=by omega
   obtain⟨j1,j2,j3⟩:=Iu (aA:=L) (i:=i) (k:=k) hd G;have hj:=hJ hi E hd G;have r2:=Cs E;have J:(0:Int)<=(k:Int)/\(k:Int)<(L.length:Int):=by omega
   rw[aa D,aa D,hk,X,ag,aa J];simp only[go_sem,ag,r2,hj];rw[aa (by simp;omega),aa (by simp;omega),aa (by simp;omega)];simp only[bh,ba,cm]
  ·rw[ab D,ab D,aa (by simp;omega),aa (by simp;omega),aa (by simp;omega)];simp only[Rb,bh,ba,cm]
theorem Zg7 (J:L.length<=1000000) {i:Nat} {frm:Int} (G:i<L.length) (E:drawn (vD L i)) (hf:IJ L i frm) (D:∀k<L.length,Az (vD L k)->drawn (vD L k)):
  Kx [.vC Ac (L.map Ag),I i,I frm]=some [.vC kPt ((Bq L i frm).map ptR)]:=
 Zkp G E hf D (Ztk E.1) (Rs _) (λO S M N=>Zap M N) (Qkk J G) (Yc J G) (QA E.1.2.1 E.1.2.2.1)
theorem Qrw {L M:Fn} {l:List Itm} (S:∀k:Int,L [I k]=some [B (decide (1<=k/\k<=6))]) (T:∀it,M (Ag it)=some [B (decide (syI it))]) (V:l.length<=1000000):∀(k i:Nat),i+k=l.length->
  (An (Jd L M) [.vC Ac (l.map Ag),I l.length,I i]=some (1,[B (decide (EQ (l.drop i)=1))]))\/(An (Jd L M) [.vC Ac (l.map Ag),I l.length,I i]=some (2,[])/\EQ (l.drop i)=2)
 |0,i,X=>by
  right;refine⟨AG ?_ (by simp),by rw[du (by omega)];rfl⟩;rw[Qqd];simp only[go_sem];rw[ab]
 |k+1,i,X=>by
  have G:i<l.length:=by omega
  have Y:=Cs G;rw[O6 G];have U:=T (vD l i);have hm:=S (vD l i).aP;have D:Jd L M [.vC Ac (l.map Ag),I l.length,I i]=if Az (vD l i)then some (1,[B (decide (syI (vD l i)))])else some (0,[.vC Ac (l.map Ag),I l.length,I (i+1:Nat)]):=by
   rw[Qqd];simp only[Ag]at U;have O:(0:Int)<=(i:Int)/\(i:Int)<(l.length:Int):=by omega
   simp only[go_sem,af,ag,Y,U,hm,aa O];rw[aa,Ae];by_cases N:Az (vD l i)
   ·rw[aa (show 1<=(vD l i).aP/\(vD l i).aP<=6 from N),aa N]
   ·rw[ab (show¬(1<=(vD l i).aP/\(vD l i).aP<=6)from N),ab N];rfl
  unfold EQ;by_cases J:Az (vD l i)
  ·rw[aa J]at D⊢;left;rw[AG D (by simp)];by_cases E:syI (vD l i)
   ·rw[aa E,ah E];rfl
   ·rw[ab E,aj E];rfl
  ·rw[ab J]at D⊢;rw[AR D];exact Qrw S T V k (i+1) (by omega)
def Hz (aA:List Itm) (i:Nat):Prop:=(vD aA i).bH=0\/syI (vD aA i)\/EQ (aA.drop (i+1))=1
theorem Zor (hM:∀k:Int,M [I k]=some [B (decide (1<=k/\k<=6))]) (X:∀it,Z (Ag it)=some [B (decide (syI it))]) (hl:L.length<=1000000) {i:Nat} (hi:i<L.length):
  Qit M Z (An (Jd M Z)) [.vC Ac (L.map Ag),I i]=some [B (decide (Hz L i))]:=by
 have hr:=Cs hi;have Y:=X (vD L i);have E:=Qrw hM X (l:=L.drop (i+1)) (by rw[dk];omega) (L.drop (i+1)).length 0 (by omega);rw[fd]at E;rw[Zk8];simp only[Ag]at Y;have hw:O ((i:Int)+1)=((i+1:Nat):Int):=by rw[Ae];omega
 have U:(0:Int)<=(i:Int)/\(i:Int)<(L.length:Int):=by omega
 have G:(0:Int)<=((i+1:Nat):Int)/\((i+1:Nat):Int)<=(L.length:Int):=by omega
 have V:(List.drop (i+1) (L.map Ag)).length=(L.drop (i+1)).length:=by rw[dk,dk,af]
 generalize An (Jd M Z)=N at*;simp only[go_sem,af,ag,hr,Y,hw,aa U,aa G,V];rw[<-i8];by_cases J:(vD L i).bH=0
 ·rw[aa J,ah (show Hz L i from .inl J)]
 ·rw[ab J];by_cases S:syI (vD L i)
  ·rw[aa S,ah (show Hz L i from .inr (.inl S))]
  ·rw[ab S];rcases E with E|⟨E,hn⟩
   ·have D:N [.vC Ac ((L.drop (i+1)).map Ag),I (L.drop (i+1)).length,I 0]=some (1,[B (decide (EQ (L.drop (i+1))=1))]):=E;simp only[D,go_sem];by_cases T:EQ (L.drop (i+1))=1
    ·rw[ah T,ah (show Hz L i from .inr (.inr T))]
    ·rw[aj T,aj (show¬Hz L i from λh=>h.elim J λh=>h.elim S T)]
   ·have D:N [.vC Ac ((L.drop (i+1)).map Ag),I (L.drop (i+1)).length,I 0]=some (2,[]):=E;simp only[D,go_sem];rw[aj (show¬Hz L i from λh=>h.elim J λh=>h.elim S λh=>by rw[hn]at h;cases h)];simp
theorem Zud (D:L.length<=1000000) {i:Nat} (E:i<L.length):Pd [.vC Ac (L.map Ag),I i]=some [B (decide (Hz L i))]:=Zor OS Qn6 D E
def Ia (aA:List Itm) (i:Nat):Int:=if Az (vD aA i)then IU aA i else JB (vD aA i)
theorem Zvb {aD:List Mrk} {b:Bool} (V:i<L.length) (X:aD.length<=1000000)
  (Y:Z [I (vD L i).aP]=some [B (decide (Az (vD L i)))]) (hE:M [.vC Ac (L.map Ag),I i]=some [B (decide (Hz L i))]):
  Qdj M Z [.vC Af o, .vC Av (aD.map A1), .vC Ac (L.map Ag),I i,I a.x,I a.y,I a.z,B b,I u,I v,I r]=
   some [.vC Af o, .vC Av ((aD++[(⟨u,Ia L i,i⟩:Mrk)]).map A1),I a.x,I a.y,I a.z,B b,I u,I v,I r]:=by
 have hr:=Cs V;have S:(0:Int)<=(i:Int)/\(i:Int)<(L.length:Int):=by omega
 have hb:(aD.length+1)*24<=140737488355328:=by omega
 have e:∀k:Int,aD.map A1++[[I u,I k,I i]]=(aD++[(⟨u,k,i⟩:Mrk)]).map A1:=λk=>by rw[bh];rfl
 rw[Zuj];simp only[go_sem,af,ag,hr,aa S,Y,hE,am,bf,bm,aa hb];have fin:∀{k:Int},k=Ia L i->some [AC.vC Af o, .vC Av (aD.map A1++[[I u,I k,I i]]),I a.x,I a.y,I a.z,B b,I u,I v,I r]=some [.vC Af o, .vC Av ((aD++[(⟨u,Ia L i,i⟩:Mrk)]).map A1),I a.x,I a.y,I a.z,B b,I u,I v,I r]:=by
  intro k hk;rw[e,hk]
 unfold Ia IU JB at fin⊢;by_cases N:(vD L i).aP=4
 ·rw[aa N];have D:Az (vD L i):=⟨by omega,by omega⟩;exact fin (by rw[aa D,aa N])
 ·rw[ab N];by_cases D:Az (vD L i)
  ·rw[aa D];by_cases J:Hz L i
   ·rw[aa J];refine fin ?_;rw[aa D,ab N];rcases J with h|h|h
    ·rw[aa h]
    ·by_cases O:(vD L i).bH=0
     ·rw[aa O]
     ·rw[ab O,aa h]
    ·by_cases O:(vD L i).bH=0
     ·rw[aa O]
     ·rw[ab O];by_cases U:syI (vD L i)
      ·rw[aa U]
      ·rw[ab U,h]
   ·rw[ab J,aa D];refine fin ?_;rw[aa D,ab N,ab (λh=>J (.inl h)),ab (λh=>J (.inr (.inl h)))];have T:∀l:List Itm,EQ l=1\/EQ l=2:=by
     intro l;induction l with
     |nil=>right;rfl
     |cons it l ih=>
      unfold EQ;split
      ·split<;>simp
      ·exact ih
    rcases T (L.drop (i+1))with h|h
    ·exact absurd (.inr (.inr h)) J
    ·rw[h]
  ·rw[ab D,ab D];by_cases E:(vD L i).aP=10
   ·rw[aa E];exact fin (by rw[ab D,aa E])
   ·rw[ab E];by_cases G:(vD L i).aP=13
    ·rw[aa G];exact fin (by rw[ab D,ab E,aa G])
    ·rw[ab G];exact fin (by rw[ab D,ab E,ab G])
theorem Zgb (N:L.length<=1000000) {i:Nat} {aF:Rw} {aD:List Mrk} {D:Pt} {b:Bool} {len J E:Int} (M:i<L.length) (G:aD.length<=1000000):
  HG [.vC Af aF, .vC Av (aD.map A1), .vC Ac (L.map Ag),I i,I D.x,I D.y,I D.z,B b,I len,I J,I E]=
   some [.vC Af aF, .vC Av ((aD++[(⟨len,Ia L i,i⟩:Mrk)]).map A1),I D.x,I D.y,I D.z,B b,I len,I J,I E]:=
 Zvb M G (OS _) (Zud N M)
end Go.Bm
