/- laid together -/
import Derived.Test.YtnnpdlgenmnekaaGreatDoorPrTk4
import Derived.Test.YtnnpdlgenmnekaaGreatDoorPrV
import Derived.Lib.ItoaNum
import Derived.Test.YtnnpdlgenmnekaaGreatDoorMx3
set_option linter.unusedVariables false
set_option linter.unusedSimpArgs false
set_option maxRecDepth 100000
open Go.IntKind (wrap)
variable {i A j R J P:Nat} {K:Go.Bm.Kf} {M Z W V T S H G:Go.Bm.Fn} {a b:Go.Bm.Pt} {p:Go.Bm.Pth} {t:Go.Bm.Trk} {u d r v k:Int} {l:Go.Bm.Rw} {Q:Int->Go.Bm.Pt->Prop} {N:Go.Bm.Lp} {z:List Go.Bm.Itm}
namespace Go.Bm
open Classical
def pcA (l:List Pce) (i:Nat):Pce:=l.getD i pc0
def eI (l:List Pce) (i:Nat):Int:=(pcA l i).at_+(pcA l i).aR
def fI:List Pce->Int->Nat
 |[],_=>0
 |c::l,u=>if u<=c.at_+c.aR then 0 else fI l u+1
theorem HN (c:Pce) (l:List Pce) (i:Nat):pcA (c::l) (i+1)=pcA l i:=by unfold pcA;simp
theorem J1 (c:Pce) (l:List Pce):pcA (c::l) 0=c:=by unfold pcA;simp
theorem Ul {l:List Pce} (h:i<l.length):nth [] (l.map AZ) i=AZ (pcA l i):=by
 have e:pcA l i=l[i]:=by unfold pcA;simp[h]
 rw[e];exact Em _ _ _ _ h
theorem US:∀{l:List Pce} {u:Int} {j:Nat},j<l.length->u<=eI l j->fI l u<=j
 |c::l,u,0,_,h=>by
  unfold eI at h;rw[J1]at h;unfold fI;rw[aa h];exact bt _
 |c::l,u,j+1,G,h=>by
  unfold fI;by_cases D:u<=c.at_+c.aR
  ·rw[aa D];omega
  ·rw[ab D];have:fI l u<=j:=US (by simpa using G) (by unfold eI at h⊢;rw[HN]at h;exact h);omega
theorem Q66:∀{l:List Pce} {u:Int},fI l u<l.length->u<=eI l (fI l u)
 |[],_,h=>by simp at h
 |c::l,u,h=>by
  unfold fI at h⊢;by_cases D:u<=c.at_+c.aR
  ·rw[aa D];unfold eI;rw[J1];exact D
  ·rw[ab D]at h⊢;have:=Q66 (l:=l) (u:=u) (by simpa using h);unfold eI at this⊢;rw[HN];exact this
structure TQ (t : Trk) : Prop where
 count:t.aE.length<=10000000
 len:0<=t.length/\t.length<=900000000000000
 pos:∀i,i<t.aE.length->0<=(pcA t.aE i).at_/\1<=(pcA t.aE i).aR/\eI t.aE i<=t.length
 mono:∀i j,i<=j->j<t.aE.length->eI t.aE i<=eI t.aE j
 last:t.aE≠[]->eI t.aE (t.aE.length-1)=t.length
 aQ:0<=t.aQ/\t.aQ<=263886834032640
 s:∀i,i<t.aE.length-> -900000000000000<=(pcA t.aE i).s/\(pcA t.aE i).s<=2000000000000000
 bC:∀i,i<t.aE.length->(pcA t.aE i).bC=0\/(pcA t.aE i).bC=1\/(pcA t.aE i).bC= -1
def clT (t:Trk) (u:Int):Int:=BB u t.length
theorem ON (h:TQ t) (u:Int):0<=clT t u/\clT t u<=t.length:=by have:=h.len;unfold clT BB;omega
def iT (t:Trk) (u:Int):Nat:=fI t.aE (clT t u)
theorem Mm (h:TQ t) (u:Int) (D:t.aE≠[]):iT t u<t.aE.length:=by
 have I:0<t.aE.length:=by
  cases G:t.aE with
  |nil=>exact absurd G D
  |cons _ _=>simp
 have:=US (l:=t.aE) (u:=clT t u) (j:=t.aE.length-1) (by omega) (by rw[h.last D];exact(ON h u).2);unfold iT;omega
def A7 (t:Trk) (u:Int):Int:=if t.aE=[]then t.aQ else(pcA t.aE (iT t u)).s+(pcA t.aE (iT t u)).bC*(clT t u-(pcA t.aE (iT t u)).at_)
theorem Qb4 {t:Trk} (h:TQ t) {u:Int} (D:fI t.aE u<t.aE.length):∀(k lo D:Nat),D-lo<=k->lo<=fI t.aE u->fI t.aE u<=D->D<t.aE.length->
  Al Ta [I u,I lo,I D, .vC Ap (t.aE.map AZ),I t.length,I t.aQ,I t.aT.x,I t.aT.y,I t.aT.z]=some (1,[I (fI t.aE u)])
 |k,lo,D,hk,U,V,X=>by
  have T:=h.count;have hl:=h.len;by_cases c:lo<D
  ·have em:O ((O ((lo:Int)+D)).tdiv 2)=(((lo+D)/2:Nat):Int):=by
    rw[Ad (x:=(lo:Int)+D),co (by omega),Ad];omega
   have Y:lo<=(lo+D)/2/\(lo+D)/2<D:=by omega
   generalize(lo+D)/2=m at*;have G:m<t.aE.length:=by omega
   have M:=h.pos m G;have S:(0:Int)<=(m:Int)/\(m:Int)<(t.aE.length:Int):=by omega
   have hw:O ((pcA t.aE m).at_+(pcA t.aE m).aR)=eI t.aE m:=by unfold eI at M⊢;exact Ad
   have L:Ta [I u,I lo,I D, .vC Ap (t.aE.map AZ),I t.length,I t.aQ,I t.aT.x,I t.aT.y,I t.aT.z]=if u<=eI t.aE m then some (0,[I u,I lo,I m, .vC Ap (t.aE.map AZ),I t.length,I t.aQ,I t.aT.x,I t.aT.y,I t.aT.z])else some (0,[I u,I (m+1:Nat),I D, .vC Ap (t.aE.map AZ),I t.length,I t.aQ,I t.aT.x,I t.aT.y,I t.aT.z]):=by
    rw[Qgk,em];simp only[go_sem,ac,af,Ul G,aa S,hw,Ad (x:=(m:Int)+1)];rw[aa];rfl
   by_cases N:u<=eI t.aE m
   ·rw[aa N]at L;rw[AS L];cases k with
    |zero=>omega
    |succ k=>exact Qb4 h (by omega) k lo m (by omega) U (US G N) G
   ·rw[ab N]at L;rw[AS L];have a0:m<fI t.aE u:=by
     by_cases c3:fI t.aE u<=m
     ·exact absurd (Int.le_trans (Q66 (by omega)) (h.mono _ _ c3 G)) N
     ·omega
    cases k with
    |zero=>omega
    |succ k=>exact Qb4 h (by omega) k (m+1) D (by omega) (by omega) V X
  ·refine AJ (o:=(1,_)) ?_ (by simp);rw[Qgk,AR (by omega),show fI t.aE u=D by omega]
theorem Q28 (h:TQ t) (u:Int):Jd (Bt t++[I (clT t u)])=some [I (if t.aE=[]then-1 else(iT t u:Int))]:=by
 have he:=Yiv Mt (t.aE.map AZ) t.length t.aQ t.aT.x t.aT.y t.aT.z (clT t u);unfold Jd;refine cy he ?_;rw[ac];have L:=h.count;by_cases c:t.aE=[]
 ·have D:Mt [I (clT t u),I 0,I (-1), .vC Ap (t.aE.map AZ),I t.length,I t.aQ,I t.aT.x,I t.aT.y,I t.aT.z]=some (1,[I (-1)]):=by
   refine AJ (o:=(1,_)) ?_ (by simp);rw[Qgk,AR (by omega)]
  have e1:O ((t.aE.length:Int)-1)= -1:=by rw[c];rfl
  rw[aa c,e1];generalize Mt=N at*;simp only[D,go_sem]
 ·have T:0<t.aE.length:=by
   cases S:t.aE with
   |nil=>exact absurd S c
   |cons _ _=>simp
  have M:=Mm h u c;have D:=Qb4 h (u:=clT t u) M t.aE.length 0 (t.aE.length-1) (by omega) (by omega) (by unfold iT at M;omega) (by omega);have G:Mt [I (clT t u),I 0,I (t.aE.length-1:Nat), .vC Ap (t.aE.map AZ),I t.length,I t.aQ,I t.aT.x,I t.aT.y,I t.aT.z]=some (1,[I (iT t u:Int)]):=D;have e1:O ((t.aE.length:Int)-1)=((t.aE.length-1:Nat):Int):=by rw[Ad];omega
  rw[ab c,e1];generalize Mt=N at*;simp only[G,go_sem]
theorem Z3f (h:TQ t) (u:Int) (D:t.aE≠[]):
  O ((pcA t.aE (iT t u)).s+O ((pcA t.aE (iT t u)).bC*O (clT t u-(pcA t.aE (iT t u)).at_)))=A7 t u:=by
 have I:=Mm h u D;have L:=h.pos _ I;have M:=h.s _ I;have G:=h.bC _ I;have N:=ON h u;have S:=h.len;unfold A7 eI at*;rw[ab D,Ad (x:=clT t u-_)];generalize pcA t.aE (iT t u)=c at*;have hb:(-900000000000000<=c.bC*(clT t u-c.at_)/\c.bC*(clT t u-c.at_)<=900000000000000):=by
  rcases G with G|G|G<;>rw[G]<;>omega
 rw[Ad (x:=c.bC*_),Ad]
theorem Zmg (h:TQ t) {u:Int} (L:Z [I u,I t.length]=some [I (clT t u)]) (D:M (Bt t++[I (clT t u)])=some [I (if t.aE=[]then-1 else(iT t u:Int))]):Qqd M Z (Bt t++[I u])=some [I (A7 t u)]:=by
 have he:=Z1k M Z (t.aE.map AZ) t.length t.aQ t.aT.x t.aT.y t.aT.z u;refine cy he ?_;simp only[Bt,ax,ay]at D;by_cases c:t.aE=[]
 ·rw[aa c]at D;simp only[L,D,go_sem];rw[aa];unfold A7;rw[aa c]
 ·have O:=Mm h u c;have N:=h.count;have G:(0:Int)<=(iT t u:Int)/\(iT t u:Int)<(t.aE.length:Int):=by omega
  rw[ab c]at D;simp only[L,D,go_sem,ac,aa G,af,Ul O,Z3f h u c];rw[ab]
theorem VC (h:TQ t) (u:Int):EP (Bt t++[I u])=some [I (A7 t u)]:=Zmg h V3 (Q28 h u)
def H5 (D:Int) (l:List Int):Prop:=(∀v∈l,-4096<=v/\v<=4096)/\∀i,i+1<l.length-> -D<=4*(l.getD (i+1) 0-l.getD i 0)/\4*(l.getD (i+1) 0-l.getD i 0)<=D
structure AxOK (a : Axs) : Prop where
 step:4<=a.step/\a.step<=64
 bB:0<=a.bB/\a.bB<=6
 aV: -200<=a.aV/\a.aV<=200
 aO:a.aW≠[]->4<=a.aO/\a.aO<=123
 aW:H5 a.aO a.aW
 count:a.aW.length<=4
 lim:1<=a.aS/\a.aS<=1000/\2<=a.bD/\a.bD<=1000/\4<=a.bE/\a.bE<=1000/\a.low= -16777216/\a.aY=16777216
theorem SQ {l m:List Int} (h:i<l.length):(l++m).getD i 0=l.getD i 0:=by simp[eg,jm h]
theorem Zv8 (l m:List Int) (v:Int):(l++v::m).getD l.length 0=v:=by simp[eg]
theorem Z7f {G v w:Int} {l:List Int} (h:H5 G (l++[v])) (I: -4096<=w/\w<=4096) (L: -G<=4*(w-v)/\4*(w-v)<=G):H5 G (l++[v]++[w]):=by
 refine⟨?_,?_⟩
 ·intro x D;rcases bq.1 D with D|D
  ·exact h.1 x D
  ·rw[eu]at D;subst D;exact I
 ·intro i M;simp only[ap,bf,bv]at M;by_cases c:i+1<(l++[v]).length
  ·have:=h.2 i c;have c':i<(l++[v]).length:=by omega
   rw[SQ c,SQ c'];exact this
  ·simp only[ap,bf,bv]at c;have e:i=l.length:=by omega
   subst e;have g1:(l++[v]++[w]).getD (l.length+1) 0=w:=by
    simp
   have g2:(l++[v]++[w]).getD l.length 0=v:=by
    rw[d9];exact Zv8 l ([]++[w]) v
   rw[g1,g2];exact L
theorem Z87 {l:List Int} (h:H5 u (l++[v])):H5 u l:=by
 refine⟨λx D=>h.1 x (by simp[D]),λi G=> ?_⟩;have:=h.2 i (by simp;omega);rw[SQ G,SQ (by omega)]at this;exact this
theorem Zy3 (G: -4096<=v/\v<=4096):H5 u ([]++[v]):=⟨λx D=>by simp at D;subst D;exact G,λi I=>by simp at I⟩
theorem Yc3 (h:0<=v/\v<6):∃x,Ah (nth .vD (nth [] [[I 8],[I 4],[I 5],[I 16],[I 23],[I 64]] v.toNat) 0)=x/\4<=x/\x<=64:=by
 have D:v=0\/v=1\/v=2\/v=3\/v=4\/v=5:=by omega
 rcases D with rfl|rfl|rfl|rfl|rfl|rfl<;>exact⟨_,rfl,by decide⟩
theorem Qq5 (h:0<=v/\v<5):∃x y z,Ah (nth .vD (nth [] [[I 40],[I 1],[I 3],[I 9],[I 1000]] v.toNat) 0)=x/\Ah (nth .vD (nth [] [[I 20],[I 2],[I 3],[I 5],[I 1000]] v.toNat) 0)=y/\Ah (nth .vD (nth [] [[I 30],[I 4],[I 5],[I 8],[I 1000]] v.toNat) 0)=z/\1<=x/\x<=1000/\2<=y/\y<=1000/\4<=z/\z<=1000:=by
 have D:v=0\/v=1\/v=2\/v=3\/v=4:=by omega
 rcases D with rfl|rfl|rfl|rfl|rfl<;>exact⟨_,_,_,rfl,rfl,rfl,by decide⟩
theorem Z4e (h:0<=v/\v<4):∃x,Ah (nth .vD (nth [] [[I 0],[I 1],[I 3],[I 6]] v.toNat) 0)=x/\0<=x/\x<=6:=by
 have D:v=0\/v=1\/v=2\/v=3:=by omega
 rcases D with rfl|rfl|rfl|rfl<;>exact⟨_,rfl,by decide⟩
abbrev axS (l:Rw) (D:List Int) (n v:Int) (j:Nat) (a:Axs) (k:Nat):List AC:=
 [.vC Aa [], .vC Aa (D.map At),I n,I v,I j,I 0,I 0,I 0,I 0,I 0,I 0,I 0,I 0,I 0,I a.step,I a.aS,I a.bD,I a.bE,I a.low,I a.aY,I a.bB,I a.aV,I a.aO, .vC Aa l,I k]
theorem Zjq {MN:Fn} {l:Rw} (N:Je l MN) {a:Axs} (L:4<=a.aO/\a.aO<=123):∀(r j:Nat) (D:List Int) (v:Int) (k:Nat),j+r<=4->D.length=j->H5 a.aO (D++[v])->
  ∃(G:List Int) (k':Nat),Al (SC MN) (axS l D (j+r:Nat) v j a k)=some (1,[.vC Aa [], .vC Aa (G.map At),I 0,I 0,I 0,I 0,I 0,I 0,I 0,I 0,I 0,I a.step,I a.aS,I a.bD,I a.bE,I a.low,I a.aY,I a.bB,I a.aV,I a.aO, .vC Aa l,I k'])/\G.length=j+r/\H5 a.aO G
 |0,j,D,v,k,_,S,h=>by
  refine⟨D,k,AJ (o:=(1,_)) ?_ (by simp),by omega,Z87 h⟩;rw[Zc2,AR (by omega)]
 |r+1,j,D,v,k,hj,S,h=>by
  have hv:=h.1 v (by simp);have U:O (a.aO.tdiv 4)=a.aO/4:=by rw[co (by omega),Ad]
  have V:O (O (2*(a.aO/4))+1)=2*(a.aO/4)+1:=by rw[Ad (x:=2*(a.aO/4)),Ad]
  obtain⟨w,T,X,w0,w1,-⟩:=N k (n:=2*(a.aO/4)+1) (by omega);have Y:O (O (v+w)-a.aO/4)=v+w-a.aO/4:=by rw[Ad (x:=v+w),Ad]
  have hle:(D.map At++[[I v]]).length*8<=140737488355328:=by rw[ap,ac];simp only[bf,bv];omega
  have M:SC MN (axS l D (j+(r+1):Nat) v j a k)=some (0,axS l (D++[v]) (j+1+r:Nat) (min (max (v+w-a.aO/4) (-4096)) 4096) (j+1) a T):=by
   rw[Zc2];simp only[go_sem,aa hle,U,V,X,Y,Kg,Ot];rw[aa,Ad (x:=(j:Int)+1),show j+(r+1)=j+1+r by omega];simp only[axS,bp,be,da,At,gv,ic]
  rw[AS M];obtain⟨p',k',h1,h2,h3⟩:=Zjq N L r (j+1) (D++[v]) (min (max (v+w-a.aO/4) (-4096)) 4096) T (by omega) (by simp[S]) (Z7f h (by omega) (by omega));exact⟨p',k',h1,by omega,h3⟩
theorem Zs1 (G:Je l M)
  (hL:∀{a:Axs} {n:Nat} {v:Int} {k:Nat},(4<=a.aO/\a.aO<=123)->n<=4->H5 a.aO ([]++[v])->∃(D:List Int) (k':Nat),N (axS l [] n v 0 a k)=some (1,[.vC Aa [], .vC Aa (D.map At),I 0,I 0,I 0,I 0,I 0,I 0,I 0,I 0,I 0,I a.step,I a.aS,I a.bD,I a.bE,I a.low,I a.aY,I a.bB,I a.aV,I a.aO, .vC Aa l,I k'])/\D.length=n/\H5 a.aO D) (k:Nat):
  ∃(a:Axs) (k':Nat),Wf M N [.vC Aa l,I k]=some (Bk a++[.vC Aa l,I k'])/\AxOK a:=by
 obtain⟨v1,k1,h1,a1,b1,-⟩:=G k (n:=6) (by omega);obtain⟨v2,k2,h2,a2,b2,-⟩:=G k1 (n:=4) (by omega);obtain⟨v3,k3,h3,a3,b3,-⟩:=G k2 (n:=5) (by omega);obtain⟨v4,k4,h4,a4,b4,-⟩:=G k3 (n:=5) (by omega);obtain⟨v5,k5,h5,a5,b5,-⟩:=G k4 (n:=5) (by omega);obtain⟨L,k6,h6,a6,b6,-⟩:=G k5 (n:=5) (by omega);obtain⟨Y,k7,h7,a7,b7,-⟩:=G k6 (n:=400) (by omega);obtain⟨v8,k8,h8,a8,b8,-⟩:=G k7 (n:=120) (by omega);obtain⟨v9,k9,h9,a9,b9,-⟩:=G k8 (n:=9) (by omega);obtain⟨O,e1,s1⟩:=Yc3 ⟨a1,b1⟩;obtain⟨S,e2,s2⟩:=Z4e ⟨a2,b2⟩;have i1:(0:Int)<=v1/\v1<(([[I 8],[I 4],[I 5],[I 16],[I 23],[I 64]]:Rw).length:Int):=⟨a1,by simp;omega⟩;have i2:(0:Int)<=v2/\v2<(([[I 0],[I 1],[I 3],[I 6]]:Rw).length:Int):=⟨a2,by simp;omega⟩;have i3:(0:Int)<=v3/\v3<(([[I 40],[I 1],[I 3],[I 9],[I 1000]]:Rw).length:Int):=⟨a3,by simp;omega⟩;have i4:(0:Int)<=v4/\v4<(([[I 20],[I 2],[I 3],[I 5],[I 1000]]:Rw).length:Int):=⟨a4,by simp;omega⟩;have i5:(0:Int)<=v5/\v5<(([[I 30],[I 4],[I 5],[I 8],[I 1000]]:Rw).length:Int):=⟨a5,by simp;omega⟩;obtain⟨T,_,_,a0,-,-,s3,t3,-⟩:=Qq5 ⟨a3,b3⟩;obtain⟨_,U,_,-,b0,-,-,-,s4,t4,-⟩:=Qq5 ⟨a4,b4⟩;obtain⟨_,_,V,-,-,c0,-,-,-,-,s5,t5⟩:=Qq5 ⟨a5,b5⟩;have main : ∀ R, R = (if L = 0 then some [I O, I T, I U, I V, I (-16777216), I 16777216, I S, I 0, I 0, .vC Aa [], .vC Aa l, I k6] else
   (N (axS l [] L.toNat (v9-4) 0 ⟨O,T,U,V,-16777216,16777216,S,Y-200,4+v8,[]⟩ k9)).bind λo=>if o.1=1 then some [I (Ah (nth .vD o.2 11)),I (Ah (nth .vD o.2 12)),I (Ah (nth .vD o.2 13)),I (Ah (nth .vD o.2 14)),I (Ah (nth .vD o.2 15)),I (Ah (nth .vD o.2 16)),I (Ah (nth .vD o.2 17)),I (Ah (nth .vD o.2 18)),I (Ah (nth .vD o.2 19)), .vC Aa (AX (nth .vD o.2 1)), .vC Aa (AX (nth .vD o.2 20)),I (Ah (nth .vD o.2 21))]else none)->
   ∃(a:Axs) (k':Nat),R=some (Bk a++[.vC Aa l,I k'])/\AxOK a:=by
  intro R X;by_cases c:L=0
  ·rw[aa c]at X;refine⟨⟨O,T,U,V,-16777216,16777216,S,0,0,[]⟩,k6,X,?_⟩;exact⟨s1,s2,by simp,λh=>absurd rfl h,⟨by simp,by simp⟩,by simp,⟨s3,t3,s4,t4,s5,t5,rfl,rfl⟩⟩
  ·rw[ab c]at X;obtain⟨c1,k',g1,g2,g3⟩:=hL (a:=⟨O,T,U,V,-16777216,16777216,S,Y-200,4+v8,[]⟩) (n:=L.toNat) (v:=v9-4) (k:=k9) (by simp only;omega) (by omega) (Zy3 (by omega));rw[g1]at X;refine⟨⟨O,T,U,V,-16777216,16777216,S,Y-200,4+v8,c1⟩,k',?_,?_⟩
   ·rw[X];simp only[go_sem];try rfl
   ·exact⟨s1,s2,by simp only;omega,λ_=>by simp only;omega,g3,by simp only;omega,⟨s3,t3,s4,t4,s5,t5,rfl,rfl⟩⟩
 refine main _ ?_;rw[Znu];simp only[go_sem,h1,h2,h3,h4,h5,h6,aa i1,aa i2,aa i3,aa i4,aa i5,e1,e2,a0,b0,c0];by_cases c:L=0
 ·rw[aa c,aa c]
 ·rw[ab c,ab c];simp only[h7,h8,h9,go_sem,Ad (x:=v9-4),Ad (x:=Y-200),Ad (x:=4+v8)];have e:((L.toNat:Nat):Int)=L:=by omega
  simp only[axS,e,da];rfl
theorem Qvb (D:Src l) (k:Nat):∃(a:Axs) (k':Nat),Np [.vC Aa l,I k]=some (Bk a++[.vC Aa l,I k'])/\AxOK a:=by
 refine Zs1 (N:=Qth) (JR D) (fun{a n v k} M T O=> ?_) k;obtain⟨p,k',G,L,S⟩:=Zjq (MN:=Db) (JR D) M n 0 [] v k (by omega) rfl O;rw[dh]at G L;exact⟨p,k',G,L,S⟩
structure Ax3M (x : Ax3) : Prop where
 a:AxOK x.a
 b:AxOK x.b
 c:AxOK x.c
theorem Ax3M.ok {x:Ax3} (h:Ax3M x):Ax3OK x:=⟨by have:=h.a.bB;omega,by have:=h.b.bB;omega,by have:=h.c.bB;omega⟩
theorem Z8q (G:Src l):∃x:Ax3,OM [.vC Aa l]=some (AK x)/\Ax3M x:=by
 obtain⟨a,L,O,g1⟩:=Qvb G 0;obtain⟨b,S,M,g2⟩:=Qvb G L;obtain⟨c,V,N,T⟩:=Qvb G S;refine⟨⟨a,b,c⟩,?_,g1,g2,T⟩;have hf:=Tw l;unfold OM;generalize Np=U at*;generalize DM=X at*;rw[Yiy];have D:U [.vC Aa l,I 0]=some (Bk a++[.vC Aa l,I L]):=O;simp only[Bk,ax,ay]at D M N;simp only[go_sem,hf,D,M,N]
theorem Yai {x:Ax3} {mv lo hi f:Int} {d:Pt} (j:Nat):(CF p x mv lo hi (⟨[],0,f,d⟩,d) j).1.aQ=f/\(CF p x mv lo hi (⟨[],0,f,d⟩,d) j).1.aT=d:=by
 induction j with
 |zero=>exact⟨rfl,rfl⟩
 |succ j D=>rw[CF,(Zex _).1,(Zex _).2];exact D
theorem Zhm {p:Pth} {x:Ax3} {lo D mv f:Int} {d:Pt} (M:mv=1\/mv= -1) (G:GoodPath p) (I:Ax3OK x):∀(k j:Nat),j+k=p.aF.length->∀w,w=CF p x mv lo D (⟨[],0,f,d⟩,d) j->
  Al (Vk FW OZ) (P9 p x lo D mv w.1 w.2 j)=some (1,F6 x mv (CF p x mv lo D (⟨[],0,f,d⟩,d) p.aF.length).1 (CF p x mv lo D (⟨[],0,f,d⟩,d) p.aF.length).2)
 |0,j,U,w,L=>by
  have O:j=p.aF.length:=by omega
  refine AJ (o:=(1,_)) ?_ (by simp);rw[Zei,AR (by omega),L,O]
 |k+1,j,U,w,L=>by
  have T:=G.count;have hb:=ZG (mv:=mv) (lo:=lo) (hi:=D) (f:=f) (d:=d) I G.ok j (by omega);rw[<-L]at hb;have S:=Z8n (MV:=FW) (N:=OZ) (lo:=lo) (hi:=D) (now:=w.2) (j:=j) M G I hb (by omega) (by omega) (by omega) (fun{a b s aR} V=>Z4m M I hb (by omega) (by omega) (k:=268435456) (by omega) V);rw[AS S];exact Zhm M G I k (j+1) (by omega) _ (by rw[CF,<-L])
theorem Yju {MV:Fn} {N4 N10:Lp} {x:Ax3} {lo D mv f:Int}
  (L:N4 (Rs p x lo D mv ⟨[],0,f,a⟩ a 0 [] 0)=some (1,[.vC Aa (Fv p.aF p.aF.length), .vC Ap [],I lo,I D,I mv,I p.aQ.x,I p.aQ.y,I p.aQ.z, .vC Ag (p.aF.map Az), .vC AA (p.aD.map Aq),I a.x,I a.y,I a.z,I mv,I x.a.step,I x.a.aS,I x.a.bD,I x.a.bE,I x.a.low,I x.a.aY,I x.a.bB,I x.a.aV,I x.a.aO, .vC Aa (x.a.aW.map At),I x.b.step,I x.b.aS,I x.b.bD,I x.b.bE,I x.b.low,I x.b.aY,I x.b.bB,I x.b.aV,I x.b.aO, .vC Aa (x.b.aW.map At),I x.c.step,I x.c.aS,I x.c.bD,I x.c.bE,I x.c.low,I x.c.aY,I x.c.bB,I x.c.aV,I x.c.aO, .vC Aa (x.c.aW.map At),I 0,I f,I a.x,I a.y,I a.z]))
  (G:N10 (P9 p x lo D mv ⟨[],0,f,a⟩ a 0)=some (1,F6 x mv (CF p x mv lo D (⟨[],0,f,a⟩,a) p.aF.length).1 (CF p x mv lo D (⟨[],0,f,a⟩,a) p.aF.length).2)):
  Qf6 MV N4 N10 [.vC Ap [],I p.aQ.x,I p.aQ.y,I p.aQ.z, .vC Ag (p.aF.map Az), .vC AA (p.aD.map Aq),I lo,I D,I mv,I a.x,I a.y,I a.z,I mv,I x.a.step,I x.a.aS,I x.a.bD,I x.a.bE,I x.a.low,I x.a.aY,I x.a.bB,I x.a.aV,I x.a.aO, .vC Aa (x.a.aW.map At),I x.b.step,I x.b.aS,I x.b.bD,I x.b.bE,I x.b.low,I x.b.aY,I x.b.bB,I x.b.aV,I x.b.aO, .vC Aa (x.b.aW.map At),I x.c.step,I x.c.aS,I x.c.bD,I x.c.bE,I x.c.low,I x.c.aY,I x.c.bB,I x.c.aV,I x.c.aO, .vC Aa (x.c.aW.map At),I 0,I f,I a.x,I a.y,I a.z]=some (F6 x mv (CF p x mv lo D (⟨[],0,f,a⟩,a) p.aF.length).1 (CF p x mv lo D (⟨[],0,f,a⟩,a) p.aF.length).2):=by
 rw[Zzp];simp only[Rs,da,ic]at L;simp only[P9,F6,da,ic]at G;simp only[go_sem,ac,L,G]
theorem Zme {x:Ax3} {lo D mv f:Int} (L:mv=1\/mv= -1) (G:GoodPath p) (N:Ax3OK x):
  Qn [.vC Ap [],I p.aQ.x,I p.aQ.y,I p.aQ.z, .vC Ag (p.aF.map Az), .vC AA (p.aD.map Aq),I lo,I D,I mv,I a.x,I a.y,I a.z,I mv,I x.a.step,I x.a.aS,I x.a.bD,I x.a.bE,I x.a.low,I x.a.aY,I x.a.bB,I x.a.aV,I x.a.aO, .vC Aa (x.a.aW.map At),I x.b.step,I x.b.aS,I x.b.bD,I x.b.bE,I x.b.low,I x.b.aY,I x.b.bB,I x.b.aV,I x.b.aO, .vC Aa (x.b.aW.map At),I x.c.step,I x.c.aS,I x.c.bD,I x.c.bE,I x.c.low,I x.c.aY,I x.c.bB,I x.c.aV,I x.c.aO, .vC Aa (x.c.aW.map At),I 0,I f,I a.x,I a.y,I a.z]=some (F6 x mv (CF p x mv lo D (⟨[],0,f,a⟩,a) p.aF.length).1 (CF p x mv lo D (⟨[],0,f,a⟩,a) p.aF.length).2):=by
 refine Yju (MV:=FW) (N4:=OZ) (N10:=Qja) ?_ (Zhm L G N p.aF.length 0 (by omega) _ rfl);have h:=Q9c (M:=FW) (x:=x) (lo:=lo) (hi:=D) (mv:=mv) (t:=⟨[],0,f,a⟩) (now:=a) G.ok p.aF.length 0 (by omega);rw[T3]at h;exact h
theorem Yie {x:Ax3} (D:T (Bj p)=some [I (AT p.aF)]) (L:∀n h:Int,V [I n,I h]=some [I (BB n h)])
  (G:∀{lo hi mv f:Int},(mv=1\/mv= -1)->M [.vC Ap [],I p.aQ.x,I p.aQ.y,I p.aQ.z, .vC Ag (p.aF.map Az), .vC AA (p.aD.map Aq),I lo,I hi,I mv,I a.x,I a.y,I a.z,I mv,I x.a.step,I x.a.aS,I x.a.bD,I x.a.bE,I x.a.low,I x.a.aY,I x.a.bB,I x.a.aV,I x.a.aO, .vC Aa (x.a.aW.map At),I x.b.step,I x.b.aS,I x.b.bD,I x.b.bE,I x.b.low,I x.b.aY,I x.b.bB,I x.b.aV,I x.b.aO, .vC Aa (x.b.aW.map At),I x.c.step,I x.c.aS,I x.c.bD,I x.c.bE,I x.c.low,I x.c.aY,I x.c.bB,I x.c.aV,I x.c.aO, .vC Aa (x.c.aW.map At),I 0,I f,I a.x,I a.y,I a.z]=some (F6 x mv (CF p x mv lo hi (⟨[],0,f,a⟩,a) p.aF.length).1 (CF p x mv lo hi (⟨[],0,f,a⟩,a) p.aF.length).2)):
  Qjq M Z W V T (Bj p++AK x++[I a.x,I a.y,I a.z,I u,I r])=some (Bt (EK p x a u r)):=by
 have he:=Zpb M Z W V T p.aQ.x p.aQ.y p.aQ.z (p.aF.map Az) (p.aD.map Aq) x.a.step x.a.aS x.a.bD x.a.bE x.a.low x.a.aY x.a.bB x.a.aV x.a.aO (x.a.aW.map At) x.b.step x.b.aS x.b.bD x.b.bE x.b.low x.b.aY x.b.bB x.b.aV x.b.aO (x.b.aW.map At) x.c.step x.c.aS x.c.bD x.c.bE x.c.low x.c.aY x.c.bB x.c.aV x.c.aO (x.c.aW.map At) a.x a.y a.z u r;refine cy he ?_;unfold EK;simp only[Bj]at D;simp only[D,L,go_sem,Kg,Ot];generalize BB u (AT p.aF)=f at*;generalize BB r (AT p.aF)=t at*;by_cases c:t<f
 ·have h:=G (lo:=min f t) (hi:=max f t) (mv:= -1) (f:=f) (.inr rfl);simp only[F6]at h;simp only[h,go_sem,c,ew]
 ·have h:=G (lo:=min f t) (hi:=max f t) (mv:=1) (f:=f) (.inl rfl);simp only[F6]at h;simp only[h,go_sem,c,f9]
theorem Yc9 {x:Ax3} {d:Pt} {from_ to:Int} (D:GoodPath p) (G:Ax3OK x):Qa (Bj p++AK x++[I d.x,I d.y,I d.z,I from_,I to])=some (Bt (EK p x d from_ to)):=
 Yie (Zdw D.ok) (λ_ _=>V3) λL=>Zme L D G
theorem Ykr {x:Ax3} (d:Pt) (a b:Int) (D:GoodPath p) (G:Ax3OK x):(EK p x d a b).aE.length<=10000000/\0<=(EK p x d a b).length/\(EK p x d a b).length<=900000000000000:=by
 have I:=D.count;have h:=ZG (mv:=if BB a (AT p.aF)>BB b (AT p.aF)then-1 else 1) (lo:=min (BB a (AT p.aF)) (BB b (AT p.aF))) (hi:=max (BB a (AT p.aF)) (BB b (AT p.aF))) (f:=BB a (AT p.aF)) (d:=d) G D.ok p.aF.length (bt _);obtain⟨L,M,-⟩:=h;unfold EK;simp only;refine⟨by omega,by omega,by omega⟩
theorem Xr {x:Ax3} {mv:Int} {Q:Int->Pt->Prop}:∀{a s:Int} {d:Pt} {l:List Pce},chain x mv Q a s d l->a<=CX a l
 |a,_,_,[],_=>f6 _
 |a,s,d,c::l,h=>by
  obtain⟨-,-,G,-,D⟩:=h;have:=Xr D;unfold CX;omega
theorem RU {x:Ax3} {mv:Int} {Q:Int->Pt->Prop} (I:mv=1\/mv= -1):∀{a s:Int} {d:Pt} {l:List Pce},chain x mv Q a s d l->∀i,i<l.length->
  a<=(pcA l i).at_/\1<=(pcA l i).aR/\eI l i<=CX a l/\(s-((pcA l i).at_-a)<=(pcA l i).s/\(pcA l i).s<=s+((pcA l i).at_-a))/\((pcA l i).bC=0\/(pcA l i).bC=mv)
 |a,s,d,c::l,h,0,_=>by
  obtain⟨N,O,L,D,G⟩:=h;have:=Xr G;unfold eI;rw[J1];refine⟨by omega,L,by unfold CX;omega,by omega,?_⟩;rcases D with D|D
  ·exact .inr D.1
  ·exact .inl D.1
 |a,s,d,c::l,h,i+1,S=>by
  obtain⟨N,O,L,D,G⟩:=h;have M:=RU I G i (by simpa using S);unfold eI at M⊢;rw[HN];obtain⟨g1,g2,T,V,U⟩:=M;have X:c.bC*c.aR=0\/c.bC*c.aR=c.aR\/c.bC*c.aR= -c.aR:=by
   rcases D with D|D
   ·rw[D.1];rcases I with rfl|rfl<;>omega
   ·rw[D.1];omega
  refine⟨by omega,g2,by unfold CX;exact T,by omega,U⟩
theorem Q7u {x:Ax3} {mv:Int} {Q:Int->Pt->Prop} (L:mv=1\/mv= -1):∀{a s:Int} {d:Pt} {l:List Pce},chain x mv Q a s d l->∀i j,i<=j->j<l.length->eI l i<=eI l j
 |a,s,d,c::l,h,0,0,_,_=>f6 _
 |a,s,d,c::l,h,0,j+1,_,D=>by
  obtain⟨M,N,O,S,G⟩:=h;have:=RU L G j (by simpa using D);unfold eI at*;rw[J1,HN];omega
 |a,s,d,c::l,h,i+1,0,I,_=>by omega
 |a,s,d,c::l,h,i+1,j+1,I,D=>by
  obtain⟨M,N,O,S,G⟩:=h;have:=Q7u L G i j (by omega) (by simpa using D);unfold eI at*;rw[HN,HN];exact this
theorem Qv9 {x:Ax3} {mv:Int} {Q:Int->Pt->Prop}:∀{a s:Int} {d:Pt} {l:List Pce},chain x mv Q a s d l->l≠[]->eI l (l.length-1)=CX a l
 |a,s,d,[c],h,_=>by
  obtain⟨G,-⟩:=h;show eI [c] 0=CX a [c];unfold eI;rw[J1];simp only[CX];omega
 |a,s,d,c::e::l,h,_=>by
  obtain⟨-,-,-,-,D⟩:=h;have:=Qv9 D (by simp);have e1:(c::e::l).length-1=((e::l).length-1)+1:=by simp
  rw[e1];unfold eI at*;rw[HN,this];rfl
def mvP (p:Pth) (a b:Int):Int:=if BB a (AT p.aF)>BB b (AT p.aF)then-1 else 1
theorem Yes (p:Pth) (a b:Int):mvP p a b=1\/mvP p a b= -1:=by unfold mvP;split<;>simp
theorem Qln {x:Ax3} {d:Pt} {a b:Int} (I:Ax3OK x) (D:GoodPath p) (L:Qy0 p (mvP p a b) Q):
  ∃M,TC x (mvP p a b) Q (EK p x d a b) (BB b (AT p.aF)) M/\(EK p x d a b).aQ=BB a (AT p.aF)/\(EK p x d a b).aT=d:=by
 have S:=UX D;have T:0<=BB a (AT p.aF)/\BB a (AT p.aF)<=AT p.aF:=by unfold BB;omega
 have hb:0<=BB b (AT p.aF)/\BB b (AT p.aF)<=AT p.aF:=by unfold BB;omega
 have G:=λmv lo N f=>Yai (p:=p) (x:=x) (mv:=mv) (lo:=lo) (hi:=N) (f:=f) (d:=d) p.aF.length;unfold EK mvP at*;simp only;generalize BB a (AT p.aF)=f at*;generalize BB b (AT p.aF)=t at*;have h:=Zdv (p:=p) (x:=x) (mv:=if f>t then-1 else 1) (lo:=min f t) (hi:=max f t) (f:=f) (d:=d) (Q:=Q) (by split<;>simp) I D.ok (by omega) (by split<;>omega) L p.aF.length (bt _);have O:Kc p.aF (if f>t then-1 else 1) (min f t) (max f t) p.aF.length=t:=by
  unfold Kc;rw[i6,T3,Zd8];by_cases c:f>t
  ·rw[aa c,aa];omega
  ·rw[ab c,ab];omega
 rw[O]at h;exact⟨_,h,(G _ _ _ _).1,(G _ _ _ _).2⟩
theorem Z8r {x:Ax3} {s:Int} (D:u=1\/u= -1) (h:TC x u Q t s a) (hb:t.aE.length<=10000000/\0<=t.length/\t.length<=900000000000000) (N:0<=t.aQ/\t.aQ<=263886834032640):TQ t:=by
 obtain⟨G,L,-,-⟩:=h;refine⟨hb.1,hb.2,λi I=> ?_,Q7u D G,λM=>by rw[Qv9 G M,L],N,λi I=> ?_,λi I=> ?_⟩
 ·have:=RU D G i I;rw[L]at this;exact⟨this.1,this.2.1,this.2.2.1⟩
 ·have:=RU D G i I;rw[L]at this;unfold eI at this;omega
 ·have:=(RU D G i I).2.2.2.2;rcases D with rfl|rfl
  ·rcases this with h|h
   ·exact .inl h
   ·exact .inr (.inl h)
  ·rcases this with h|h
   ·exact .inl h
   ·exact .inr (.inr h)
theorem Qxt {x:Ax3} (d:Pt) (a b:Int) (G:Ax3OK x) (D:GoodPath p):TQ (EK p x d a b):=by
 have M:=UX D;obtain⟨N,I,L,-⟩:=Qln (d:=d) (a:=a) (b:=b) (Q:=λ_ _=>True) G D (λ_ _ _ _ _ _ _ _=>trivial);exact Z8r (Yes p a b) I (Ykr d a b D G) (by rw[L];unfold BB;omega)
def Ch (a:Axs) (i:Nat):Int:=a.aW.getD i 0
def KF (a:Axs) (p:Int):Int:=
 if a.aW=[]then 0
 else if p<=a.aV then Ch a 0
 else if(p-a.aV)/a.aO>=a.aW.length-1 then Ch a (a.aW.length-1)
 else Ch a ((p-a.aV)/a.aO).toNat+Bb ((Ch a (((p-a.aV)/a.aO).toNat+1)-Ch a ((p-a.aV)/a.aO).toNat)*(p-a.aV-(p-a.aV)/a.aO*a.aO)) a.aO
def Iv (a:Axs) (p:Int):Int:=Bb (p+KF a p) a.step
def okB (p:Int):Prop:= -1000000000<=p/\p<=1000000000
theorem Q4g {l:List Int} (h:l≠[]):0<l.length:=by
 cases l with
 |nil=>exact absurd rfl h
 |cons _ _=>simp
theorem QN {a:Axs} (h:AxOK a) {i:Nat} (D:i<a.aW.length): -4096<=Ch a i/\Ch a i<=4096:=by
 have e:Ch a i=a.aW[i]:=by unfold Ch;simp[D]
 rw[e];exact h.aW.1 _ (bh _)
theorem TX {a:Axs} (D:i<a.aW.length):nth [] (a.aW.map At) i=[I (Ch a i)]:=by
 have e:Ch a i=a.aW[i]:=by unfold Ch;simp[D]
 rw[e];exact Em _ _ _ _ D
theorem Zax {a:Axs} (h:AxOK a) (D:a.aW≠[]) {p:Int} (G: ¬p<=a.aV) (I: ¬(p-a.aV)/a.aO>=a.aW.length-1):
  ∃(i:Nat) (r:Int),((p-a.aV)/a.aO=i)/\i+1<a.aW.length/\0<=r/\r<a.aO/\p-a.aV=i*a.aO+r/\p-a.aV-(p-a.aV)/a.aO*a.aO=r:=by
 have L:=h.aO D;have e0:=Int.mul_ediv_add_emod (p-a.aV) a.aO;have e1:=Int.emod_nonneg (p-a.aV) (show a.aO≠0 by omega);have e2:=jl (p-a.aV) (show 0<a.aO by omega);have e3:0<=(p-a.aV)/a.aO:=Int.ediv_nonneg (by omega) (by omega);refine⟨((p-a.aV)/a.aO).toNat,(p-a.aV)%a.aO,by omega,by omega,e1,e2,?_,?_⟩
 ·rw[Int.toNat_of_nonneg e3,il];omega
 ·rw[il ((p-a.aV)/a.aO)];omega
theorem Zih {a:Axs} (h:AxOK a) (D:a.aW≠[]) {i:Nat} (I:i+1<a.aW.length) {r:Int} (G:0<=r/\r<=a.aO):
  (-30<=Ch a (i+1)-Ch a i/\Ch a (i+1)-Ch a i<=30)/\(Bb ((Ch a (i+1)-Ch a i)*r) a.aO).natAbs<=31:=by
 have M:=h.aO D;have N:=h.aW.2 i I;have L: -30<=Ch a (i+1)-Ch a i/\Ch a (i+1)-Ch a i<=30:=by unfold Ch;omega
 refine⟨L,Qhs (by omega) ?_⟩;have m1:(Ch a (i+1)-Ch a i)*r<=31*r:=fj (by omega) G.1;have m2: -31*r<=(Ch a (i+1)-Ch a i)*r:=fj (by omega) G.1;have e:((31:Nat):Int)=31:=rfl;rw[e];omega
theorem Q9w {a:Axs} (h:AxOK a) (p:Int): -5000<=KF a p/\KF a p<=5000:=by
 unfold KF;by_cases c:a.aW=[]
 ·rw[aa c];omega
 ·have I:=Q4g c;rw[ab c];by_cases D:p<=a.aV
  ·rw[aa D];have:=QN h (show 0<a.aW.length from I);omega
  ·rw[ab D];by_cases G:(p-a.aV)/a.aO>=a.aW.length-1
   ·rw[aa G];have:=QN h (show a.aW.length-1<a.aW.length by omega);omega
   ·rw[ab G];obtain⟨i,r,e1,e2,e3,M,N,L⟩:=Zax h c D G;rw[L,e1,af];have b1:=QN h (show i<a.aW.length by omega);have b2:=(Zih h c e2 (r:=r) (by omega)).2;omega
theorem Zy0 {a:Axs} (h:AxOK a) {v:Int} (D:v.natAbs<=1000010000):KC (Bk a++[I v])=some [I (Bb v a.step)]:=by
 have G:=h.step;have he:=Zn2 a.step a.aS a.bD a.bE a.low a.aY a.bB a.aV a.aO (a.aW.map At) v;unfold KC;refine cy he ?_;rw[Ad (x:=2*v),Ad (x:=2*v+a.step),Ad (x:=2*a.step)];have L:=Int.tmod_add_mul_tdiv (2*v+a.step) (2*a.step);have M:=Int.tmod_lt_of_pos (2*v+a.step) (show 0<2*a.step by omega);have N:=Int.lt_tmod_of_pos (2*v+a.step) (show 0<2*a.step by omega);have O:((2*v+a.step).tdiv (2*a.step)).natAbs<=(2*v+a.step).natAbs:=by rw[Int.natAbs_tdiv];exact f8 _ _
 generalize(2*v+a.step).tdiv (2*a.step)=q at*;generalize(2*v+a.step).tmod (2*a.step)=r at*;have e1:2*a.step*q=q*(2*a.step):=il _ _;rw[AR (by omega),AR (by omega),AR (by omega),AR (by omega),Ad (x:=q)];by_cases h:r<0
 ·rw[Cz h,Ad,Ji (k:=q-1) (by omega)]
  ·rw[Int.sub_mul];omega
  ·rw[Int.sub_add_cancel];omega
 ·rw[AR h,Ji (k:=q) (by omega)]
  ·omega
  ·rw[jh];omega
theorem Zzm {a:Axs} (h:AxOK a) {p:Int} (T:okB p):J3 (Bk a++[I p])=some [I (KF a p)]:=by
 unfold okB at T;have ho:=h.aV;have hc:=h.count;have he:=Z8k CU a.step a.aS a.bD a.bE a.low a.aY a.bB a.aV a.aO (a.aW.map At) p;unfold J3;have U:=fun{x y:Int} (hx:x.natAbs<=30) (hy:y.natAbs<=123) (S:4<=a.aO/\a.aO<=123)=>Zeb (a:=x) (b:=y) (c:=a.aO) (by omega) (by omega) (by omega);generalize CU=M at*;refine cy he ?_;unfold KF;rw[ac];by_cases c:a.aW=[]
 ·rw[aa c,c];rfl
 ·have V:=Q4g c;have S:=h.aO c;have e1:O ((a.aW.length:Int)-1)=((a.aW.length-1:Nat):Int):=by rw[Ad];omega
  have e2:O (p-a.aV)=p-a.aV:=Ad;rw[ab c,e2,e1];by_cases L:p<=a.aV
  ·rw[aa L];simp only[go_sem,TX V];rw[ab,aa,aa]
  ·have e3:O ((p-a.aV).tdiv a.aO)=(p-a.aV)/a.aO:=by
    rw[co (by omega)];have:=Int.ediv_nonneg (show 0<=p-a.aV by omega) (show 0<=a.aO by omega);have:=Int.ediv_le_self a.aO (show 0<=p-a.aV by omega);exact Ad
   rw[ab L,e3];by_cases N:(p-a.aV)/a.aO>=(a.aW.length:Int)-1
   ·rw[aa N];simp only[go_sem,af,TX (show a.aW.length-1<a.aW.length by omega)];rw[ab,ab,ab,ab,aa,aa]
   ·rw[ab N];obtain⟨i,r,g1,g2,g3,g4,g5,X⟩:=Zax h c L N;obtain⟨n1,n2⟩:=Zih h c g2 (r:=r) (by omega);have b1:=QN h (show i<a.aW.length by omega);rw[X,g1]at*;rw[af];have Y:O ((i:Int)+1)=((i+1:Nat):Int):=by rw[Ad];omega
    have hmul:(i:Int)*a.aO=p-a.aV-r:=by omega
    have w2:O (p-a.aV-O ((i:Int)*a.aO))=r:=by rw[hmul,Ad (x:=p-a.aV-r),Ad];omega
    have D:(0:Int)<=(i:Int)/\(i:Int)<(a.aW.length:Int):=by omega
    have G:(0:Int)<=((i+1:Nat):Int)/\((i+1:Nat):Int)<(a.aW.length:Int):=by omega
    simp only[go_sem,Y,w2,af,TX (show i<a.aW.length by omega),TX g2,aa D,aa G];have b2:=QN h g2;generalize Ch a (i+1)=y at*;generalize Ch a i=z at*;rw[ab,ab,ab,ab,ab,Ad (x:=y-z),U (by omega) (by omega) S];simp only[go_sem];rw[Ad]
theorem Yf6 {a:Axs} (h:AxOK a) {p:Int} (D:okB p):Na (Bk a++[I p])=some [I (Iv a p)]:=by
 have hb:=Q9w h p;have G:=Zzm h D;unfold okB at D;have L:=Zy0 h (v:=p+KF a p) (by omega);have he:=Z84 KC J3 a.step a.aS a.bD a.bE a.low a.aY a.bB a.aV a.aO (a.aW.map At) p;unfold Na;generalize KC=M at*;generalize J3=N at*;refine cy he ?_;simp only[Bk,ax,ay]at G L;simp only[G,go_sem,Ad (x:=p+KF a p),L];rfl
def IB (a:Axs) (d:Int):Int:=if d= -1 then-a.bB else 0
def Gc (a:Axs) (bC at_ was aT u:Int):Int:=if bC≠0\/was=aT then IB a aT else if aT= -1 then-min (u-at_) a.bB else min (u-at_) a.bB-a.bB
theorem SH {a:Axs} (hb:0<=a.bB/\a.bB<=1000) (v:Int):JM (Bk a++[I v])=some [I (IB a v)]:=by
 have he:=Zk5 a.step a.aS a.bD a.bE a.low a.aY a.bB a.aV a.aO (a.aW.map At) v;unfold JM;refine cy he ?_;unfold IB;by_cases c:v= -1
 ·rw[BO (by simp[c]),aa c,Ad];congr 3;omega
 ·rw[BZ (by simp[c]),ab c]
theorem Z43 {a:Axs} {c:Pce} (S:∀v:Int,M (Bk a++[I v])=some [I (IB a v)]) (hb:0<=a.bB/\a.bB<=1000) (X:0<=u-c.at_/\u-c.at_<=2000000000000000):
  QK M (Bk a++AZ c++[I 0,I u])=some [I (Gc a c.bC c.at_ c.was.x c.aT.x u)]:=by
 have he:=Qnq M a.step a.aS a.bD a.bE a.low a.aY a.bB a.aV a.aO (a.aW.map At) c.at_ c.aR c.s c.bC c.was.x c.was.y c.was.z c.aT.x c.aT.y c.aT.z 0 u;refine cy he ?_;have D:=S c.aT.x;simp only[Bk,ax,ay]at D;have e1:O (0+1)=1:=rfl;have e2:O (1+1)=2:=rfl;have T:O (u-c.at_)=u-c.at_:=Ad;have U:O (0-min (u-c.at_) a.bB)= -min (u-c.at_) a.bB:=by rw[Ad];omega
 have V:O (min (u-c.at_) a.bB-a.bB)=min (u-c.at_) a.bB-a.bB:=Ad;unfold Gc;simp only[go_sem,e1,e2,Kg,T,U,V,Nat.reduceAdd,ic,jr,jg,Int.reduceEq,D];by_cases G:c.bC=0
 ·by_cases L:c.was.x=c.aT.x
  ·simp[G,L]
  ·by_cases N:c.aT.x= -1
   ·simp[G,N,show c.was.x≠-1 from λe=>L (by rw[e,N])]
   ·simp[G,L,N]
 ·simp[G]
theorem Zz0 {a:Axs} {c:Pce} (S:∀v:Int,M (Bk a++[I v])=some [I (IB a v)]) (hb:0<=a.bB/\a.bB<=1000) (X:0<=u-c.at_/\u-c.at_<=2000000000000000):
  QK M (Bk a++AZ c++[I (O (0+1)),I u])=some [I (Gc a c.bC c.at_ c.was.y c.aT.y u)]:=by
 have he:=Qnq M a.step a.aS a.bD a.bE a.low a.aY a.bB a.aV a.aO (a.aW.map At) c.at_ c.aR c.s c.bC c.was.x c.was.y c.was.z c.aT.x c.aT.y c.aT.z (O (0+1)) u;refine cy he ?_;have D:=S c.aT.y;simp only[Bk,ax,ay]at D;have e1:O (0+1)=1:=rfl;have e2:O (1+1)=2:=rfl;have T:O (u-c.at_)=u-c.at_:=Ad;have U:O (0-min (u-c.at_) a.bB)= -min (u-c.at_) a.bB:=by rw[Ad];omega
 have V:O (min (u-c.at_) a.bB-a.bB)=min (u-c.at_) a.bB-a.bB:=Ad;unfold Gc;simp only[go_sem,e1,e2,Kg,T,U,V,Nat.reduceAdd,ic,jr,jg,Int.reduceEq,D];by_cases G:c.bC=0
 ·by_cases L:c.was.y=c.aT.y
  ·simp[G,L]
  ·by_cases N:c.aT.y= -1
   ·simp[G,N,show c.was.y≠-1 from λe=>L (by rw[e,N])]
   ·simp[G,L,N]
 ·simp[G]
theorem Yb9 {a:Axs} {c:Pce} (S:∀v:Int,M (Bk a++[I v])=some [I (IB a v)]) (hb:0<=a.bB/\a.bB<=1000) (X:0<=u-c.at_/\u-c.at_<=2000000000000000):
  QK M (Bk a++AZ c++[I (O (O (0+1)+1)),I u])=some [I (Gc a c.bC c.at_ c.was.z c.aT.z u)]:=by
 have he:=Qnq M a.step a.aS a.bD a.bE a.low a.aY a.bB a.aV a.aO (a.aW.map At) c.at_ c.aR c.s c.bC c.was.x c.was.y c.was.z c.aT.x c.aT.y c.aT.z (O (O (0+1)+1)) u;refine cy he ?_;have D:=S c.aT.z;simp only[Bk,ax,ay]at D;have e1:O (0+1)=1:=rfl;have e2:O (1+1)=2:=rfl;have T:O (u-c.at_)=u-c.at_:=Ad;have U:O (0-min (u-c.at_) a.bB)= -min (u-c.at_) a.bB:=by rw[Ad];omega
 have V:O (min (u-c.at_) a.bB-a.bB)=min (u-c.at_) a.bB-a.bB:=Ad;unfold Gc;simp only[go_sem,e1,e2,Kg,T,U,V,Nat.reduceAdd,ic,jr,jg,Int.reduceEq,D];by_cases G:c.bC=0
 ·by_cases L:c.was.z=c.aT.z
  ·simp[G,L]
  ·by_cases N:c.aT.z= -1
   ·simp[G,N,show c.was.z≠-1 from λe=>L (by rw[e,N])]
   ·simp[G,L,N]
 ·simp[G]
theorem Zvx {a:Axs} (hb:0<=a.bB/\a.bB<=1000) {bC at_ was aT u:Int} (D:0<=u-at_): -1000<=Gc a bC at_ was aT u/\Gc a bC at_ was aT u<=1000:=by
 unfold Gc IB
 (repeat' split)<;>omega
theorem Zxl {g:Sgm} (G:bd B26 a) (I:1<=g.len/\g.len<=268435456/\bd B26 g.to) (N:0<=d/\d<=g.len):bd 201326592 (Pw a g d):=by
 have key:∀u v:Int,u.natAbs<=B26->v.natAbs<=B26->(v+Bb ((u-v)*d) g.len).natAbs<=201326592:=by
  intro u v O M;have S:=Fk O M;have T:=Q1c (D:=u-v) (L:=g.len) (d:=d) (by omega) (bj S (by decide)) N;have U:v.natAbs<=67108864:=M;omega
 exact⟨key _ _ I.2.2.1 G.1,key _ _ I.2.2.2.1 G.2.1,key _ _ I.2.2.2.2 G.2.2⟩
theorem Z1e (h:GoodPath p) (s:Int):bd 201326592 (atP p s):=by
 unfold atP;by_cases c:p.aF=[]
 ·rw[c];exact AI h.aQ (by decide)
 ·have D:=h.ok;obtain⟨G,I,L,M⟩:=Qli (l:=p.aF) (a:=p.aQ) (s:=max s 0) c (λg N=>(D.seg g N).1) (by omega);rw[M];exact Zxl (Zi3 h.aQ D G) (D.seg _ (H4 G)) ⟨I,L⟩
theorem YM {a:Axs} (h:AxOK a) {p:Int} (D:okB p):(Iv a p).natAbs<=2000000000:=by
 have hb:=Q9w h p;have G:=h.step;unfold okB at D;unfold Iv;refine Qhs (by omega) ?_;have e:((2000000000:Nat):Int)=2000000000:=rfl;rw[e];omega
def shT (a:Axs) (t:Trk) (u:Int) (f:Pt->Int):Int:=if t.aE=[]then IB a (f t.aT)else Gc a (pcA t.aE (iT t u)).bC (pcA t.aE (iT t u)).at_ (f (pcA t.aE (iT t u)).was) (f (pcA t.aE (iT t u)).aT) (clT t u)
def TI (p:Pth) (x:Ax3) (s:Int):Pt:=⟨Iv x.a (atP p s).x,Iv x.b (atP p s).y,Iv x.c (atP p s).z⟩
def KV (p:Pth) (x:Ax3) (t:Trk) (u:Int):Pt:=
 ⟨(TI p x (A7 t u)).x+shT x.a t u Pt.x,(TI p x (A7 t u)).y+shT x.b t u Pt.y,(TI p x (A7 t u)).z+shT x.c t u Pt.z⟩
theorem Qyi (h:TQ t) (G:∀i,i+1<t.aE.length->(pcA t.aE (i+1)).at_=eI t.aE i) (M:t.aE≠[]->(pcA t.aE 0).at_=0) (u:Int) (D:t.aE≠[]):(pcA t.aE (iT t u)).at_<=clT t u/\(0<iT t u->(pcA t.aE (iT t u)).at_<clT t u):=by
 have I:=Mm h u D;have N:=ON h u;by_cases c:iT t u=0
 ·rw[c,M D];exact⟨N.1,λg=>absurd g (by omega)⟩
 ·obtain⟨j,L⟩:∃j,iT t u=j+1:=⟨iT t u-1,by omega⟩;rw[L]at I⊢;rw[G j I];have: ¬clT t u<=eI t.aE j:=by
   intro g;have:=US (show j<t.aE.length by omega) g;unfold iT at L;omega
  exact⟨by omega,λ_=>by omega⟩
theorem Ygy (h:TQ t) (u:Int):clT t (clT t u)=clT t u:=by have:=h.len;unfold clT BB;omega
theorem Yaa (h:TQ t) (u:Int):A7 t (clT t u)=A7 t u:=by unfold A7 iT;rw[Ygy h]
theorem Q36 (h:TQ t) (u:Int): -3000000000000000<=A7 t u/\A7 t u<=3000000000000000:=by
 unfold A7;by_cases c:t.aE=[]
 ·rw[aa c];have:=h.aQ;omega
 ·have G:=Mm h u c;have I:=h.pos _ G;have L:=h.s _ G;have D:=h.bC _ G;have M:=ON h u;have N:=h.len;rw[ab c];unfold eI at I;rcases D with D|D|D<;>rw[D]<;>omega
theorem Yia (h:GoodPath p) (s:Int):okB (atP p s).x/\okB (atP p s).y/\okB (atP p s).z:=by
 obtain⟨D,G,I⟩:=Z1e h s;unfold okB;omega
structure TH (t : Trk) : Prop where
 q:TQ t
 at0:t.aE≠[]->(pcA t.aE 0).at_=0
 at1:∀i,i+1<t.aE.length->(pcA t.aE (i+1)).at_=eI t.aE i
theorem Qnr {a:Axs} (hb:0<=a.bB/\a.bB<=1000) {t:Trk} (h:TH t) (u:Int) (f:Pt->Int): -1000<=shT a t u f/\shT a t u f<=1000:=by
 unfold shT;by_cases c:t.aE=[]
 ·rw[aa c];unfold IB;split<;>omega
 ·rw[ab c];exact Zvx hb (by have:=(Qyi h.q h.at1 h.at0 u c).1;omega)
theorem Zvv {x:Ax3} (hp:GoodPath p) (D:Ax3M x) (G:TH t) (hC:H [I u,I t.length]=some [I (clT t u)]) (hL:S (Bt t++[I (clT t u)])=some [I (A7 t u)]) (hA:T (Bj p++[I (A7 t u)])=some (ptR (atP p (A7 t u))))
  (L:V (Bt t++[I (clT t u)])=some [I (if t.aE=[]then-1 else(iT t u:Int))]) (hM:∀{a:Axs} {q:Int},AxOK a->okB q->W (Bk a++[I q])=some [I (Iv a q)]) (hD:∀{a:Axs} (v:Int),(0<=a.bB/\a.bB<=1000)->Z (Bk a++[I v])=some [I (IB a v)])
  (h0:∀{a:Axs} {c:Pce} {u:Int},(0<=a.bB/\a.bB<=1000)->(0<=u-c.at_/\u-c.at_<=2000000000000000)->M (Bk a++AZ c++[I 0,I u])=some [I (Gc a c.bC c.at_ c.was.x c.aT.x u)])
  (h1:∀{a:Axs} {c:Pce} {u:Int},(0<=a.bB/\a.bB<=1000)->(0<=u-c.at_/\u-c.at_<=2000000000000000)->M (Bk a++AZ c++[I (O (0+1)),I u])=some [I (Gc a c.bC c.at_ c.was.y c.aT.y u)])
  (h2:∀{a:Axs} {c:Pce} {u:Int},(0<=a.bB/\a.bB<=1000)->(0<=u-c.at_/\u-c.at_<=2000000000000000)->M (Bk a++AZ c++[I (O (O (0+1)+1)),I u])=some [I (Gc a c.bC c.at_ c.was.z c.aT.z u)]):
  Qfj M Z W V T S H (Bj p++AK x++Bt t++[I u])=some (ptR (KV p x t u)):=by
 have he:=Yha M Z W V T S H u p x t;refine cy he ?_;obtain⟨o1,o2,o3⟩:=Yia hp (A7 t u);have m1:=hM D.a o1;have m2:=hM D.b o2;have m3:=hM D.c o3;have b1:=YM D.a o1;have b2:=YM D.b o2;have b3:=YM D.c o3;have s1:=Qnr D.ok.a G u Pt.x;have s2:=Qnr D.ok.b G u Pt.y;have s3:=Qnr D.ok.c G u Pt.z;unfold KV TI;generalize Iv x.a (atP p (A7 t u)).x=q1 at*;generalize Iv x.b (atP p (A7 t u)).y=q2 at*;generalize Iv x.c (atP p (A7 t u)).z=q3 at*;have w1:O (q1+shT x.a t u Pt.x)=q1+shT x.a t u Pt.x:=Ad;have w2:O (q2+shT x.b t u Pt.y)=q2+shT x.b t u Pt.y:=Ad;have w3:O (q3+shT x.c t u Pt.z)=q3+shT x.c t u Pt.z:=Ad;by_cases c:t.aE=[]
 ·have N:=hD t.aT.x D.ok.a;have U:=hD t.aT.y D.ok.b;have X:=hD t.aT.z D.ok.c;unfold shT at*;rw[aa c]at L;simp only[aa c]at w1 w2 w3⊢;simp only[Bj,Bt,Bk,ax,ay]at hL hA L N U X m1 m2 m3;simp only[hC,hL,hA,L,go_sem,m1,m2,m3,N,U,X,w1,w2,w3];rw[aa,aa,aa]
 ·have hi:=Mm G.q u c;have a1:=G.q.count;have a3:=(Qyi G.q G.at1 G.at0 u c).1;have a4:=ON G.q u;have hlen:=G.q.len;have a2:=G.q.pos _ hi;have a0:(0:Int)<=(iT t u:Int)/\(iT t u:Int)<(t.aE.length:Int):=by omega
  have Y: ¬((iT t u:Int)<0):=by omega
  have N:=h0 (c:=pcA t.aE (iT t u)) (u:=clT t u) D.ok.a (by omega);have U:=h1 (c:=pcA t.aE (iT t u)) (u:=clT t u) D.ok.b (by omega);have X:=h2 (c:=pcA t.aE (iT t u)) (u:=clT t u) D.ok.c (by omega);unfold shT at*;rw[ab c]at L;simp only[ab c]at w1 w2 w3⊢;simp only[Bj,Bt,Bk,AZ,ax,ay]at hL hA L N U X m1 m2 m3;simp only[hC,hL,hA,L,go_sem,m1,m2,m3,ac,aa a0,af,Ul hi,ab Y,N,U,X,w1,w2,w3]
theorem Yhk {x:Ax3} (M:GoodPath p) (N:Ax3M x) (D:TH t) (u:Int):E7 (Bj p++AK x++Bt t++[I u])=some (ptR (KV p x t u)):=by
 have T:=Q36 D.q u;have G:=VC D.q (clT t u);rw[Yaa D.q]at G;exact Zvv M N D V3 G (Ye6 M (by unfold i64;omega)) (Q28 D.q u) (λO S=>Yf6 O S) (λv hb=>SH hb v) (λhb L=>Z43 (SH hb) hb L) (λhb L=>Zz0 (SH hb) hb L) (λhb L=>Yb9 (SH hb) hb L)
theorem Q13 {x:Ax3} {a s:Int} {l:List Pce} (h:chain x u Q a s b l) (D:l≠[]):(pcA l 0).at_=a:=by
 cases l with
 |nil=>exact absurd rfl D
 |cons c l=>rw[J1];exact h.1
theorem Qzk {x:Ax3} {mv:Int} {Q:Int->Pt->Prop}:∀{a s:Int} {d:Pt} {l:List Pce},chain x mv Q a s d l->∀i,i+1<l.length->(pcA l (i+1)).at_=eI l i
 |a,s,d,[],h,i,D=>by simp at D
 |a,s,d,c::l,h,0,D=>by
  obtain⟨I,L,M,N,G⟩:=h;unfold eI;rw[HN,J1,Q13 G (λe=>by rw[e]at D;simp at D),I]
 |a,s,d,c::l,h,i+1,D=>by
  obtain⟨I,L,M,N,G⟩:=h;have:=Qzk G i (by simpa using D);unfold eI at*;rw[HN,HN];exact this
theorem Zvi {x:Ax3} (d:Pt) (a b:Int) (D:Ax3OK x) (G:GoodPath p):TH (EK p x d a b):=by
 obtain⟨L,I,M,-⟩:=Qln (d:=d) (a:=a) (b:=b) (Q:=λ_ _=>True) D G (λ_ _ _ _ _ _ _ _=>trivial);exact⟨Qxt d a b D G,Q13 I.ch,Qzk I.ch⟩
def wF (z:Int):List Pce->Int
 |[]=> -1
 |c::l=>if c.bC≠0/\0<=(z-c.s)*c.bC/\(z-c.s)*c.bC<=c.aR then c.at_+(z-c.s)*c.bC else wF z l
def Cr (t:Trk) (z:Int):Int:=if z=t.aQ then 0 else wF z t.aE
def plL:List Pce->Int->Int
 |[],_=>0
 |c::l,u=>if u<=c.at_+c.aR then c.s+c.bC*(u-c.at_)else plL l u
theorem Qvs:∀{l:List Pce} {u:Int},fI l u<l.length->plL l u=(pcA l (fI l u)).s+(pcA l (fI l u)).bC*(u-(pcA l (fI l u)).at_)
 |[],_,h=>by simp at h
 |c::l,u,h=>by
  unfold fI at h⊢;unfold plL;by_cases D:u<=c.at_+c.aR
  ·rw[aa D,aa D,J1]
  ·rw[ab D]at h⊢;rw[ab D,HN];exact Qvs (by simpa using h)
theorem Mo (h:TQ t) (u:Int) (D:t.aE≠[]):A7 t u=plL t.aE (clT t u):=by
 have G:=Mm h u D;unfold A7;rw[ab D];exact(Qvs G).symm
theorem Ql8 {x:Ax3} {mv:Int} {Q:Int->Pt->Prop} (I:mv=1\/mv= -1):∀{a s:Int} {d:Pt} {l:List Pce},chain x mv Q a s d l->0<=mv*(C7 s l-s)
 |a,s,d,[],_=>by simp[C7]
 |a,s,d,c::l,h=>by
  obtain⟨N,O,S,D,L⟩:=h;have M:=Ql8 I L;unfold C7;generalize C7 (s+c.bC*c.aR) l=E at*;have G:c.bC=mv\/c.bC=0:=by rcases D with D|D<;>simp[D.1]
  rcases G with G|G<;>rw[G]at M<;>rcases I with rfl|rfl<;>omega
theorem Q1p {x:Ax3} {mv:Int} {Q:Int->Pt->Prop} (D:mv=1\/mv= -1) (z:Int):∀{a s:Int} {d:Pt} {l:List Pce},chain x mv Q a s d l->
  (mv*(z-s)<0->wF z l= -1)/\(0<mv*(z-C7 s l)->wF z l= -1)/\
  (0<mv*(z-s)->mv*(z-C7 s l)<=0->a<wF z l/\wF z l<=CX a l/\plL l (wF z l)=z/\∀v,a<=v->v<wF z l->mv*(plL l v-z)<0)
 |a,s,d,[],_=>by
  simp only[C7,wF];exact⟨λ_=>trivial,λ_=>trivial,λL M=>absurd L (by omega)⟩
 |a,s,d,c::l,h=>by
  obtain⟨L,M,h3,O,V⟩:=h;obtain⟨i1,Y,S⟩:=Q1p D z V;have N:=Ql8 D V;have a1:=Xr V;have G:c.bC=mv\/c.bC=0:=by rcases O with O|O<;>simp[O.1]
  simp only[C7,CX];generalize C7 (s+c.bC*c.aR) l=E at*;generalize CX (a+c.aR) l=A at*;have key : (0 < mv * (z - (s + c.bC * c.aR)) -> mv * (z - E) <= 0 -> wF z (c :: l) = wF z l -> (∀ v, a <= v -> v <= a + c.aR -> mv * (s + c.bC * (v - a) - z) < 0) ->
    a<wF z (c::l)/\wF z (c::l)<=A/\plL (c::l) (wF z (c::l))=z/\∀v,a<=v->v<wF z (c::l)->mv*(plL (c::l) v-z)<0):=by
   intro g1 g2 g3 g4;obtain⟨k1,k2,k3,k4⟩:=S g1 g2;rw[g3];refine⟨by omega,k2,?_,?_⟩
   ·unfold plL;rw[ab];exact k3
   ·intro v T U;unfold plL;by_cases w3:v<=c.at_+c.aR
    ·rw[aa w3,L,M];exact g4 v T (by omega)
    ·rw[ab w3];exact k4 v (by omega) U
  rcases G with G|G
  ·
   have a0:c.bC≠0:=by rcases D with rfl|rfl<;>omega
   rw[G]at i1 S key;by_cases X:0<=(z-s)*mv/\(z-s)*mv<=c.aR
   ·have I:wF z (c::l)=a+(z-s)*mv:=by unfold wF;rw[M,G,L,aa ⟨by omega,X.1,X.2⟩]
    rw[I];refine⟨λg=> ?_,λg=> ?_,λg1 g2=>⟨?_,?_,?_,?_⟩⟩
    ·rcases D with rfl|rfl<;>omega
    ·rw[G]at N;rcases D with rfl|rfl<;>omega
    ·rcases D with rfl|rfl<;>omega
    ·omega
    ·unfold plL;rw[aa,L,M,G];rcases D with rfl|rfl<;>omega
    ·intro v T U;unfold plL;rw[aa,L,M,G];rcases D with rfl|rfl<;>omega
   ·have I:wF z (c::l)=wF z l:=by
     show(if _ then _ else _)=_;rw[M,G,ab λg=>X g.2]
    refine⟨λg=> ?_,λg=> ?_,λg1 g2=> ?_⟩
    ·rw[I];exact i1 (by rcases D with rfl|rfl<;>omega)
    ·rw[I];exact Y g
    ·refine key (by rcases D with rfl|rfl<;>omega) g2 I ?_;intro v T U;rcases D with rfl|rfl<;>omega
  ·have I:wF z (c::l)=wF z l:=by
    show(if _ then _ else _)=_;rw[ab λg=>g.1 G]
   rw[G]at i1 S key;simp only[jk,ip]at i1 S key;refine⟨λg=> ?_,λg=> ?_,λg1 g2=> ?_⟩
   ·rw[I];exact i1 g
   ·rw[I];exact Y g
   ·refine key g1 g2 I ?_;intro v T U;rcases D with rfl|rfl<;>omega
theorem Qyk {t:Trk} (h:TQ t) {z:Int} (X:i64 z):∀(k j:Nat),j+k=t.aE.length->wF z (t.aE.drop j)= -1/\Al R3 [I z, .vC Ap (t.aE.map AZ),I t.aE.length,I j]=some (2,[])\/
  Al R3 [I z, .vC Ap (t.aE.map AZ),I t.aE.length,I j]=some (1,[I (wF z (t.aE.drop j))])
 |0,j,hj=>by
  left;rw[cz (by omega)];refine⟨rfl,AJ (o:=(2,_)) ?_ (by simp)⟩;rw[Qzb,AR (by omega)]
 |k+1,j,hj=>by
  have D:j<t.aE.length:=by omega
  have Y:=h.count;have U:(0:Int)<=(j:Int)/\(j:Int)<(t.aE.length:Int):=by omega
  have S:=h.pos j D;have hl:=h.len;have hs:=h.s j D;have a0:=h.bC j D;have e:t.aE.drop j=pcA t.aE j::t.aE.drop (j+1):=by
   have e1:pcA t.aE j=t.aE[j]:=by unfold pcA;simp[D]
   rw[e1];exact KM _ _ D
  have M:R3 [I z, .vC Ap (t.aE.map AZ),I t.aE.length,I j]=if(pcA t.aE j).bC≠0/\0<=(z-(pcA t.aE j).s)*(pcA t.aE j).bC/\(z-(pcA t.aE j).s)*(pcA t.aE j).bC<=(pcA t.aE j).aR then
    some (1,[I ((pcA t.aE j).at_+(z-(pcA t.aE j).s)*(pcA t.aE j).bC)])else some (0,[I z, .vC Ap (t.aE.map AZ),I t.aE.length,I (j+1:Nat)]):=by
   rw[Qzb];simp only[go_sem,ac,af,Ul D,aa U,Ad (x:=(j:Int)+1)];rw[aa];unfold eI at S;unfold i64 at X;generalize pcA t.aE j=c at*;have L:∀y:Int,-9223372036854775808-2000000000000000<=y->y<=9223372036854775807+2000000000000000->(O y=y/\ -9223372036854775808<=y/\y<=9223372036854775807)\/(O y=y+18446744073709551616/\y< -9223372036854775808)\/(O y=y-18446744073709551616/\y>9223372036854775807):=by
    intro y y1 y2;have hw:=Tr y;unfold i64 at hw;by_cases N: -9223372036854775808<=y/\y<=9223372036854775807
    ·exact .inl ⟨Ad N,N⟩
    ·have:=Qdn y;omega
   by_cases V:c.bC=0
   ·have T: ¬(c.bC≠0/\0<=(z-c.s)*c.bC/\(z-c.s)*c.bC<=c.aR):=λg=>g.1 V;rw[ab,ab T];rfl
   ·rw[aa V];have G:c.bC=1\/c.bC= -1:=by omega
    have a1:=L (z-c.s) (by omega) (by omega);have a3:O (O (z-c.s)*c.bC)=(z-c.s)*c.bC\/((O (O (z-c.s)*c.bC)<0\/O (O (z-c.s)*c.bC)>1000000000000000)/\((z-c.s)*c.bC<0\/(z-c.s)*c.bC>1000000000000000)):=by
     generalize O (z-c.s)=y at*;have a2:=L (y*c.bC) (by rcases G with G|G<;>rw[G]<;>omega) (by rcases G with G|G<;>rw[G]<;>omega);rcases G with G|G<;>rw[G]at a2⊢<;>omega
    generalize O (O (z-c.s)*c.bC)=n at*;by_cases N:0<=(z-c.s)*c.bC/\(z-c.s)*c.bC<=c.aR
    ·have en:n=(z-c.s)*c.bC:=by omega
     have T:c.bC≠0/\0<=(z-c.s)*c.bC/\(z-c.s)*c.bC<=c.aR:=⟨V,N⟩;rw[aa T,en,aa N.1,aa N.2,Ad]
    ·have T: ¬(c.bC≠0/\0<=(z-c.s)*c.bC/\(z-c.s)*c.bC<=c.aR):=λg=>N g.2;rw[ab T];by_cases c2:0<=n
     ·rw[aa c2,ab];rfl
     ·rw[ab c2];rfl
  rw[e];by_cases c:(pcA t.aE j).bC≠0/\0<=(z-(pcA t.aE j).s)*(pcA t.aE j).bC/\(z-(pcA t.aE j).s)*(pcA t.aE j).bC<=(pcA t.aE j).aR
  ·rw[aa c]at M;right;rw[AJ M (by simp)];unfold wF;rw[aa c]
  ·rw[ab c]at M;rw[AS M];unfold wF;rw[ab c];exact Qyk h X k (j+1) (by omega)
theorem Zo2 (h:TQ t) {z:Int} (M:i64 z):NK (Bt t++[I z])=some [I (Cr t z)]:=by
 have he:=Yjj LE (t.aE.map AZ) t.length t.aQ t.aT.x t.aT.y t.aT.z z;unfold NK;refine cy he ?_;unfold Cr;rw[ac];by_cases c:z=t.aQ
 ·rw[aa c,BO (by simp[c])]
 ·rw[ab c,BZ (by simp[c])];rcases Qyk h M t.aE.length 0 (by omega)with⟨L,G⟩|G
  ·rw[fh]at L;have D:LE [I z, .vC Ap (t.aE.map AZ),I t.aE.length,I 0]=some (2,[]):=G;generalize LE=N at*;rw[L];simp only[D,go_sem];rfl
  ·rw[fh]at G;have D:LE [I z, .vC Ap (t.aE.map AZ),I t.aE.length,I 0]=some (1,[I (wF z t.aE)]):=G;generalize LE=N at*;simp only[D,go_sem]
end Go.Bm
namespace Go.Bm
theorem Zry (l:Rw) (h:l.length<=100000):Out (λo=>(wA o 0).length<=l.length) (R4 [.vC Aa l]):=by
 show Out _ (YQ (Al Quw) [.vC Aa l]);rw[Zwm];refine .bind (p:=λo=>o.1=1/\(wA o.2 0).length<=l.length) ?_ λo g=>by rw[g.1];exact .some g.2
 refine DD (λs:Rw×Nat=>[.vC Aa s.1, .vC Aa l,I (s.2:Int)]) (λs=>1<=s.2/\s.2<=l.length+1/\s.1.length+1<=s.2) (λs=>l.length+1-s.2) _ ?_ ([],1) (by simp);rintro⟨v,i⟩ ⟨g1,g2,D⟩;dsimp only at*;rw[Z9j];rw[Ad (x:=(i:Int)-1),Ad (x:=(i:Int)+1)];refine .cond (λc=> ?_) (λc=> ?_)
 ·have c:=Cs c;refine .cond (λ_=> ?_) λc=>by simp at c;omega
  refine .cond (λ_=> ?_) λc=>by simp at c;omega
  refine .cond (λ_=> ?_) λc=>by rw[Dp (by simp;omega)]at c;cases c
  exact .some (.inl ⟨rfl,(_,i+1),rfl,by simp;omega,by simp;omega⟩)
 ·have c:=B3 c;exact .some (.inr ⟨by simp,rfl,by show v.length<=l.length;omega⟩)
theorem Z6c (l:Rw) (n:Int) (h:l.length<=100000):(QM [.vC Aa l,I n]).isSome=true:=by
 show(VO (Al Wg) [.vC Aa l,I n]).isSome=true;rw[Zne];refine Out.is (p:=λ_=>True) ?_;refine .bind (p:=λo=>o.1=1\/o.1=2) ?_ λo g=>by rcases g with g|g<;>rw[g]<;>exact .some trivial
 refine DD (λs:Nat=>[I n, .vC Aa l,I (l.length:Int),I (s:Int)]) (λs=>s<=l.length) (λs=>l.length-s) _ ?_ 0 (by simp);intro i g;rw[Z62];rw[Ad (x:=(i:Int)+1)];refine .cond (λc=> ?_) (λc=> ?_)
 ·have c:=Cs c;refine .cond (λ_=> ?_) λc=>by simp at c;omega
  refine .cond (λ_=> .some (.inr ⟨by simp, .inl rfl⟩)) λ_=> .cond (λ_=> .some (.inr ⟨by simp, .inl rfl⟩)) λ_=> ?_;exact .some (.inl ⟨rfl,i+1,rfl,by omega,by omega⟩)
 ·exact .some (.inr ⟨by simp, .inr rfl⟩)
theorem Ygk (D:∀l:Rw,l.length<=100000->Out (λo=>(wA o 0).length<=l.length) (Z [.vC Aa l])) (hB:∀(l:Rw) n,l.length<=100000->(M [.vC Aa l,I n]).isSome=true)
  (G L N O S T U V X:Int) (Y l:Rw) (h:l.length<=100000):(Qfs M Z [I G,I L,I N,I O,I S,I T,I U,I V,I X, .vC Aa Y, .vC Aa l]).isSome=true:=by
 rw[Ykq];obtain⟨a,ha,ga⟩:=D l h;rw[ha];simp only[am];generalize wA a 0=la at*;obtain⟨b,hb,gb⟩:=D la (by omega);rw[hb];simp only[am];generalize wA b 0=lb at*;obtain⟨c,hc,gc⟩:=D lb (by omega);rw[hc];simp only[am];generalize wA c 0=lc at*;refine PV (hB _ _ (by omega)) λ_ _=>Ec (λ_=>rfl) λ_=>PV (hB _ _ (by omega)) λ_ _=>Ec (λ_=>rfl) λ_=>PV (hB _ _ (by omega)) λ_ _=>Ec (λ_=>rfl) λ_=>rfl
theorem Yfb (D G L M N O S T U:Int) (V l:Rw) (h:l.length<=100000):(Mz [I D,I G,I L,I M,I N,I O,I S,I T,I U, .vC Aa V, .vC Aa l]).isSome=true:=Ygk Zry Z6c D G L M N O S T U V l h
theorem Zz5 {x:Ax3} (O:0<=k/\k<=2) {l out:Rw} (N:out.length=l.length) (S:l.length<=100000):
  Out (λo=>o.1=1/\∃v:Rw,o.2= .vC Aa v:: .vC kPt l::I k::I k::AK x/\v.length=l.length) (Al (L_ M) (.vC Aa out:: .vC kPt l::I k::I k::I (l.length:Int)::I 0::AK x)):=by
 refine DD (λs:Rw×Nat=> .vC Aa s.1:: .vC kPt l::I k::I k::I (l.length:Int)::I (s.2:Int)::AK x) (λs=>s.1.length=l.length/\s.2<=l.length) (λs=>l.length-s.2) _ ?_ (out,0) ⟨N,by simp⟩;rintro⟨v,i⟩ ⟨g1,g2⟩;dsimp only at*;rw[Zy4];rw[Ad (x:=(i:Int)+1)];refine .cond (λc=> ?_) (λc=> ?_)
 ·have c:=Cs c;refine .cond (λ_=> ?_) λc=>by simp at c;omega
  refine .cond (λ_=> ?_) λD=> .cond (λ_=> ?_) λG=> .cond (λ_=> ?_) λL=> ?_
  ·refine .cond (λ_=> ?_) λc=>by simp at c;omega
   exact .some (.inl ⟨rfl,(_,i+1),rfl,by simp;omega,by simp;omega⟩)
  ·refine .cond (λ_=> ?_) λc=>by simp at c;omega
   exact .some (.inl ⟨rfl,(_,i+1),rfl,by simp;omega,by simp;omega⟩)
  ·refine .cond (λ_=> ?_) λc=>by simp at c;omega
   exact .some (.inl ⟨rfl,(_,i+1),rfl,by simp;omega,by simp;omega⟩)
  ·have D:=B3 D;have G:=B3 G;have L:=B3 L
   simp at D G L;omega
 ·exact .some (.inr ⟨by simp,rfl,v,rfl,g1⟩)
theorem Zq5 (hM:∀(D G L N S T U V X:Int) (Y l:Rw),l.length<=100000->(M [I D,I G,I L,I N,I S,I T,I U,I V,I X, .vC Aa Y, .vC Aa l]).isSome=true) (x:Ax3) {l:Rw} (h1:l.length<=100000):
  (TL M (Al (L_ M)) (Al (Tk M (Al (L_ M)))) (AK x++[.vC kPt l])).isSome=true:=by
 show(TL M (Al (L_ M)) (Al (Tk M (Al (L_ M)))) [I x.a.step,I x.a.aS,I x.a.bD,I x.a.bE,I x.a.low,I x.a.aY,I x.a.bB,I x.a.aV,I x.a.aO, .vC Aa (x.a.aW.map At),I x.b.step,I x.b.aS,I x.b.bD,I x.b.bE,I x.b.low,I x.b.aY,I x.b.bB,I x.b.aV,I x.b.aO, .vC Aa (x.b.aW.map At),I x.c.step,I x.c.aS,I x.c.bD,I x.c.bE,I x.c.low,I x.c.aY,I x.c.bB,I x.c.aV,I x.c.aO, .vC Aa (x.c.aW.map At), .vC kPt l]).isSome=true;rw[Zrn];refine Out.is (p:=λ_=>True) ?_;refine .bind (p:=λo=>o.1=1\/o.1=2) ?_ λo g=>by rcases g with g|g<;>rw[g]<;>exact .some trivial
 refine DD (λs:Nat=> .vC kPt l::I (s:Int)::AK x) (λs=>s<=3) (λs=>3-s) _ ?_ 0 (by omega);intro k hk;rw[Zug];refine .cond (λc=> ?_) (λc=> ?_)
 ·have c:=Cs c;refine .cond (λ_=> ?_) λc=>by simp at c
  refine .cond (λ_=> ?_) λc=>by simp at c;omega
  refine .bind (Zz5 (M:=M) (x:=x) (k:=(k:Int)) (by omega) (by simp) h1) λo g=> ?_;obtain⟨g1,v,g2,g3⟩:=g;obtain⟨o1,o2⟩:=o;subst g1;subst g2;refine .cond (λ_=> ?_) λc=>by simp at c
  have e:O ((k:Int)+1)=((k+1:Nat):Int):=by rw[Ad];rfl
  have hw:∀(D G L N S T U V X:Int) (Y:Rw),(M [I D,I G,I L,I N,I S,I T,I U,I V,I X, .vC Aa Y, .vC Aa v]).isSome=true:=λD G L N S T U V X Y=>hM D G L N S T U V X Y v (by omega);refine .cond (λ_=> ?_) λc0=> .cond (λ_=> ?_) λc1=> .cond (λ_=> ?_) λc2=> ?_
  ·refine .ibind (hw _ _ _ _ _ _ _ _ _ _) λ_ _=> .cond (λ_=> .some (.inr ⟨by simp, .inl rfl⟩)) λ_=> .some (.inl ⟨rfl,k+1,?_,by omega,by omega⟩);simp only[gA,wA,bA,jA,nth,Ah,AX,e]
  ·refine .ibind (hw _ _ _ _ _ _ _ _ _ _) λ_ _=> .cond (λ_=> .some (.inr ⟨by simp, .inl rfl⟩)) λ_=> .some (.inl ⟨rfl,k+1,?_,by omega,by omega⟩);simp only[gA,wA,bA,jA,nth,Ah,AX,e]
  ·refine .ibind (hw _ _ _ _ _ _ _ _ _ _) λ_ _=> .cond (λ_=> .some (.inr ⟨by simp, .inl rfl⟩)) λ_=> .some (.inl ⟨rfl,k+1,?_,by omega,by omega⟩);simp only[gA,wA,bA,jA,nth,Ah,AX,e]
  ·have c0:=B3 c0;have c1:=B3 c1;have c2:=B3 c2
   simp[gA,wA,bA,jA,nth,Ah]at c0 c1 c2;omega
 ·exact .some (.inr ⟨by simp, .inr rfl⟩)
theorem Zyf (x:Ax3) {l:Rw} (D:l.length<=100000):(ND (AK x++[.vC kPt l])).isSome=true:=Zq5 Yfb x D
theorem Zg9 (u:Int):(IV [I u]).isSome=true:=by
 show(Qr8 [I u]).isSome=true;rw[Yg1];exact Ec (λ_=>rfl) λ_=>rfl
structure Fix (p : Pth) (x : Ax3) (t : Trk) : Prop where
 p:GoodPath p
 x:Ax3M x
 t:TH t
theorem S4 {x:Ax3} (h:Fix p x t) (u:Int):E7 (pxt p x t [I u])=some (ptR (KV p x t u)):=Yhk h.p h.x h.t u
theorem Yd0 {x:Ax3} (L:∀{l:Rw},l.length<=100000->(M (AK x++[.vC kPt l])).isSome=true) (N:∀u,(Z (pxt p x t [I u])).isSome=true) (O:∀u,(W [I u]).isSome=true) {way:Rw} (S:way.length<=100000):
  (Qi1 M Z W (Al (Qbg M Z W)) (pxt p x t [.vC Aa way])).isSome=true:=by
 rw[Zsa];refine Out.is (p:=λ_=>True) ?_;refine .bind (p:=λo=>o.1=1\/o.1=2) ?_ λo g=>by rcases g with g|g<;>rw[g]<;>exact .some trivial
 refine DD (λs:Rw×Nat=> .vC kPt s.1:: .vC Aa way::I (way.length:Int)::I (s.2:Int)::pxt p x t []) (λs=>s.1.length<=4/\s.2<=way.length) (λs=>way.length-s.2) _ ?_ ([],0) (by simp);rintro⟨v,i⟩ ⟨g1,g2⟩;dsimp only at g1 g2;rw[Z9m];try dsimp only[D]
 rw[Ad (x:=(i:Int)+1)];refine .cond (λc=> ?_) (λc=> ?_)
 ·have c:=Cs c;refine .cond (λ_=> ?_) λc=>by simp at c;omega
  refine .ibind (O _) λa _=> .ibind (N _) λb _=> ?_;refine .cond (λ_=> ?_) λc=>by rw[Dp (by simp;omega)]at c;cases c
  generalize [jA b 0,jA b 1,jA b 2]=q;refine .cond (λ_=> ?_) λG=> ?_
  ·refine .cond (λ_=> ?_) λc=>by simp at c;omega
   refine .cond (λ_=> ?_) λc=>by rw[Dp (by simp)]at c;cases c
   refine .ibind (L (l:=List.drop (Int.toNat 1) (v++[q])) (by simp;omega)) λ_ _=> .cond (λ_=> .some (.inr ⟨by simp, .inl rfl⟩)) λ_=> ?_;exact .some (.inl ⟨rfl,(_,i+1),rfl,by simp;omega,by simp;omega⟩)
  ·have G:=B3 G;simp at G;refine .ibind (L (l:=v++[q]) (by simp;omega)) λ_ _=> .cond (λ_=> .some (.inr ⟨by simp, .inl rfl⟩)) λ_=> ?_;exact .some (.inl ⟨rfl,(_,i+1),rfl,by simp;omega,by simp;omega⟩)
 ·exact .some (.inr ⟨by simp, .inr rfl⟩)
theorem Zs3 {x:Ax3} (h:Fix p x t) {way:Rw} (D:way.length<=100000):(Rg (pxt p x t [.vC Aa way])).isSome=true:=
 Yd0 (Zyf x) (λu=>by rw[S4 h u];rfl) Zg9 D
theorem Zs9 {x:Ax3} (G:∀{way:Rw},way.length<=100000->(M (pxt p x t [.vC Aa way])).isSome=true)
  (L:∀a b c N O S T U V,Out (λo=>(wA o 0).length<=4096) (Z [I a,I b,I c,I N,I O,I S,I T,I U,I V])) (a b c m0 m1 m2 m3 m4 m5 l:Int):
  (Qcf M Z (pxt p x t [I a,I b,I c,I m0,I m1,I m2,I m3,I m4,I m5,I l])).isSome=true:=by
 rw[Zmj];obtain⟨o,X,Y⟩:=L a b c m0 m1 m2 m3 m4 m5;rw[X];simp only[am];generalize wA o 0=D at*;refine Ec (λ_=>rfl) λ_=>Ec (λc=> ?_) λc=> ?_
 ·have c:=Cs c;rw[Ad (x:=(D.length:Int)-1)];refine Ec (λ_=> ?_) λc=>by simp at c;omega
  generalize Ah (nth .vD (nth [] D ((D.length:Int)-1).toNat) 0)=e;refine Ec (λ_=>rfl) λ_=> ?_;refine Ec (λ_=> ?_) λc=>by rw[Dp (by simp;omega)]at c;cases c
  refine Ec (λ_=> ?_) λc=>by rw[Dp (by simp;omega)]at c;cases c
  exact PV (G (by simp;omega)) λ_ _=>rfl
 ·refine Ec (λ_=>rfl) λ_=> ?_;refine Ec (λ_=> ?_) λc=>by rw[Dp (by simp;omega)]at c;cases c
  refine Ec (λ_=> ?_) λc=>by rw[Dp (by simp;omega)]at c;cases c
  exact PV (G (by simp;omega)) λ_ _=>rfl
theorem Ztq {x:Ax3} (h:Fix p x t) (a b c m0 m1 m2 m3 m4 m5 l:Int):(OK (pxt p x t [I a,I b,I c,I m0,I m1,I m2,I m3,I m4,I m5,I l])).isSome=true:=
 Zs9 (Zs3 h) Qtu a b c m0 m1 m2 m3 m4 m5 l
theorem Qs8 {x:Ax3} (h:Fix p x t) (u:Int):i64 (A7 t u):=by
 have:=Q36 h.t.q u;unfold i64;omega
theorem Qc8:∀(l:List Sgm) (s:Int),l≠[]->(Bh l s).1<l.length
 |[],_,h=>absurd rfl h
 |[g],s,_=>by unfold Bh;split<;>simp
 |g::h::l,s,_=>by
  by_cases c:s<g.len
  ·rw[Bh,aa c];simp
  ·rw[Zge c];have:=Qc8 (h::l) (s-g.len) (by simp);simp at this⊢;omega
theorem Ycv {x:Ax3} (h:Fix p x t) {s:Int} (D:i64 s):∃i v:Int,EJ (Bj p++[I s])=some [I i,I v]/\(i= -1\/0<=i/\i<p.aF.length)/\(p.aF≠[]->0<=i):=by
 rw[VX (h.p.ok) D];by_cases c:p.aF=[]
 ·rw[aa c];exact⟨-1,0,rfl, .inl rfl,λh=>absurd c h⟩
 ·rw[ab c];have:=Qc8 p.aF (max s 0) c;exact⟨_,_,rfl, .inr ⟨by omega,by omega⟩,λ_=>by omega⟩
theorem Ye5 (I:j<i*4294967296+A) (L:R<4294967296) (D:j=J*i+P) (h:4294967296<=J\/P*4294967296+R<J*A):(j*4294967296+R)/(i*4294967296+A)<J:=by
 have G:0<i*4294967296+A:=by omega
 rw[dy G];rcases h with h|h
 ·have M:4294967296*(i*4294967296+A)<=J*(i*4294967296+A):=bg _ h;omega
 ·have e:J*(i*4294967296+A)=J*i*4294967296+J*A:=by rw[iw,dt]
  rw[e];clear e;generalize J*i=p at*;generalize J*A=t at*;subst D;rw[gx p P 4294967296,gy];exact Nat.add_lt_add_left h _
theorem Q39 {a b v u q r:Nat} (G:v<a*4294967296+b) (I:v=q*a+r) (h:q*b<=r*4294967296+u):q<=(v*4294967296+u)/(a*4294967296+b):=by
 have D:0<a*4294967296+b:=by omega
 rw[Nat.le_div_iff_mul_le D];have e:q*(a*4294967296+b)=q*a*4294967296+q*b:=by rw[iw,dt]
 rw[e];generalize q*a=p at*;generalize q*b=t at*;omega
theorem Q8b (D:j<i*4294967296+A) (G:R<4294967296):(j*4294967296+R)/(i*4294967296+A)<4294967296:=by
 rw[dy (by omega)];omega
theorem Qvy {q b:Nat} (D:q<4294967296) (hb:b<4294967296):q*b<=18446744065119617025:=by
 have:=cd (show q<=4294967295 by omega) (show b<=4294967295 by omega);omega
theorem V8 {α:Type} {F G:Nat->Nat->Option α} {a b v u Q:Nat} (D:(v*4294967296+u)/(a*4294967296+b)=Q) (hb:b<4294967296) (V:2147483648<=a) (L:a<4294967296) (I:v<a*4294967296+b) (O:u<4294967296) {X:α}
  (S:∀q r:Nat,q<=4294967297->r<4294967296->F q r=if 4294967296<=q\/r*4294967296+u<q*b then(if 4294967296<=r+a then G (q-1) 0 else F (q-1) (r+a))else G q 0)
  (M:G Q 0=some X):∀(k q r:Nat),q<=Q+k->Q<=q->v=q*a+r->r<4294967296->q<=4294967297->F q r=some X
 |k,q,r,hk,h1,T,Y,h4=>by
  rw[S q r h4 Y];by_cases c:4294967296<=q\/r*4294967296+u<q*b
  ·rw[aa c];have h5:=Ye5 I O T c;rw[D]at h5;have e:v=(q-1)*a+(r+a):=by
    have:(q-1)*a+a=q*a:=by rw[<-gi];congr 1;omega
    omega
   by_cases U:4294967296<=r+a
   ·rw[aa U];have h6:(q-1)*b<=(r+a)*4294967296+u:=by
     have:=cd (show q-1<=4294967296 by omega) (show b<=4294967296 by omega);omega
    have N:=Q39 I e h6;rw[D]at N;rw[show q-1=Q by omega];exact M
   ·rw[ab U]
    match k with
    |0=>omega
    |k+1=>exact V8 D hb V L I O S M k (q-1) (r+a) (by omega) (by omega) e (by omega) (by omega)
  ·rw[ab c];have N:=Q39 (u:=u) I T (by omega);rw[D]at N;rw[show q=Q by omega];exact M
theorem Zbk (hb:A<4294967296) (G:2147483648<=i) (I:j<i*4294967296+A) (L:R<4294967296):(j*4294967296+R)/(i*4294967296+A)<=j/i/\j/i<=4294967297/\j=j/i*i+j%i/\j%i<i:=by
 have e:j=j/i*i+j%i:=by have:=fc j i;rw[cx]at this;omega
 have D:j%i<i:=gd _ (by omega);refine⟨?_,?_,e,D⟩
 ·rw[<-Nat.lt_succ_iff,dy (by omega)];have e2:(j/i).succ*(i*4294967296+A)=(j/i*i+i)*4294967296+(j/i).succ*A:=by rw[iw,<-dt,gi]
  rw[e2];omega
 ·rw[<-Nat.lt_succ_iff,dy (by omega)];omega
theorem wr {x:Nat} (h:x<=18446744073709551615):wrap .u64 (x:Int)=x:=B6 (by omega)
theorem Z7r {y s v0:Int} (hb:A<4294967296) (T:2147483648<=i) (L:i<4294967296) (V:j<i*4294967296+A) (X:R<4294967296):
  Al (L4 M) [U y,U s,U i,U A,U j,U R,U v0,U ((j/i:Nat):Int),U ((j%i:Nat):Int)]=some (1,[U y,U s,U i,U A,U j,U R,U v0,U (((j*4294967296+R)/(i*4294967296+A):Nat):Int)]):=by
 obtain⟨Y,f2,f3,f4⟩:=Zbk hb T V X;refine V8 (F:=λq r=>Al (L4 M) [U y,U s,U i,U A,U j,U R,U v0,U q,U r]) (G:=λq _=>some (1,[U y,U s,U i,U A,U j,U R,U v0,U q])) rfl hb T L V X ?_ rfl (j/i) _ _ (Nat.le_add_left _ _) Y f3 (by omega) f2;intro q r hq hr;have w1:wrap .u64 ((r:Int)+(i:Int))=((r+i:Nat):Int):=by rw[<-gv,wr (by omega)]
 have w3:wrap .u64 (wrap .u64 (4294967296*(r:Int))+(R:Int))=((r*4294967296+R:Nat):Int):=by rw[show(4294967296:Int)*r=((r*4294967296:Nat):Int) by omega,wr (by omega),<-gv,wr (by omega)]
 have w4:4294967296<=q->wrap .u64 ((q:Int)-1)=((q-1:Nat):Int):=λh=>by rw[show(q:Int)-1=((q-1:Nat):Int) by omega,wr (by omega)]
 have D:=Zw4 (DP:=M) y s i A j R v0 q r;rw[w1,w3]at D;by_cases N:4294967296<=q
 ·rw[Cz (show(q:Int)>=4294967296 by omega),w4 N]at D;show _=if _ then _ else _;rw[aa (.inl N)];by_cases I:4294967296<=r+i
  ·rw[Cz (show((r+i:Nat):Int)>=4294967296 by omega)]at D;rw[aa I];exact AJ D (by simp)
  ·rw[AR (show¬((r+i:Nat):Int)>=4294967296 by omega)]at D;rw[ab I];exact AS D
 ·have O:=Qvy (q:=q) (b:=A) (by omega) hb;rw[AR (show¬(q:Int)>=4294967296 by omega),<-cm,wr (bj O (by decide))]at D;show _=if _ then _ else _;by_cases S:r*4294967296+R<q*A
  ·rw[Cz (show((q*A:Nat):Int)>((r*4294967296+R:Nat):Int) by omega)]at D;rw[aa (.inr S)];have a0:0<q:=by
    rcases dp q with h|h
    ·rw[h]at S;omega
    ·exact h
   rw[show(q:Int)-1=((q-1:Nat):Int) by omega,wr (by omega)]at D;by_cases I:4294967296<=r+i
   ·rw[Cz (show((r+i:Nat):Int)>=4294967296 by omega)]at D;rw[aa I];exact AJ D (by simp)
   ·rw[AR (show¬((r+i:Nat):Int)>=4294967296 by omega)]at D;rw[ab I];exact AS D
  ·rw[AR (show¬((q*A:Nat):Int)>((r*4294967296+R:Nat):Int) by omega)]at D;rw[ab (λh=>h.elim N S)];exact AJ D (by simp)
theorem Z5u {y s q1 w:Int} (hb:A<4294967296) (V:2147483648<=i) (L:i<4294967296) (X:j<i*4294967296+A) (Y:R<4294967296):
  Al (P8 M N) [U y,U s,U i,U A,U R,U q1,U ((j%i:Nat):Int),U w,U ((j/i:Nat):Int)]=some (1,[U y,U s,U R,U q1,U w,U (((j*4294967296+R)/(i*4294967296+A):Nat):Int)]):=by
 obtain⟨f1,f2,f3,f4⟩:=Zbk hb V X Y;refine V8 (F:=λq r=>Al (P8 M N) [U y,U s,U i,U A,U R,U q1,U r,U w,U q]) (G:=λq _=>some (1,[U y,U s,U R,U q1,U w,U q])) rfl hb V L X Y ?_ rfl (j/i) _ _ (Nat.le_add_left _ _) f1 f3 (by omega) f2;intro q r hq hr;have w1:wrap .u64 ((r:Int)+(i:Int))=((r+i:Nat):Int):=by rw[<-gv,wr (by omega)]
 have w3:wrap .u64 (wrap .u64 (4294967296*(r:Int))+(R:Int))=((r*4294967296+R:Nat):Int):=by rw[show(4294967296:Int)*r=((r*4294967296:Nat):Int) by omega,wr (by omega),<-gv,wr (by omega)]
 have w4:4294967296<=q->wrap .u64 ((q:Int)-1)=((q-1:Nat):Int):=λh=>by rw[show(q:Int)-1=((q-1:Nat):Int) by omega,wr (by omega)]
 have D:=Zu8 (DP:=M) (N17:=N) y s i A R q1 r w q;rw[w1,w3]at D;by_cases O:4294967296<=q
 ·rw[Cz (show(q:Int)>=4294967296 by omega),w4 O]at D;show _=if _ then _ else _;rw[aa (.inl O)];by_cases I:4294967296<=r+i
  ·rw[Cz (show((r+i:Nat):Int)>=4294967296 by omega)]at D;rw[aa I];exact AJ D (by simp)
  ·rw[AR (show¬((r+i:Nat):Int)>=4294967296 by omega)]at D;rw[ab I];exact AS D
 ·have S:=Qvy (q:=q) (b:=A) (by omega) hb;rw[AR (show¬(q:Int)>=4294967296 by omega),<-cm,wr (bj S (by decide))]at D;show _=if _ then _ else _;by_cases T:r*4294967296+R<q*A
  ·rw[Cz (show((q*A:Nat):Int)>((r*4294967296+R:Nat):Int) by omega)]at D;rw[aa (.inr T)];have a0:0<q:=by
    rcases dp q with h|h
    ·rw[h]at T;omega
    ·exact h
   rw[show(q:Int)-1=((q-1:Nat):Int) by omega,wr (by omega)]at D;by_cases I:4294967296<=r+i
   ·rw[Cz (show((r+i:Nat):Int)>=4294967296 by omega)]at D;rw[aa I];exact AJ D (by simp)
   ·rw[AR (show¬((r+i:Nat):Int)>=4294967296 by omega)]at D;rw[ab I];exact AS D
  ·rw[AR (show¬((q*A:Nat):Int)>((r*4294967296+R:Nat):Int) by omega)]at D;rw[ab (λh=>h.elim O T)];exact AJ D (by simp)
theorem Q8s {s:Nat} (D:s<=63):(2:Int)^min (Int.toNat (s:Int)) IntKind.u64.bits=((2^s:Nat):Int):=by
 have e:min (Int.toNat (s:Int)) IntKind.u64.bits=s:=by
  show min (Int.toNat (s:Int)) 64=s;omega
 rw[e];simp
theorem Yde {s:Nat} (D:s<=63):(2:Int)^min (Int.toNat ((64-s:Nat):Int)) IntKind.u64.bits=((2^(64-s):Nat):Int):=by
 have e:min (Int.toNat ((64-s:Nat):Int)) IntKind.u64.bits=64-s:=by
  show min (Int.toNat ((64-s:Nat):Int)) 64=64-s;omega
 rw[e];simp
theorem Zbx (x y:Nat):((x:Int)).fdiv (y:Int)=((x/y:Nat):Int):=by
 rw[dq _ (by omega)];rfl
theorem Qah (x y:Nat):((x:Int)).tdiv (y:Int)=((x/y:Nat):Int):=by
 rw[co (by omega)];rfl
theorem orP {A B s:Nat} (hB:B<2^s) (h:A*2^s+B<w64):wrap .u64 (((BitVec.ofInt IntKind.u64.bits ((A*2^s:Nat):Int)|||BitVec.ofInt IntKind.u64.bits (B:Int)).toNat:Nat):Int)=((A*2^s+B:Nat):Int):=by
 rw[Ba]at h;have e:(BitVec.ofInt IntKind.u64.bits ((A*2^s:Nat):Int)|||BitVec.ofInt IntKind.u64.bits (B:Int)).toNat=A*2^s+B:=by
  rw[BitVec.toNat_or];have e1:∀v:Nat,v<18446744073709551616->(BitVec.ofInt IntKind.u64.bits (v:Int)).toNat=v:=by
   intro v D;simp only[IntKind.bits,gk];omega
  have:=(jc hB A).symm;rw[cx]at this;generalize A*2^s=X at*;rw[e1 _ (by omega),e1 _ (by omega)];exact this
 rw[e,wr (by omega)]
theorem Q7a {v u D y:Nat} (I:y<w64) (L:D=(v*4294967296+u)/y) (G:0<y):wrap .u64 (wrap .u64 (wrap .u64 ((v:Int)*4294967296)+(u:Int))-wrap .u64 ((D:Int)*(y:Int)))=(((v*4294967296+u)%y:Nat):Int):=by
 have M:=fc (v*4294967296+u) y;have N:=gd (v*4294967296+u) G;rw[<-L,cx]at M;rw[Ba]at I;rw[LB,LB,LB,LB,<-cm];generalize D*y=p at*;generalize(v*4294967296+u)%y=r at*;omega
theorem Zdf (D:0<A) (G:i<w64):wrap .u64 ((i:Int)-wrap .u64 (wrap .u64 ((i/A:Nat):Int)*(A:Int)))=((i%A:Nat):Int):=by
 have I:=fc i A;have L:=gd i D;have M:=f8 i A;rw[Ba]at G;rw[wr (x:=i/A) (by omega),<-cm];rw[cx]at I;generalize i/A*A=p at*;generalize i%A=r at*;rw[wr (x:=p) (by omega),show(i:Int)-(p:Int)=(r:Int) by omega,wr (by omega)]
theorem Ygb {v u1 u0 Y:Nat} (D:0<Y):(v*w64+(u1*4294967296+u0))/Y=(v*4294967296+u1)/Y*4294967296+((v*4294967296+u1)%Y*4294967296+u0)/Y/\
  (v*w64+(u1*4294967296+u0))%Y=((v*4294967296+u1)%Y*4294967296+u0)%Y:=by
 have e:v*w64+(u1*4294967296+u0)=((v*4294967296+u1)%Y*4294967296+u0)+(v*4294967296+u1)/Y*4294967296*Y:=by
  have h:=fc (v*4294967296+u1) Y;rw[cx]at h;rw[Ba];generalize(v*4294967296+u1)%Y=r at*;have e2:(v*4294967296+u1)/Y*4294967296*Y=(v*4294967296+u1)/Y*Y*4294967296:=by rw[dt,cx 4294967296,<-dt]
  rw[e2];generalize(v*4294967296+u1)/Y*Y=p at*;omega
 rw[e,Nat.add_mul_div_right _ _ D,Nat.add_mul_mod_self_right];exact⟨Nat.add_comm _ _,rfl⟩
theorem Z3u {D lo y s:Nat} (h0:0<D) (h1:D<y) (a9:y<w64) (a5:lo<w64) (hs:s<=63) (h2:9223372036854775808<=y*2^s) (G:y*2^s<w64) (hM:M [U y]=some [I s]):
  Qf5 M (Al (L4 M)) (Al (P8 M (Al (L4 M)))) [U D,U lo,U y]=some [U (((D*w64+lo)/y:Nat):Int),U (((D*w64+lo)%y:Nat):Int)]:=by
 have hP:0<2^s:=dv _;have a1:2^s*2^(64-s)=w64:=by rw[Ba,<-Nat.pow_add,show s+(64-s)=64 by omega]
 have hT:0<2^(64-s):=dv _;have es:wrap .u64 (s:Int)=s:=wr (by omega);have et:wrap .u64 (64-(s:Int))=((64-s:Nat):Int):=by rw[show(64:Int)-s=((64-s:Nat):Int) by omega,wr (by omega)]
 have hB:lo/2^(64-s)<2^s:=by rw[dy hT,a1];exact a5
 have hv:D*2^s+lo/2^(64-s)<y*2^s:=by
  have:D*2^s+2^s<=y*2^s:=by rw[<-gi];exact bg _ h1
  omega
 have hN:(D*w64+lo)*2^s=(D*2^s+lo/2^(64-s))*w64+lo*2^s%w64:=by
  have e1:lo*2^s/w64=lo/2^(64-s):=by
   rw[<-a1,cx lo,Nat.mul_div_mul_left _ _ hP]
  have e2:=fc (lo*2^s) w64;rw[e1]at e2;rw[gx,gx,gy,cx (lo/2^(64-s)),e2];congr 1;rw[dt,cx w64,dt]
 have hU:lo*2^s%w64<w64:=gd _ Sb;have ey:wrap .u64 ((y:Int)*((2^s:Nat):Int))=((y*2^s:Nat):Int):=by rw[<-cm,wr (Nat.le_of_lt_succ (by rw[Ba]at G;exact G))]
 have eh:wrap .u64 ((D:Int)*((2^s:Nat):Int))=((D*2^s:Nat):Int):=by
  rw[<-cm,wr (Nat.le_of_lt_succ (by have:=dx h1 hP;rw[Ba]at G;exact Nat.lt_trans this G))]
 have el:wrap .u64 ((lo:Int)*((2^s:Nat):Int))=((lo*2^s%w64:Nat):Int):=by
  rw[<-cm,LB,Ba];rfl
 have eo:=orP (A:=D) (B:=lo/2^(64-s)) (s:=s) hB (by omega);have hq:(D*w64+lo)/y=(D*w64+lo)*2^s/(y*2^s):=(Nat.mul_div_mul_right _ _ hP).symm;have hr:(D*w64+lo)%y=(D*w64+lo)*2^s%(y*2^s)/2^s:=by rw[Nat.mul_mod_mul_right,Nat.mul_div_cancel _ hP]
 rw[hq,hr,hN];rw[Q41];simp only[hM,am,F1,KU,Kw,O_,Qh,UG,Qhv,Qf2,FP,gA,jA,wA,bA,es,et,Q8s hs,Yde hs,ey,eh,el,Zbx,eo];rw[BZ (by simp;omega),AR (show¬(y:Int)<=D by omega),BZ (by simp;omega),AR (show¬(s:Int)<0 by omega),AR (show¬(s:Int)<0 by omega),AR (show¬((64-s:Nat):Int)<0 by omega),AR (show¬(s:Int)<0 by omega)];rw[LN,OD _ G,LN,OD _ hU];have T:y*2^s=y*2^s/4294967296*4294967296+y*2^s%4294967296:=by omega
 have hW:lo*2^s%w64=lo*2^s%w64/4294967296*4294967296+lo*2^s%w64%4294967296:=by omega
 have hb:y*2^s%4294967296<4294967296:=gd _ (by omega);have a2:lo*2^s%w64%4294967296<4294967296:=gd _ (by omega);have a3:lo*2^s%w64/4294967296<4294967296:=by rw[Ba]at hU⊢;omega
 have ha:2147483648<=y*2^s/4294967296:=by omega
 have a4:y*2^s/4294967296<4294967296:=by rw[Ba]at G;omega
 clear hN hq hr eh el eo ey hB;generalize D*2^s+lo/2^(64-s)=v at*;generalize lo*2^s%w64=w at*;generalize y*2^s=Y at*;generalize w/4294967296=u1 at*;generalize w%4294967296=u0 at*;generalize Y/4294967296=a at*;generalize Y%4294967296=b at*;subst hW;rw[AR (show¬(a:Int)=0 by omega),Qah,Zdf (by omega) (Nat.lt_trans hv G),wr (x:=v/a) (by have:=f8 v a;rw[Ba]at G;omega)];have hl:=Z7r (M:=M) (y:=(Y:Int)) (s:=s) (v0:=u0) hb ha a4 (by rw[<-T];exact hv) a3;rw[hl];rw[<-T];have L:0<Y:=by omega
 have V:=Q7a (v:=v) (u:=u1) (y:=Y) G rfl L;have a6:(v*4294967296+u1)/Y<4294967296:=by rw[T];exact Q8b (by rw[<-T];exact hv) a3
 have O:=gd (v*4294967296+u1) L;obtain⟨k1,k2⟩:=Ygb (v:=v) (u1:=u1) (u0:=u0) L;rw[k1,k2];clear hl k1 k2;obtain⟨X,g1⟩:∃X,(v*4294967296+u1)/Y=X:=⟨_,rfl⟩;obtain⟨S,g2⟩:∃S,(v*4294967296+u1)%Y=S:=⟨_,rfl⟩;rw[g1]at V a6⊢;rw[g2]at V O⊢;simp only[am,F1,KU,Kw,O_,Qh,UG,Qhv,Qf2,FP,V];rw[show Nat.beq 1 1=true from rfl,aj,AR (show¬(a:Int)=0 by omega),Qah,Zdf (by omega) (Nat.lt_trans O G),wr (x:=S/a) (by have:=f8 S a;rw[Ba]at G;omega)];have a7:=Z5u (M:=M) (N:=Al (L4 M)) (y:=(Y:Int)) (s:=s) (q1:=X) (w:=S) hb ha a4 (by rw[<-T];exact O) a2;rw[a7];rw[<-T];have a0:=Q7a (v:=S) (u:=u0) (y:=Y) G rfl L;have a8:(S*4294967296+u0)/Y<4294967296:=by rw[T];exact Q8b (by rw[<-T];exact O) a2
 obtain⟨q0,g3⟩:∃q0,(S*4294967296+u0)/Y=q0:=⟨_,rfl⟩;obtain⟨r0,g4⟩:∃r0,(S*4294967296+u0)%Y=r0:=⟨_,rfl⟩;rw[g3]at a0 a8⊢;rw[g4]at a0⊢;simp only[am,F1,KU,Kw,O_,Qh,UG,FP,a0];rw[show Nat.beq 1 1=true from rfl,aj,AR (show¬(s:Int)<0 by omega),Q8s hs,Zbx];have w1:wrap .u64 (wrap .u64 ((X:Int)*4294967296)+(q0:Int))=((X*4294967296+q0:Nat):Int):=by
  rw[show(X:Int)*4294967296=((X*4294967296:Nat):Int) by omega,wr (by omega),<-gv,wr (by omega)]
 rw[w1]
theorem Z2y (S:0<i) (h:i<w64):∃s:Nat,IN [U i]=some [I s]/\s<=63/\9223372036854775808<=i*2^s/\i*2^s<w64:=by
 have G:=Ba;obtain⟨b1,b2,b3⟩:=Lib.bitLenAux_bounds 64 i (by rw[<-show w64=2^64 by rw[G]];exact h) (by omega);have N:Lib.bitLen i=Lib.bitLenAux 64 i:=rfl;generalize hb:Lib.bitLenAux 64 i=L at*;have M:L<=64:=by
  by_cases c:L<=64
  ·exact c
  ·have:=Nat.pow_le_pow_right (show 0<2 by omega) (show 64<=L-1 by omega);rw[show(2:Nat)^64=18446744073709551616 from rfl]at this;omega
 refine⟨64-L,?_,by omega,?_,?_⟩
 ·unfold IN;have D:FQ=18446744073709551616:=rfl;have O:inU (i:Int)=true:=by
   simp only[inU,D,ak,cg];omega
  simp only[F1,FP,gA,jA,wA,bA,O,aj,af,N];rw[show(64:Int)-(L:Int)=((64-L:Nat):Int) by omega]
 ·have e:2^(L-1)*2^(64-L)=9223372036854775808:=by rw[<-Nat.pow_add,show L-1+(64-L)=63 by omega]
  rw[<-e];exact bg _ b2
 ·have e:2^L*2^(64-L)=w64:=by rw[<-Nat.pow_add,show L+(64-L)=64 by omega,G]
  rw[<-e];exact dx b3 (dv _)
theorem Yg0 (G:i<j) (I:j<w64) (D:A<w64):GZ [U i,U A,U j]=some [U (((i*w64+A)/j:Nat):Int),U (((i*w64+A)%j:Nat):Int)]:=by
 rcases dp i with h|h
 ·subst h;rw[Nat.zero_mul,dh];exact Ze6 D G
 ·obtain⟨s,e,e1,e2,e3⟩:=Z2y (show 0<j by omega) I;exact Z3u h G I D e1 e2 e3 e
structure Plan3 (a b c : Int) : Prop where
 a:1<=a/\a<=65536
 b:2<=b/\b<=65536
 c:1<=c/\c<=16777216
abbrev K_ (m0 m1 m3 m4 v:Int):List AC:=[I (O (m0+v)),I v,I (O (v-m1)),I m0,I m3,I m4]
theorem Ye3 (m0 m1 m2 m3 m4 m5 v:Int):Pq [I m0,I m1,I m2,I m3,I m4,I m5,I v]=some (K_ m0 m1 m3 m4 v):=by
 show VW [I m0,I m1,I m2,I m3,I m4,I m5,I v]=some (K_ m0 m1 m3 m4 v);rw[Ydr]
theorem Gk (a:AC) (l:List AC):nth .vD (a::l) 0=a:=rfl
theorem LT (a:AC) (l:List AC) (n:Nat):nth .vD (a::l) (n+1)=nth .vD l n:=rfl
theorem JL (n:Int):Ah (.int .i64 n)=n:=rfl
def Zgi (k b:Int):Int:=if b<=0 then 0 else(b-1)/k*b-k*((b-1)/k*((b-1)/k+1)/2)
def Q76 (j k v a:Int):Prop:= -j<=a/\a<=j/\Zgi k (-a)<=v/\v<=16777216-Zgi k a/\(v=0->a<=k)
instance (j k v a:Int):Decidable (Q76 j k v a):=by unfold Q76;infer_instance
end Go.Bm
noncomputable section
namespace Go.Bm
theorem Yfu {α:Type} (l:List α) (x y:α) (r:List α):(l++x::r).set l.length y=l++y::r:=by
 rw[List.set_append_right _ _ (bt _)];simp
def Jk (j:Int) (l:Rw):Prop:=∀r∈l,-j<=gA r 0/\gA r 0<=j
theorem Jk.snoc {r:List AC} (h:Jk u l) (G: -u<=gA r 0/\gA r 0<=u):Jk u (l++[r]):=λx D=>by
 rcases bq.1 D with D|D
 ·exact h x D
 ·rw[eu]at D;subst D;exact G
theorem Z03 (G:0<=u/\u<=65536):Out (λo=>o.1=1/\(wA o.2 0).length<=65536/\Jk u (wA o.2 0)) (Al Rp [.vC Aa [],I u]):=by
 refine DD (λs:Rw×Int=>[.vC Aa s.1,I s.2]) (λs=>0<=s.2/\s.2<=u/\s.1.length+s.2<=65536/\Jk u s.1) (λs=>s.2.toNat) _ ?_ ([],u) ⟨G.1,f6 _,by simp;omega,λr h=>by cases h⟩;rintro⟨v,k⟩ ⟨g1,g0,g2,D⟩;dsimp only at g0 g1 g2 D;rw[Zp2,co g1,Ad (x:=k/2)];refine .cond (λc=> ?_) (λc=> ?_)
 ·have c:=Cs c;refine .cond (λ_=> ?_) λc=>by rw[Dp (by simp;omega)]at c;cases c
  exact .some (.inl ⟨rfl,(v++[[I k]],k/2),rfl,⟨by dsimp only;omega,by dsimp only;omega,by simp;omega,D.snoc (by show-u<=k/\k<=u;omega)⟩,by dsimp only;omega⟩)
 ·exact .some (.inr ⟨by simp,rfl,by show v.length<=65536;omega,D⟩)
theorem Zj2 {up out:Rw} (S:0<=u/\u<=65536) (T:up.length<=65536) (G:Jk u up) (U:out.length=up.length+1) (L:Jk u out):Out (λo=>o.1=1/\(wA o.2 0).length<=140000/\Jk u (wA o.2 0)) (Al (Sm N) [.vC Aa up, .vC Aa out,I ((up.length:Int)-1)]):=by
 refine DD (λs:Rw×Int=>[.vC Aa up, .vC Aa s.1,I s.2]) (λs=> -1<=s.2/\s.2<up.length/\s.1.length+s.2<=2*up.length/\Jk u s.1) (λs=>(s.2+1).toNat) _ ?_ (out,(up.length:Int)-1) ⟨by simp only;omega,by simp only;omega,by simp only;omega,L⟩;rintro⟨v,k⟩ ⟨g1,g2,M,D⟩;dsimp only at g1 g2 M D;rw[Z97,Ad (x:=k-1)];refine .cond (λc=> ?_) (λc=> ?_)
 ·have c:=Cs c;refine .cond (λ_=> ?_) λc=>by simp at c;omega
  refine .cond (λ_=> ?_) λc=>by rw[Dp (by simp;omega)]at c;cases c
  have V: -u<=gA (nth [] up k.toNat) 0/\gA (nth [] up k.toNat) 0<=u:=by
   rw[Fs [] up k.toNat (by omega)];exact G _ (bh _)
  exact .some (.inl ⟨rfl,(_,k-1),rfl,⟨by dsimp only;omega,by dsimp only;omega,by simp;omega,D.snoc (by show-u<=O (0-gA (nth [] up k.toNat) 0)/\O (0-gA (nth [] up k.toNat) 0)<=u;rw[Ad];omega)⟩,by dsimp only;omega⟩)
 ·have c:=B3 c;exact .some (.inr ⟨by simp,rfl,by show v.length<=140000;omega,D⟩)
theorem Zpi (D:0<=u/\u<=65536):Out (λo=>(wA o 0).length<=140000/\Jk u (wA o 0)) (PX [I u]):=by
 show Out _ (Qan (Al Rp) (Al (Sm (Al Rp))) [I u]);rw[Zza];refine .bind (Z03 D) λo g=> ?_;rw[g.1];obtain⟨-,g2,G⟩:=g;generalize wA o.2 0=up at*;refine .cond (λ_=> ?_) λc=>by simp at c
 refine .cond (λ_=> ?_) λc=>by rw[Dp (by simp;omega)]at c;cases c
 refine .cond (λ_=> ?_) λc=>by rw[Dp (by simp;omega)]at c;cases c
 rw[Ad (x:=(up.length:Int)-1)];refine .bind (Zj2 D g2 G (by simp) (by rw[ay];exact G.snoc (by show-u<=0/\0<=u;omega))) λo g=> ?_;rw[g.1];exact .some g.2
def Q4f (m0 m1 m3 m4:Int) (Q R:Int->Prop) (o:List AC):Prop:=∃v:Int,o=K_ m0 m1 m3 m4 v/\(Q v\/∃r:Int,v=O (m1+r)/\R r)
theorem Ztf {x:Ax3} {a b c o0 o1:Int} {D b1 b2:Bool} (hb:0<=b/\b<=65536) {m0 m1 m2 m3 m4 m5 l:Int} {Q R F:Int->Prop}
  (hB:Out (λo=>∃r:Int,o=[I r]/\R r) (M [I a,I b,I c,I m1,I m2]))
  (hS:∀v:Int,0<=v->F v->(∃k:Int,-b<=k/\k<=b/\v=O (m1+O (m2+k)))->Out (λo=>bA o 0=true->Q v) (Z (pxt p x t [I a,I b,I c,I (O (m0+v)),I v,I (O (v-m1)),I m0,I m3,I m4,I l])))
  (hF:∀v:Int,Out (λo=>bA o 0=true->F v) (W (Fa p t [I a,I b,I c,I o0,I o1,B D,B b1,B b2,I (O (m0+v)),I v,I (O (v-m1)),I m0,I m3,I m4])))
  (L:∀m0 m1 m2 m3 m4 m5 v,V [I m0,I m1,I m2,I m3,I m4,I m5,I v]=some (K_ m0 m1 m3 m4 v))
  (hR:∀a b c v x,(T [I a,I b,I c,I v,I x]).isSome=true)
  (hC:∀j,0<=j/\j<=65536->Out (λo=>(wA o 0).length<=140000/\Jk j (wA o 0)) (S [I j])):
  Out (Q4f m0 m1 m3 m4 Q R) (Qpf M Z W V T S (Al (Qq3 M Z W V T S)) (pxt p x t [I a,I b,I c,I o0,I o1,B D,B b1,B b2,I m0,I m1,I m2,I m3,I m4,I m5,I l])):=by
 rw[Yds];refine .bind (hC b hb) λq N=> ?_;obtain⟨N,hJ⟩:=N;generalize wA q 0=ch at*;refine .bind (p:=λo=>o.1=1/\((∃v:Int,∃g0 g1 g2 U X Y:Int,o.2=B true::I a::I b::I c::I m0::I m1::I m2::I m3::I m4::I m5::I g0::I g1::I g2::I U::I X::I Y::K_ m0 m1 m3 m4 v/\Q v)\/∃l:List AC,o.2=B false::I a::I b::I c::I m0::I m1::I m2::I m3::I m4::I m5::l)) ?_ λo g=>by
  obtain⟨g,g2⟩:=g;rw[g];refine .cond (λ_=> ?_) λc=>by simp at c
  rcases g2 with⟨v,g0,g1,g2,U,X,Y,e,G⟩|⟨l',e⟩
  ·rw[e];refine .cond (λ_=> .some ⟨v,rfl, .inl G⟩) λc=>by simp[gA,wA,bA,jA,nth,Fb]at c
  ·rw[e];refine .cond (λc=>by simp[gA,wA,bA,jA,nth,Fb]at c) λ_=> ?_;simp only[gA,wA,bA,jA,nth,Ah];refine .bind hB λo g=> ?_;obtain⟨r,rfl,hr⟩:=g;simp only[gA,wA,bA,jA,nth,Ah];rw[L];exact .some ⟨_,rfl, .inr ⟨r,rfl,hr⟩⟩
 refine DD (λs:Nat×(Int×Int×Int×Int×Int×Int)=>I l::B false:: .vC Aa ch::I (ch.length:Int)::I (s.1:Int)::pxt p x t [I a,I b,I c,I o0,I o1,B D,B b1,B b2,I m0,I m1,I m2,I m3,I m4,I m5,I 0,I 0,I 0,I 0,I 0,I 0,I s.2.1,I s.2.2.1,I s.2.2.2.1,I s.2.2.2.2.1,I s.2.2.2.2.2.1,I s.2.2.2.2.2.2])
  (λs=>s.1<=ch.length) (λs=>ch.length-s.1) _ ?_ (0,(0,0,0,0,0,0)) (by simp)
 rintro⟨i,f0,f1,f2,f3,f4,f5⟩ g;dsimp only at g;rw[Z1z];rw[Ad (x:=(i:Int)+1)];refine .cond (λc=> ?_) (λc=> ?_)
 ·have c:=Cs c;refine .cond (λ_=> ?_) λc=>by simp at c;omega
  refine .cond (λ_=> ?_) λpos=> ?_
  ·exact .some (.inl ⟨rfl,(i+1,f0,f1,f2,f3,f4,f5),rfl,by dsimp only;omega,by dsimp only;omega⟩)
  ·have pos:=B3 pos;refine .ibind (hR _ _ _ _ _) λ_ _=> .cond (λ_=> ?_) λ_=> ?_
   ·exact .some (.inl ⟨rfl,(i+1,f0,f1,f2,f3,f4,f5),rfl,by dsimp only;omega,by dsimp only;omega⟩)
   ·have hk:∃k:Int,-b<=k/\k<=b/\O (m1+O (m2+gA (nth [] ch (i:Int).toNat) 0))=O (m1+O (m2+k)):=by
     have:=hJ _ (bh (show i<ch.length by omega));rw[af,Fs [] ch i (by omega)];exact⟨_,this.1,this.2,rfl⟩
    generalize O (m1+O (m2+gA (nth [] ch (i:Int).toNat) 0))=v at*;rw[L];simp only[am,gA,wA,bA,jA,nth,Ah];refine .bind (hF v) λof fit=> .cond (λcf=> ?_) λ_=> ?_
    ·refine .bind (hS v (by omega) (fit cf) hk) λo G=> .cond (λc=> ?_) λ_=> ?_
     ·exact .some (.inr ⟨by simp,rfl, .inl ⟨v,0,0,0,0,0,0,rfl,G c⟩⟩)
     ·exact .some (.inl ⟨rfl,(i+1,_,_,_,_,_,_),rfl,by dsimp only;omega,by dsimp only;omega⟩)
    ·exact .some (.inl ⟨rfl,(i+1,_,_,_,_,_,_),rfl,by dsimp only;omega,by dsimp only;omega⟩)
 ·exact .some (.inr ⟨by simp,rfl, .inr ⟨_,rfl⟩⟩)
structure KOK (K : Kf) : Prop where
 f:Fix K.p K.x K.t
 plan:Plan3 K.pa K.pb K.pc
 aF:∀g∈K.p.aF,0<=g.aU/\g.aU<K.aA.length/\i64 g.aX
 aD:∀m∈K.p.aD,0<=m.aU/\m.aU<K.aA.length/\i64 m.at_
 count:K.p.aD.length<=1000000
 aS:∀it∈K.aA,it.aP=8->i64 it.aS
 len:i64 K.len
 set:i64 K.set
theorem SG (K:Kf) (c:Cv):DK (Aj K c)=some [I (O (c.m0.tdiv 256))]:=by
 show Qlt (Aj K c)=_;rw[Z3h]
abbrev Cw (c:Cv):Int:=O (c.m0.tdiv 256)
theorem Yj2 {c:Cv} {s:Int} (D:Z (Aj K c)=some [I (Cw c)]) (G:M (Bt K.t++[I (Cw c)])=some [I s]):Qaj M Z (Aj K c)=some [I s]:=by
 rw[Ybs,D];simp only[am,gA,wA,bA,jA,Gk,JL];rw[G];rfl
abbrev Do (K:Kf) (c:Cv):Int:=A7 K.t (Cw c)
theorem Zfl (h:KOK K) (c:Cv):GY (Aj K c)=some [I (Do K c)]:=Yj2 (SG K c) (VC h.f.t.q (Cw c))
def nxL (K:Kf) (c:Cv) (l:Int):List AC:=pxt K.p K.x K.t [I K.pa,I K.pb,I K.pc,I c.o0,I c.o1,B c.o2,B c.o3,B c.o4,I c.m0,I c.m1,I c.m2,I c.m3,I c.m4,I c.m5,I l]
theorem Z7t (o0 o1:Int) (b1 b2:Bool) (a b c:Int) (r:List AC):Rk (I o0::I o1::B true::B b1::B b2::I a::I b::I c::AE Ag r)=some [I 0]:=by
 rw[Zb9];show Qoe _=_;rw[Ydh];rfl
theorem Ye8 {a b c o0 o1:Int} {b1 b2:Bool} (L:∀r,M (I o0::I o1::B true::B b1::B b2::I a::I b::I c::AE Ag r)=some [I 0])
  (N:∀s,i64 s->∃i v:Int,Z (Bj p++[I s])=some [I i,I v]/\(i= -1\/0<=i/\i<p.aF.length)/\(p.aF≠[]->0<=i)) (O:∀u,∃s,W (Bt t++[I u])=some [I s]/\i64 s) (S:∀u,(V [I u]).isSome=true) (D:p.aF≠[]) (u:Int):
  Out (λo=>gA o 0=0) (Qm2 M Z W V (Fa p t [I a,I b,I c,I o0,I o1,B true,B b1,B b2,I u])):=by
 rw[Zwu];refine .ibind (S _) λq _=> ?_;obtain⟨s,T,U⟩:=O (gA q 0);refine .bind (p:=λo=>o=[I s]) ⟨_,T,rfl⟩ λo e=> ?_;subst e;obtain⟨i,v,g1,g2,G⟩:=N s U;refine .bind (p:=λo=>o=[I i,I v]) ⟨_,g1,rfl⟩ λo e=> ?_;subst e;have G:=G D;refine .cond (λ_=> ?_) λc=> ?_
 ·refine .bind (p:=λo=>o=[I 0]) ⟨_,L _,rfl⟩ λo e=> ?_;subst e;exact .some rfl
 ·refine(inB (show 0<=i from G) (show i<((p.aF.map Az).length:Int)from ?_) c).elim;rw[ac];omega
theorem Z36 {x:Ax3} (h:Fix p x t) (D:p.aF≠[]) (a b c o0 o1:Int) (b1 b2:Bool) (u:Int):
  Out (λo=>gA o 0=0) (NS (Fa p t [I a,I b,I c,I o0,I o1,B true,B b1,B b2,I u])):=
 Ye8 (λr=>Z7t o0 o1 b1 b2 a b c r) (λ_ G=>Ycv h G) (λu=>⟨_,VC h.t.q u,Qs8 h u⟩) Zg9 D u
theorem Ydp {a b c o0 o1:Int} {b1 b2:Bool} (D:p.aF≠[]->∀u,Out (λo=>gA o 0=0) (M (Fa p t [I a,I b,I c,I o0,I o1,B true,B b1,B b2,I u])))
  (T:∀a b c U V X Y x7 x8,Out (λo=>(wA o 0).length<=4096) (Z [I a,I b,I c,I U,I V,I X,I Y,I x7,I x8])) (m0 m1 m2 m3 m4 m5:Int):
  Out (λo=>bA o 0=true->m1<=0) (Qk3 M Z (Al (X1 M Z)) (Fa p t [I a,I b,I c,I o0,I o1,B true,B b1,B b2,I m0,I m1,I m2,I m3,I m4,I m5])):=by
 rw[Zr8];refine .bind (T a b c m0 m1 m2 m3 m4 m5) λo h2=> ?_;have L:∀{x:List AC},x=[B false]->bA x 0=true->m1<=0:=λe h=>by subst e;simp[bA,nth,Fb]at h
 generalize wA o 0=G at*;refine .cond (λ_=> .some (L rfl)) λ_=> .cond (λ_=> .some (L rfl)) λS=> ?_;have N:p.aF≠[]:=by
  intro e;rw[e]at S;simp at S
 have D:=D N;refine .bind (D _) λq hq=> .cond (λ_=> .some (L rfl)) λO=> ?_;have O: ¬m1>gA q 0:=B3 O;rw[hq]at O;refine .bind (p:=λo=>o.1=1\/o.1=2) ?_ λo g=>by rcases g with g|g<;>rw[g]<;>exact .some λ_=>by omega
 refine DD (λs:Int×Nat=>I s.1:: .vC Aa G::I (G.length:Int)::I (s.2:Int)::Fa p t [I a,I b,I c,I o0,I o1,B true,B b1,B b2]) (λs=>s.2<=G.length) (λs=>G.length-s.2) _ ?_ (m0,0) (by simp);rintro⟨v,i⟩ g;dsimp only at g;rw[Zq8];rw[Ad (x:=(i:Int)+1)];refine .cond (λc=> ?_) (λc=> ?_)
 ·have c:=Cs c;refine .cond (λ_=> ?_) λc=>by simp at c;omega
  refine .bind (D _) λ_ _=> .cond (λ_=> .some (.inr ⟨by simp, .inl rfl⟩)) λ_=> ?_;exact .some (.inl ⟨rfl,(_,i+1),rfl,by dsimp only;omega,by dsimp only;omega⟩)
 ·exact .some (.inr ⟨by simp, .inr rfl⟩)
theorem Zkk {x:Ax3} (h:Fix p x t) (a b c o0 o1:Int) (b1 b2:Bool) (m0 m1 m2 m3 m4 m5:Int):
  Out (λo=>bA o 0=true->m1<=0) (Pn (Fa p t [I a,I b,I c,I o0,I o1,B true,B b1,B b2,I m0,I m1,I m2,I m3,I m4,I m5])):=
 Ydp (λD u=>Z36 h D a b c o0 o1 b1 b2 u) Qtu m0 m1 m2 m3 m4 m5
theorem Zyw (K:Kf) {i:Nat} (h:i<K.aA.length):nth [] (K.aA.map Af) i=Af K.aA[i]:=by
 rw[B5,List.getD,du,ai h];rfl
theorem Ydk (K:Kf) {i:Nat} (h:i<K.p.aD.length):nth [] (K.p.aD.map Aq) i=Aq K.p.aD[i]:=by
 rw[B5,List.getD,du,ai h];rfl
theorem Z1u {c:Cv} (h:c.way=0):Lb (Aj K c)=some (I 0::B false::Aj K c):=by
 have key:∀{A B':Fn},YY A B' (Aj K c)=some (I 0::B false::Aj K c):=by
  intro A B';rw[Zw7,BO (by simp[h])]
 exact key
abbrev Qd6 (c:Cv):Cv:={c with m0:=O (Cw c*256),m1:=0,m2:=0,m3:=O (Cw c*256),m4:=O (Cw c*256),m5:=O (Cw c*256)}
theorem Q4x (u:Int):Jy [I u]=some [I (O (u*256)),I 0,I 0,I (O (u*256)),I (O (u*256)),I (O (u*256))]:=by
 show Qdx [I u]=_;rw[Yff]
theorem Zq1 {c:Cv} (D:Z (Aj K c)=some [I (Cw c)]) (G:∀u:Int,M [I u]=some [I (O (u*256)),I 0,I 0,I (O (u*256)),I (O (u*256)),I (O (u*256))]):
  Qm4 M Z (Aj K c)=some (if c.g0=2 then I 6::B true::Aj K (Qd6 c)else I 0::B false::Aj K c):=by
 rw[Zzz];by_cases h:c.g0=2
 ·rw[aa h,BZ (by simp[h]),D];simp only[am,gA,wA,bA,jA,Gk,JL];rw[G];rfl
 ·rw[ab h,BO (by simpa using h)]
theorem Z12 (K:Kf) (c:Cv):Lv (Aj K c)=some (if c.g0=2 then I 6::B true::Aj K (Qd6 c)else I 0::B false::Aj K c):=Zq1 (SG K c) Q4x
theorem Zpq (K:Kf) (c:Cv):J_ (Aj K c)=some (I c.aI::B (c.aI !=0)::Aj K c):=by
 show V_ (Aj K c)=_;rw[Zlq]
theorem Zyk (K:Kf) (c:Cv):LO (Aj K c)=some (if c.aH=true/\c.aM=true then I 8::B true::Aj K {c with aI:=8}else I 0::B false::Aj K c):=by
 show Qmg (Aj K c)=_;rw[Ztb];by_cases h:c.aH=true
 ·by_cases D:c.aM=true
  ·rw[aa ⟨h,D⟩,BZ (by simp[h]),BZ (by simp[D]),h,D]
  ·rw[ab (λe=>D e.2),BZ (by simp[h]),BO (by simpa using D)]
 ·rw[ab (λe=>h e.1),BO (by simpa using h)]
theorem Out.eqv {α:Type} {p:α->Prop} {a b:Option α} (h:a=b) (g:Out p b):Out p a:=h▸g
abbrev ST (D outs:Rw) (mode s:Int) (m:Pt) (G fault:Int):List AC:=[.vC kPt D, .vC Aa outs,I mode,I s,I m.x,I m.y,I m.z,I G,I fault]
abbrev FD:List AC:=[.vC kPt [], .vC Aa [],I 0,I 0,I 0,I 0,I 0,I 0,I 0]
theorem Zzb (r k:Int):(AY r k=r/\A0 r k=0)\/(AY r k=0/\A0 r k=r)\/(AY r k= -r/\A0 r k=0)\/(AY r k=0/\A0 r k= -r):=by
 have D:k%4=0\/k%4=1\/k%4=2\/k%4=3:=by omega
 unfold AY A0;rcases D with h|h|h|h<;>simp[h]
theorem Zcq (r k:Int):sq2 (AY r k) (A0 r k)=r*r:=by
 unfold sq2;rcases Zzb r k with⟨D,G⟩|⟨D,G⟩|⟨D,G⟩|⟨D,G⟩<;>rw[D,G]<;>grind
theorem Zo3 (G:r=1\/r=2\/r=3) (I:0<u) (L:0<d):crs (AY u k) (A0 u k) (AY d (k+r)) (A0 d (k+r))≠0\/dt2 (AY u k) (A0 u k) (AY d (k+r)) (A0 d (k+r))<0:=by
 have M:k%4=0\/k%4=1\/k%4=2\/k%4=3:=by omega
 have N:0<u*d:=Int.mul_pos I L;have T: -u*d= -(u*d)/\u* -d= -(u*d)/\ -u* -d=u*d:=⟨Int.neg_mul ..,Int.mul_neg ..,Int.neg_mul_neg ..⟩;have e:∀j:Int,(k+r)%4=j->∀i:Int,k%4=i->crs (AY u k) (A0 u k) (AY d (k+r)) (A0 d (k+r))=(if i=0 then u else if i=2 then-u else 0)*(if j=1 then d else if j=3 then-d else 0)-(if i=1 then u else if i=3 then-u else 0)*(if j=0 then d else if j=2 then-d else 0)/\
   dt2 (AY u k) (A0 u k) (AY d (k+r)) (A0 d (k+r))=(if i=0 then u else if i=2 then-u else 0)*(if j=0 then d else if j=2 then-d else 0)+(if i=1 then u else if i=3 then-u else 0)*(if j=1 then d else if j=3 then-d else 0):=by
  intro j O i S;subst O S;exact⟨rfl,rfl⟩
 rcases G with rfl|rfl|rfl<;>rcases M with D|D|D|D
 ·obtain⟨e1,e2⟩:=e 1 (by omega) _ D;simp at e1 e2;omega
 ·obtain⟨e1,e2⟩:=e 2 (by omega) _ D;simp at e1 e2;omega
 ·obtain⟨e1,e2⟩:=e 3 (by omega) _ D;simp at e1 e2;omega
 ·obtain⟨e1,e2⟩:=e 0 (by omega) _ D;simp at e1 e2;omega
 ·obtain⟨e1,e2⟩:=e 2 (by omega) _ D;simp at e1 e2;omega
 ·obtain⟨e1,e2⟩:=e 3 (by omega) _ D;simp at e1 e2;omega
 ·obtain⟨e1,e2⟩:=e 0 (by omega) _ D;simp at e1 e2;omega
 ·obtain⟨e1,e2⟩:=e 1 (by omega) _ D;simp at e1 e2;omega
 ·obtain⟨e1,e2⟩:=e 3 (by omega) _ D;simp at e1 e2;omega
 ·obtain⟨e1,e2⟩:=e 0 (by omega) _ D;simp at e1 e2;omega
 ·obtain⟨e1,e2⟩:=e 1 (by omega) _ D;simp at e1 e2;omega
 ·obtain⟨e1,e2⟩:=e 2 (by omega) _ D;simp at e1 e2;omega
theorem Z2h {it:Itm} (h:ArcMade u it):Qk2 it:=by
 obtain⟨r,k,t,g,x,M,h2,h3,h4,h5,h6,N,T,h9,O,I,D,L⟩:=h.ends;have G:=h.aG;have a1:dU it it.fr=AY r k:=by unfold dU;rw[D,(G9 G).1];omega
 have a2:dW it it.fr=A0 r k:=by unfold dW;rw[D,(G9 G).2.1];omega
 have a3:dU it it.to=AY (r+g) (k+t):=by unfold dU;rw[D,L,(G9 G).1,(G9 G).1];omega
 have a4:dW it it.to=A0 (r+g) (k+t):=by unfold dW;rw[D,L,(G9 G).2.1,(G9 G).2.1];omega
 have V:qA it=r*r:=by unfold qA;rw[a1,a2,Zcq]
 have X:qB it=(r+g)*(r+g):=by unfold qB;rw[a3,a4,Zcq]
 have m1:64<=r*r:=by
  have:=d8 M M (by omega) (by omega);omega
 have m2:64<=(r+g)*(r+g):=by
  have:=d8 (show(8:Int)<=r+g by omega) (show(8:Int)<=r+g by omega) (by omega) (by omega);omega
 unfold Qk2;refine⟨by omega,by omega,?_,?_,?_⟩
 ·rw[V,X];unfold Ff;right;have hg:g*g<=16:=by
   have:=d8 T T N (by omega);omega
  have e1:r*r+(r+g)*(r+g)-16=2*(r*(r+g))+(g*g-16):=by grind
  have U:0<=r*(r+g):=gz (by omega) (by omega);have Y:64<=r*(r+g):=by
   have:=d8 M (show(8:Int)<=r+g by omega) (by omega) (by omega);omega
  have a0:0<=g*g:=gz N N;have e2:4*(r*r)*((r+g)*(r+g))=(2*(r*(r+g)))*(2*(r*(r+g))):=by grind
  rw[e1,e2];generalize 2*(r*(r+g))=m at*;exact gw (by omega) (by omega)
 ·intro hf;rw[I]at hf;have S:=of_decide_eq_true hf;rw[a1,a2,a3,a4,S,O S,ip,ip];exact⟨rfl,rfl⟩
 ·intro hf;rw[I]at hf;have S:=of_decide_eq_false hf;unfold cAB dAB;rw[a1,a2,a3,a4];exact Zo3 (by omega) (by omega) (by omega)
theorem Zft {it:Itm} (h:Made it) (G:bd 1000000 it.fr) (I:bd 1000000 it.to):BI it:=by
 refine⟨h.aP,AI G (by omega),AI I (by omega),λL=> ?_⟩;have D:=h.arc L;exact⟨D.aG,D.dir,AI (UU D (by omega) G).2 (by omega),Z2h D⟩
end Go.Bm
namespace Go.Bm
open Classical
structure Oth (it : Itm) : Prop where
 aP:7<=it.aP/\it.aP<=14
 spin:it.aP=8->3<=it.n/\it.n<=5/\0<=it.aS/\it.aS<=4000
 dwell:it.aP=7->0<=it.n/\it.n<=4
 out:it.aP=10->0<=it.n/\it.n<=15
def Ld:Pt->List Itm->Prop
 |_,[]=>True
 |p,it::l=>if AB it then it.fr=p/\Ld it.to l else Ld p l
structure Items (A : Nat) (p : Pt) (l : List Itm) : Prop where
 link:Ld p l
 made:∀it∈l,(AB it/\Made it/\Hj it/\bd A it.fr/\bd A it.to)\/Oth it
theorem Q18 {it:Itm} (h:Oth it): ¬AB it:=λg=>by have:=h.aP;have:=g.2;omega
theorem Qqh {A:Nat} {aA:List Itm} (G:A<=1000000) (L:∀it∈aA,(AB it/\Made it/\Hj it/\bd A it.fr/\bd A it.to)\/Oth it):∀(k i:Nat) (last:Int) (p:Pt),i+k=aA.length->Ld p (aA.drop i)->(0<=last->(vE aA last.toNat).to=p)->EB aA k i last=0
 |0,_,_,_,_,_,_=>rfl
 |k+1,i,last,p,hi,h,O=>by
  have D:i<aA.length:=by omega
  have M:=L _ (Zjd D);rw[RS D]at h;unfold Ld at h;unfold EB;have S: ¬Bp (vE aA i):=by
   rcases M with⟨T,I,h3,U,V⟩|N
   ·have X:=Zft I (AI U G) (AI V G);have hf:=I.aZ;have hb:=I.bH;have Y:=I.aP;rintro(g|g|⟨-,g|g|g|g⟩|⟨g,-⟩)
    ·omega
    ·omega
    ·exact g X
    ·omega
    ·omega
    ·omega
    ·exact g T
   ·have Y:=N.aP;rintro(g|g|⟨g,-⟩|⟨-,g1,g2⟩)
    ·omega
    ·omega
    ·exact Q18 N g
    ·have:=N.spin g1;omega
  rw[ab S];by_cases c:AB (vE aA i)
  ·rw[aa c]at h⊢;rw[ab (λg=>g.2 (by rw[O g.1];exact h.1.symm))];exact Qqh G L k (i+1) i _ (by omega) h.2 (λ_=>by rw[af])
  ·rw[ab c]at h⊢;exact Qqh G L k (i+1) last p (by omega) h O
theorem Za4 (D:A<=1000000) (h:Items A a z) (G:z.length<=20000):BY z=0:=by
 unfold BY;rw[ab];exact Qqh D h.made z.length 0 (-1) a (by omega) (by rw[fh];exact h.link) (λh=>by omega)
end Go.Bm
namespace Go.Bm
theorem Zp0 (S:∀{hi lo y:Nat},hi<y->y<w64->lo<w64->M [U hi,U lo,U y]=some [U (((hi*w64+lo)/y:Nat):Int),U (((hi*w64+lo)%y:Nat):Int)])
  {hi lo y:Nat} (G:hi<w64) (I:lo<w64) (D:0<y) (T:y<w64):
  ∃L N:Nat,Qeu M [U hi,U lo,U y]=some [U L,U N,B (decide (0<(hi*w64+lo)%y))]/\L<w64/\N<w64/\L*w64+N=(hi*w64+lo)/y:=by
 have V:=S (hi:=0) (lo:=hi) D T G;rw[Nat.zero_mul,dh,show((0:Nat):Int)=0 from rfl]at V;have X:=gd hi D;have Y:=S (hi:=hi%y) (lo:=lo) X T I;have e:=fc hi y;have e2:hi*w64+lo=hi%y*w64+lo+hi/y*w64*y:=by
  have:hi*w64=hi/y*w64*y+hi%y*w64:=by
   rw[<-e,Nat.mul_add_mod,Nat.mod_mod];rw[show(y*(hi/y)+hi%y)/y=hi/y from by rw[e]];rw[gx,cx y,dt,cx y,dt]
  omega
 have hq:(hi*w64+lo)/y=(hi%y*w64+lo)/y+hi/y*w64:=by rw[e2,Nat.add_mul_div_right _ _ D]
 have hr:(hi*w64+lo)%y=(hi%y*w64+lo)%y:=by rw[e2,Nat.add_mul_mod_self_right]
 have O:(hi%y*w64+lo)/y<w64:=by
  rw[dy D];have:hi%y*w64+w64<=y*w64:=by rw[<-gi];exact bg _ X
  rw[cx w64];omega
 refine⟨hi/y,(hi%y*w64+lo)/y,?_,Nat.lt_of_le_of_lt (f8 _ _) G,O,by rw[hq];omega⟩;rw[Zuc];simp only[go_sem,V,Y,hr];by_cases c:0<(hi%y*w64+lo)%y
 ·rw[ah c,ah (show(((hi%y*w64+lo)%y:Nat):Int)>0 by omega)]
 ·rw[al c,al (show¬(((hi%y*w64+lo)%y:Nat):Int)>0 by omega)]
theorem Z1x {A n t:Nat} (D:0<n) (L:t*t<=2*A*(2*A)/n) (M:2*A*(2*A)/n<(t+1)*(t+1)) (down:Bool) {E:Prop} [Decidable E] (N:E↔(2*A*(2*A)%n=0/\t*t=2*A*(2*A)/n)):
  Eh A n down (if t%2=1/\(¬E\/down=false)then t/2+1 else t/2):=by
 have U:2*A*(2*A)=4*(A*A):=by grind
 have G:t*t*n<=2*A*(2*A):=(Nat.le_div_iff_mul_le D).1 L;have V:2*A*(2*A)<(t+1)*(t+1)*n:=(dy D).1 M;have O:(2*A*(2*A)%n=0/\t*t=2*A*(2*A)/n)↔t*t*n=2*A*(2*A):=by
  have hd:=fc (2*A*(2*A)) n;constructor
  ·rintro⟨g1,g2⟩;rw[g2,cx];omega
  ·intro g;rw[<-g];exact⟨Nat.mul_mod_left _ _,(Nat.mul_div_cancel _ D).symm⟩
 have I:=N.trans O;rw[U]at G V I;clear N O L M;generalize X:4*(A*A)=Q at*;unfold Eh;rw[X];rcases Nat.mod_two_eq_zero_or_one t with S|S
 ·rw[ab];obtain⟨m,rfl⟩:∃m,t=2*m:=⟨t/2,by omega⟩;rw[show 2*m/2=m by omega];have h5:(2*m+1)*(2*m+1)*n<=(2*m+1)*(2*m+1)*n:=bt _;refine⟨?_,?_⟩
  ·rcases dp m with T|T
   ·exact .inl T
   ·right;have Y:(2*m-1)*(2*m-1)*n<2*m*(2*m)*n:=dx (fo (by omega)) D;split<;>omega
  ·split<;>omega
 ·obtain⟨m,rfl⟩:∃m,t=2*m+1:=⟨t/2,by omega⟩;rw[show(2*m+1)/2=m by omega];have Y:(2*m+1+1)*(2*m+1+1)*n<=(2*(m+1)+1)*(2*(m+1)+1)*n:=O7 (by omega);have h7:(2*m-1)*(2*m-1)*n<(2*m+1)*(2*m+1)*n:=dx (fo (by omega)) D;have h8:2*(m+1)-1=2*m+1:=by omega
  by_cases c: ¬E\/down=false
  ·rw[aa ⟨S,c⟩,h8];refine⟨.inr ?_,?_⟩
   ·cases down
    ·simp only[de,f9];exact G
    ·simp only[ew];rcases c with c|c
     ·exact Nat.lt_of_le_of_ne G λh=>c (I.2 h)
     ·cases c
   ·split<;>omega
  ·have c1:(2*m+1)*(2*m+1)*n=Q:=by
    by_cases g:E
    ·exact I.1 g
    ·exact absurd (.inl g) c
   have c2:down=true:=by
    cases down
    ·exact absurd (.inr rfl) c
    ·rfl
   subst c2;rw[ab (λh=>c h.2)];simp only[ew];exact⟨.inr (by omega),by omega⟩
theorem Zo0 {x d:Int}:sgn x d<0↔x*d<0:=by
 rcases Uf x d with⟨h,g⟩|⟨h,g⟩|⟨h,g⟩<;>omega
theorem Yc8 {x d:Int} {n X D Y l1 qh ql t O l2:Nat} (hX:X<=2147483648) (hD:D<=2147483648) (hn:0<n/\n<=4611686018427387904)
  (z1:G [I x]=some [U X]) (z2:G [I d]=some [U D]) (hk:H [I 2]=some [B true]) (a4:S [U ((2*(X*D):Nat):Int),U ((2*(X*D):Nat):Int)]=some [U Y,U l1])
  (a5:T [U Y,U l1,U n]=some [U qh,U ql,B (decide (0<2*(X*D)*(2*(X*D))%n))]) (a6:qh*w64+ql=2*(X*D)*(2*(X*D))/n) (a7:ql<w64) (a8:V [U qh,U ql]=some [U t]) (a3:t<w64)
  (a9:S [U t,U t]=some [U O,U l2]) (b0:O*w64+l2=t*t) (b1:l2<w64) (hs:W [I x,I d]=some [I (sgn x d)])
  (hg:∀(more:Int) (some_ neg:Bool),Z [I 2,I more,B some_,B neg]=some [B (if more>0 then true else if more=0 then !neg else false)])
  (g1:∀{n:Nat},n<9223372036854775808->M [U n,B false]=some [I n,B true]) (g2:∀{n:Nat},n<=9223372036854775808->M [U n,B true]=some [I (-(n:Int)),B true]) {J:Nat}
  (a0:t%2=1->(¬(2*(X*D)*(2*(X*D))%n=0/\t*t=2*(X*D)*(2*(X*D))/n)\/ ¬sgn x d<0)->J=t/2+1) (a2: ¬(t%2=1/\(¬(2*(X*D)*(2*(X*D))%n=0/\t*t=2*(X*D)*(2*(X*D))/n)\/ ¬sgn x d<0))->J=t/2) (b4:t<=9223372036854775808):
  X2 M Z W V T S H G [I x,I d,I n,I 2]=some [I (if sgn x d<0 then-(J:Int)else J),B true]:=by
 have b5:X*D<=2147483648*2147483648:=cd hX hD;have w1:wrap .u64 (2*wrap .u64 ((X:Int)*(D:Int)))=((2*(X*D):Nat):Int):=by
  rw[<-cm,wr (by omega),show(2:Int)*((X*D:Nat):Int)=((2*(X*D):Nat):Int) by omega,wr (by omega)]
 have w2:wrap .u64 (n:Int)=n:=wr (by omega);have w3:((t:Int)).tdiv 2=((t/2:Nat):Int):=Qah t 2;have w4:wrap .u64 ((t/2:Nat):Int)=((t/2:Nat):Int):=wr (by rw[Ba]at a3;omega);have w5:wrap .u64 (((t/2:Nat):Int)+1)=((t/2+1:Nat):Int):=by rw[show((t/2:Nat):Int)+1=((t/2+1:Nat):Int) by omega,wr (by rw[Ba]at a3;omega)]
 have w6:((t:Int).tmod 2=1)=(t%2=1):=by
  rw[ii (by omega)];exact propext ⟨by omega,by omega⟩
 have b2:∀(neg:Bool) (k:Nat),k<9223372036854775808->M [U k,B neg]=some [I (if neg=true then-(k:Int)else k),B true]:=by
  intro neg k hk;cases neg
  ·exact g1 hk
  ·exact g2 (by omega)
 have key:∀(neg:Bool) (k:Nat),decide (sgn x d<0)=neg->J=k->k<9223372036854775808->M [U k,B neg]=some [I (if sgn x d<0 then-(J:Int)else J),B true]:=by
  intro neg k Y O h3;rw[b2 neg k h3,O];congr 3;by_cases c:sgn x d<0
  ·rw[aa c,aa (by rw[<-Y];exact ah c)]
  ·rw[ab c,ab (by rw[<-Y];simpa using c)]
 have b3:(O=qh/\l2=ql)↔t*t=2*(X*D)*(2*(X*D))/n:=by
  rw[<-b0,<-a6];constructor
  ·rintro⟨rfl,rfl⟩;rfl
  ·intro h;have a1:∀p q u v:Nat,u<w64->v<w64->p*w64+u=q*w64+v->p=q/\u=v:=by
    intro p q u v hu hv h;rcases Nat.lt_trichotomy p q with c|c|c
    ·have:=bg w64 (show p+1<=q from c);rw[gi]at this;omega
    ·subst c;exact⟨rfl,by omega⟩
    ·have:=bg w64 (show q+1<=p from c);rw[gi]at this;omega
   exact a1 _ _ _ _ b1 a7 h
 rw[Zny];simp only[go_sem,z1,z2,hk,w1,w2,a4,a5,a8,hs,a9,w3,w4,w5,hg];rw[ab,ab,ab,ab,ab (by simp)];have N:t/2+1<9223372036854775808:=by omega
 have hT:∀k:Nat,J=k->k<9223372036854775808->((M [U (k:Int),B (decide (sgn x d<0))]).bind λo=>some [I (Ah (nth .vD o 0)),B (Fb (nth .vD o 1))])=some [I (if sgn x d<0 then-(J:Int)else J),B true]:=by
  intro k Y O;rw[key _ k rfl Y O];rfl
 have e3:((O:Int)=qh/\(l2:Int)=ql/\True)=(t*t=2*(X*D)*(2*(X*D))/n):=by
  rw[<-propext b3];exact propext ⟨λh=>⟨by omega,by omega⟩,λh=>⟨by omega,by omega,trivial⟩⟩
 simp only[e3,w6];have n1:((1:Int)>0)=True:=by simp
 have n2:((-1:Int)>0)=False:=by simp
 have n3:((-1:Int)=0)=False:=by simp
 have n4:((0:Int)>0)=False:=by simp
 by_cases cR:2*(X*D)*(2*(X*D))%n=0
 ·rw[ab (show¬0<2*(X*D)*(2*(X*D))%n by omega)];by_cases L:t%2=1
  ·by_cases cE:t*t=2*(X*D)*(2*(X*D))/n
   ·by_cases cn:sgn x d<0
    ·have:=a2 (λh=>h.2.elim (λg=>g ⟨cR,cE⟩) λg=>g cn);simp only[n1,n2,n3,n4,de,L,cE,iu,ew,f9];rw[ab (by simp[cn])];exact hT _ this (by omega)
    ·have:=a0 L (.inr cn);simp only[n1,n2,n3,n4,de,L,cE,iu,ew,f9];rw[aa (by simp;omega)];exact hT _ this N
   ·have:=a0 L (.inl λg=>cE g.2);simp only[n1,n2,n3,n4,de,L,cE,iu,iv,ew,f9];exact hT _ this N
  ·have:=a2 (λh=>L h.1);simp only[n1,n2,n3,n4,de,L,f9,ite_self];exact hT _ this (by omega)
 ·rw[aa (show 0<2*(X*D)*(2*(X*D))%n by omega)];by_cases L:t%2=1
  ·have:=a0 L (.inl λg=>cR g.1);simp only[n1,n2,n3,n4,de,L,iv,ew];exact hT _ this N
  ·have:=a2 (λh=>L h.1);simp only[n1,n2,n3,n4,de,L,iv,ew,f9];exact hT _ this (by omega)
theorem Z6m {x d:Int} {n:Nat} (N:0<n) (O:0<=d) (G:Eh (x.natAbs*d.natAbs) n (decide (x*d<0)) J):(if x*d<0 then-(J:Int)else J)=A9 x d n:=by
 unfold A9;rw[fu];by_cases L:x<0
 ·rw[aa L];by_cases M:d=0
  ·subst M;rw[Int.mul_zero,ab];rw[show x.natAbs*(0:Int).natAbs=0 from by simp]at G⊢;have e1:Eh 0 n true 0:=⟨.inl rfl,by simp⟩;rw[K5 e1];obtain⟨I,-⟩:=G;rw[al (by simp)]at I;simp only[de,f9]at I;rcases I with I|I
   ·omega
   ·rcases dp J with S|S
    ·omega
    ·have T:=Nat.mul_pos (Nat.mul_pos (show 0<2*J-1 by omega) (show 0<2*J-1 by omega)) N;omega
  ·have D:x*d<0:=Int.mul_neg_of_neg_of_pos L (by omega);rw[ah D]at G;rw[aa D,K5 G]
 ·rw[ab L];have D: ¬x*d<0:=by have:=gz (show 0<=x by omega) O;omega
  rw[al D]at G;rw[ab D,K5 G]
theorem YW {x d n:Int} (hx:x.natAbs<=2147483648) (hd:0<=d/\d<=2147483648) (hn:0<n/\n<=4611686018427387904):Iz [I x,I d,I n,I 2]=some [I (A9 x d n),B true]:=by
 obtain⟨N,rfl⟩:=bc (show 0<=n by omega);have hD:d.natAbs<=2147483648:=by omega
 have a1:x.natAbs*d.natAbs<=2147483648*2147483648:=cd hx hD;have O:0<N/\N<=4611686018427387904:=by omega
 have S:2*(x.natAbs*d.natAbs)<w64:=by rw[Ba];omega
 obtain⟨G,l1,e1,e2,e3⟩:=Po S S;have T:N<w64:=by rw[Ba];omega
 have U:G<w64:=by
  have:=Nat.mul_lt_mul'' S S;rw[<-e2]at this;by_cases c:G<w64
  ·exact c
  ·have:=bg w64 (show w64<=G by omega);omega
 obtain⟨qh,ql,q1,q2,q3,V⟩:=Zp0 (M:=GZ) Yg0 U e3 O.1 T;rw[e2]at q1 V;obtain⟨t,r1,Y,r3,r4⟩:=Zjr q2 q3;rw[V]at Y r3;obtain⟨h2,l2,p1,p2,p3⟩:=Po r4 r4;have ht:t<=9223372036854775808:=by
  have k1:t*t<=2*(x.natAbs*d.natAbs)*(2*(x.natAbs*d.natAbs)):=bj Y (f8 _ _);have k2:=Nat.mul_self_le_mul_self_iff.1 k1;omega
 have hi:=Z1x O.1 Y r3 (decide (x*d<0)) (E:=2*(x.natAbs*d.natAbs)*(2*(x.natAbs*d.natAbs))%N=0/\t*t=2*(x.natAbs*d.natAbs)*(2*(x.natAbs*d.natAbs))/N) Iff.rfl;have L:=Z6m O.1 hd.1 hi;rw[<-L];have:= @Zo0 x d;have a0:∀a:Int,(if x*d<0 then-a else a)=if sgn x d<0 then-a else a:=by
  intro a;by_cases c:x*d<0
  ·rw[aa c,aa (this.2 c)]
  ·rw[ab c,ab (λh=>c (this.1 h))]
 rw[a0];refine Yc8 (X:=x.natAbs) (D:=d.natAbs) hx hD O (JB (by unfold i64;omega)) (JB (by unfold i64;omega)) (Qmi (.inr (.inr rfl))) e1 q1 V q3 r1 r4 p1 p2 p3 (Y6 x d) Zhd Qim Qzz (λG h2=> ?_) (λh=> ?_) ht
 ·rw[aa ⟨G,h2.imp id λh=>al λg=>h (this.2 g)⟩]
 ·rw[ab λg=>h ⟨g.1,g.2.imp id λk g2=>by rw[decide_eq_false_iff_not]at k;exact k (this.1 g2)⟩]
theorem Zeo (D:bd 67108864 a) (hb:bd 67108864 b):
    O (O (O (0+O (O (a.x-b.x)*O (a.x-b.x)))+O (O (a.y-b.y)*O (a.y-b.y)))+O (O (a.z-b.z)*O (a.z-b.z)))=sqD a b:=by
  have h:∀x y:Int,x.natAbs<=67108864->y.natAbs<=67108864->0<=(x-y)*(x-y)/\(x-y)*(x-y)<=18014398509481984:=by
    intro x y G I;exact B7 (x:=x-y) (A:=134217728) (by omega)
  have L:=h _ _ D.1 hb.1;have M:=h _ _ D.2.1 hb.2.1;have N:=h _ _ D.2.2 hb.2.2;obtain⟨a1,a2,a3⟩:=D;obtain⟨b1,b2,b3⟩:=hb;rw[Ad (x:=a.x-b.x),Ad (x:=a.y-b.y),Ad (x:=a.z-b.z)];unfold sqD IF Ce;simp only;generalize(a.x-b.x)*(a.x-b.x)=u at*;generalize(a.y-b.y)*(a.y-b.y)=v at*;generalize(a.z-b.z)*(a.z-b.z)=w at*;rw[Ad (x:=u),Ad (x:=0+u),Ad (x:=v),Ad (x:=0+u+v),Ad (x:=w),Ad,Int.zero_add]
theorem Zpe {n:Nat} (G:bd 67108864 a) (hb:bd 67108864 b) (D:sqD a b=n)
    (L:∃r:Nat,M [I n,I 1]=some [I ((if((1:Int)=1/\r*r<n)\/((1:Int)=2/\r*r+r<n)then r+1 else r:Nat):Int),B true]/\r*r<=n/\n<(r+1)*(r+1)):
    Xg M [I a.x,I a.y,I a.z,I b.x,I b.y,I b.z]=some [I (Au a b)]:=by
  obtain⟨r,N,O,S⟩:=L;have T:=Qhm O S;rw[Z6h,Zeo G hb,D];simp only[go_sem,N];unfold Au;rw[D,Qur T];congr 3;by_cases c:r*r<n
  · rw[aa (.inl ⟨trivial,c⟩),aa c]
  · rw[ab (by simp[c]),ab c]
theorem Qfp (D:bd 67108864 a) (hb:bd 67108864 b):Jj [I a.x,I a.y,I a.z,I b.x,I b.y,I b.z]=some [I (Au a b)]:=by
  have G:=Lt a b;have M:=NG D hb (bt _);obtain⟨n,L⟩:=bc G;exact Zpe D hb L (Q02 (by omega) (.inl rfl))
theorem Yhz {MO:Fn} {a b:Spk} {u w:Int} (N:okS a) (hb:okS b) (S:u.natAbs<=100000000) (T:w.natAbs<=100000000)
    (U: ¬(u=0/\w=0)->MO [I u,I (hf a.r b.r),I (sq2 u w),I 2]=some [I (A9 u (hf a.r b.r) (sq2 u w)),B true]/\MO [I w,I (hf a.r b.r),I (sq2 u w),I 2]=some [I (A9 w (hf a.r b.r) (sq2 u w)),B true]):
    (bif u == 0 then
      bif w==0 then some [AC.int IntKind.i64 0,AC.int IntKind.i64 0,AC.int IntKind.i64 0,AC.int IntKind.i64 0,AC.bool false]
      else(MO [AC.int IntKind.i64 u,AC.int IntKind.i64 ((O (O (a.r+b.r)+1)).fdiv (2^min (Int.toNat 1) IntKind.i64.bits)),AC.int IntKind.i64 (O (O (u*u)+O (w*w))),AC.int IntKind.i64 2]).bind λD=>
       (MO [AC.int IntKind.i64 w,AC.int IntKind.i64 ((O (O (a.r+b.r)+1)).fdiv (2^min (Int.toNat 1) IntKind.i64.bits)),AC.int IntKind.i64 (O (O (u*u)+O (w*w))),AC.int IntKind.i64 2]).bind λG=>
       some [AC.int IntKind.i64 (Ah (nth AC.vD D 0)),AC.int IntKind.i64 (Ah (nth AC.vD G 0)),AC.int IntKind.i64 ((O (O (a.r+b.r)+1)).fdiv (2^min (Int.toNat 1) IntKind.i64.bits)),AC.int IntKind.i64 ((O (O (a.h+b.h)+1)).fdiv (2^min (Int.toNat 1) IntKind.i64.bits)),AC.bool true]
     else(MO [AC.int IntKind.i64 u,AC.int IntKind.i64 ((O (O (a.r+b.r)+1)).fdiv (2^min (Int.toNat 1) IntKind.i64.bits)),AC.int IntKind.i64 (O (O (u*u)+O (w*w))),AC.int IntKind.i64 2]).bind λD=>
       (MO [AC.int IntKind.i64 w,AC.int IntKind.i64 ((O (O (a.r+b.r)+1)).fdiv (2^min (Int.toNat 1) IntKind.i64.bits)),AC.int IntKind.i64 (O (O (u*u)+O (w*w))),AC.int IntKind.i64 2]).bind λG=>
       some [AC.int IntKind.i64 (Ah (nth AC.vD D 0)),AC.int IntKind.i64 (Ah (nth AC.vD G 0)),AC.int IntKind.i64 ((O (O (a.r+b.r)+1)).fdiv (2^min (Int.toNat 1) IntKind.i64.bits)),AC.int IntKind.i64 ((O (O (a.h+b.h)+1)).fdiv (2^min (Int.toNat 1) IntKind.i64.bits)),AC.bool true])=
    some (AW (ED a b u w)++[B (decide (¬(u=0/\w=0)))]):=by
  have q1:=B7 S;have q2:=B7 T;have e:O (O (u*u)+O (w*w))=sq2 u w:=by
    unfold sq2;generalize u*u=x at*;generalize w*w=y at*;rw[Ad (x:=x),Ad (x:=y),Ad]
  have V:(O (O (a.r+b.r)+1)).fdiv (2^min (Int.toNat 1) IntKind.i64.bits)=hf a.r b.r:=by
    have X:=N.2.2.1;have Y:=hb.2.2.1;rw[Ad (x:=a.r+b.r),Ad (x:=a.r+b.r+1),show(2^min (Int.toNat 1) IntKind.i64.bits:Int)=2 from rfl,dq _ (by omega)];rfl
  have eh:(O (O (a.h+b.h)+1)).fdiv (2^min (Int.toNat 1) IntKind.i64.bits)=hf a.h b.h:=by
    have X:=N.2.2.2;have Y:=hb.2.2.2;rw[Ad (x:=a.h+b.h),Ad (x:=a.h+b.h+1),show(2^min (Int.toNat 1) IntKind.i64.bits:Int)=2 from rfl,dq _ (by omega)];rfl
  simp only[V,eh,e];simp only[go_sem];unfold ED;by_cases h:u=0/\w=0
  · rw[aa h.1,aa h.2,aa h]
    simp[h]
  · obtain⟨n1,n2⟩:=U h
    rw[ab h];simp only[n1,n2,go_sem];have hd:decide (¬(u=0/\w=0))=true:=ah h;rw[hd];by_cases L:u=0
    · rw[aa L,ab (λM=>h ⟨L,M⟩)];try rfl
    · rw[ab L];try rfl
theorem Zrd {a b:Spk} (S:okS a) (hb:okS b) {dir:Int} (G:dir=1\/dir= -1) (bG:Bool)
    (hO:∀{u w:Int},u.natAbs<=100000000->w.natAbs<=100000000-> ¬(u=0/\w=0)->M [I u,I (hf a.r b.r),I (sq2 u w),I 2]=some [I (A9 u (hf a.r b.r) (sq2 u w)),B true]/\M [I w,I (hf a.r b.r),I (sq2 u w),I 2]=some [I (A9 w (hf a.r b.r) (sq2 u w)),B true])
    (hC:Z [I a.u,I a.w,I a.r,I a.h,I b.u,I b.w,I b.r,I b.h]=some [I (crs a.u a.w b.u b.w)]) (hD:W [I a.u,I a.w,I a.r,I a.h,I b.u,I b.w,I b.r,I b.h]=some [I (dt2 a.u a.w b.u b.w)])
    (a0:(crs a.u a.w b.u b.w).natAbs<=5000000000000000):
    Qg9 M Z W [I a.u,I a.w,I a.r,I a.h,I b.u,I b.w,I b.r,I b.h,I dir,B bG]=some (AW (B9 a b dir bG)++[B (decide (¬((BE a b dir bG).1=0/\(BE a b dir bG).2=0)))]):=by
  have key:=fun{u w:Int} (V:u.natAbs<=100000000) (X:w.natAbs<=100000000)=>Yhz (MO:=M) (a:=a) (b:=b) S hb V X (hO V X);have L:=KD S hb G bG;obtain⟨a1,a2,-⟩:=S;obtain⟨b1,b2,-⟩:=hb;have w1:O (0-a.u)= -a.u:=by rw[Ad];omega
  have w2:O (0-a.w)= -a.w:=by rw[Ad];omega
  have w3:O (a.u+b.u)=a.u+b.u:=Ad;have w4:O (a.w+b.w)=a.w+b.w:=Ad;have w5:O (0-(a.u+b.u))= -(a.u+b.u):=by rw[Ad];omega
  have w6:O (0-(a.w+b.w))= -(a.w+b.w):=by rw[Ad];omega
  have w7:O (b.w-a.w)=b.w-a.w:=Ad;have w8:O (a.u-b.u)=a.u-b.u:=Ad;have w9:O (dir*(b.w-a.w))=dir*(b.w-a.w):=by rcases G with rfl|rfl<;>exact Ad
  have T:O (dir*(a.u-b.u))=dir*(a.u-b.u):=by rcases G with rfl|rfl<;>exact Ad
  have U:O (crs a.u a.w b.u b.w*dir)=crs a.u a.w b.u b.w*dir:=by rcases G with rfl|rfl<;>exact Ad
  rw[Zwt];try dsimp only[go_sem]
  unfold B9;simp only[w1,w2,w3,w4,w5,w6,w7,w8,w9,T,hC,hD,am,F1,FP,gA,jA,wA,bA,U];have fin:∀{x:Option (List AC)},x=some (AW (ED a b (BE a b dir bG).1 (BE a b dir bG).2)++[B (decide (¬((BE a b dir bG).1=0/\(BE a b dir bG).2=0)))])->
      (bif dir !=1 then bif dir != -1 then some [AC.int IntKind.i64 0,AC.int IntKind.i64 0,AC.int IntKind.i64 0,AC.int IntKind.i64 0,AC.bool false]else x else x)=some (AW (ED a b (BE a b dir bG).1 (BE a b dir bG).2)++[B (decide (¬((BE a b dir bG).1=0/\(BE a b dir bG).2=0)))]):=by
    intro x Y;rcases G with rfl|rfl
    · rw[BZ (by decide)];exact Y
    · rw[BO (by decide),BZ (by decide)];exact Y
  refine fin ?_;have D:=key L.1 L.2;unfold BE at*;cases bG
  · simp only[aq,de,f9]at D⊢
    by_cases N:0<dt2 a.u a.w b.u b.w
    · rw[AR (show¬dt2 a.u a.w b.u b.w<=0 by omega)]
      by_cases c2:0<crs a.u a.w b.u b.w*dir
      · rw[AR (show¬crs a.u a.w b.u b.w*dir<=0 by omega)]
        rw[aa ⟨N,c2⟩]at D⊢;exact D
      · rw[Cz (show crs a.u a.w b.u b.w*dir<=0 by omega)]
        rw[ab (λh=>c2 h.2),aa N]at D⊢;exact D
    · rw[Cz (show dt2 a.u a.w b.u b.w<=0 by omega)]
      rw[ab (λh=>N h.1),ab N]at D⊢;exact D
  · simp only[aj,ew]at D⊢
    exact D
theorem Ygc {u w r:Int} (D:u.natAbs<=100000000) (G:w.natAbs<=100000000) (L:0<=r/\r<=50000000) (h: ¬(u=0/\w=0)):
    Iz [I u,I r,I (sq2 u w),I 2]=some [I (A9 u r (sq2 u w)),B true]/\Iz [I w,I r,I (sq2 u w),I 2]=some [I (A9 w r (sq2 u w)),B true]:=by
  have M:=Qg h;have N:=B7 D;have O:=B7 G;have S:sq2 u w<=20000000000000000:=by unfold sq2;omega
  exact⟨YW (by omega) (by omega) (by omega),YW (by omega) (by omega) (by omega)⟩
theorem Zsf {a b:Spk} (D:okS a) (hb:okS b) {dir:Int} (G:dir=1\/dir= -1) (bG:Bool):
    My [I a.u,I a.w,I a.r,I a.h,I b.u,I b.w,I b.r,I b.h,I dir,B bG]=some (AW (B9 a b dir bG)++[B (decide (¬((BE a b dir bG).1=0/\(BE a b dir bG).2=0)))]):=by
  have L:=(Ui D.1 D.2.1 hb.1 hb.2.1).2;exact Zrd D hb G bG (λM N h=>Ygc M N (TM D.2.2.1 hb.2.2.1) h)
    (Qp7 (Dc D.1) (Dc D.2.1) (Dc hb.1) (Dc hb.2.1)) (Qmr (Dc D.1) (Dc D.2.1) (Dc hb.1) (Dc hb.2.1)) L
def okT (s:Spk):Prop:=okS s/\ ¬(s.u=0/\s.w=0)/\1<=s.r
theorem Qvl {a b:Spk} (I: ¬(a.u=0/\a.w=0)) (hb: ¬(b.u=0/\b.w=0)) {dir:Int} (L:dir=1\/dir= -1) (bG:Bool): ¬((BE a b dir bG).1=0/\(BE a b dir bG).2=0):=by
  have M:=Qg I;unfold sq2 at M;unfold BE;split
  · simp only;omega
  · rename_i hf
    have key:0<dt2 a.u a.w b.u b.w-> ¬(a.u+b.u=0/\a.w+b.w=0):=by
      intro G ⟨N,O⟩;have e1:b.u= -a.u:=by omega
      have e2:b.w= -a.w:=by omega
      unfold dt2 at G;rw[e1,e2,Int.mul_neg,Int.mul_neg]at G;omega
    split
    · rename_i c;exact key c.1
    · split
      · rename_i S D
        have:=key D;simp only;omega
      · rename_i S D
        simp only;rintro⟨N,O⟩;have e1:b.w=a.w/\a.u=b.u:=by rcases L with rfl|rfl<;>omega
        unfold dt2 at D;rw[e1.1,<-e1.2]at D;omega
theorem Yfl {u w r:Int} (G:u.natAbs<=100000000) (I:w.natAbs<=100000000) (T:1<=r/\r<=50000000) (h: ¬(u=0/\w=0)): ¬(A9 u r (sq2 u w)=0/\A9 w r (sq2 u w)=0):=by
  have U:=Qg h;have V:=B7 G;have X:=B7 I;have Y:sq2 u w<=20000000000000000:=by unfold sq2;omega
  obtain⟨L,M⟩:=Qrb u w;have key:∀x:Int,x.natAbs<=100000000->x*x<=sq2 u w->A9 x r (sq2 u w)=0->4*(x*x)<=sq2 u w:=by
    intro x N O S;obtain⟨-,D⟩:=VA (x:=x) (r:=r) (n:=sq2 u w) (bj N (by decide)) (by omega) (by omega) O;rw[S]at D;obtain⟨-,D⟩:=D;have g4:4*(x.natAbs*r.natAbs*(x.natAbs*r.natAbs))<=(sq2 u w).natAbs:=by
      rw[show(0:Int).natAbs=0 from rfl]at D;split at D<;>omega
    have e1:x.natAbs*r.natAbs*(x.natAbs*r.natAbs)=x.natAbs*x.natAbs*(r.natAbs*r.natAbs):=by grind
    have g5:x.natAbs*x.natAbs*1<=x.natAbs*x.natAbs*(r.natAbs*r.natAbs):=jd _ (cd (show 1<=r.natAbs by omega) (show 1<=r.natAbs by omega));have e2:((x.natAbs*x.natAbs:Nat):Int)=x*x:=d7;omega
  rintro⟨g1,g2⟩;have k1:=key u G L g1;have k2:=key w I M g2;unfold sq2 at*;omega
theorem Ycd {a b:Spk} (D:okT a) (hb:okT b) {dir:Int} (I:dir=1\/dir= -1) (bG:Bool):okT (B9 a b dir bG):=by
  have L:=Qvl D.2.1 hb.2.1 I bG;have G:=KD D.1 hb.1 I bG;have N:=D.1.2.2.1;have O:=hb.1.2.2.1;have S:=D.2.2;have T:=hb.2.2;have M:1<=hf a.r b.r/\hf a.r b.r<=50000000:=by unfold hf;omega
  refine⟨Tn D.1 hb.1 I bG,?_,?_⟩
  · unfold B9 ED
    rw[ab L];exact Yfl G.1 G.2 M L
  · unfold B9 ED
    rw[ab L];exact M.1
theorem Z8z {r n:Int} (D:0<=r/\r<=50000000):Oq [I r,I n]=some [B (decide (n<=32*r-64))]:=by
  unfold Oq;rw[Z8l,Ad (x:=8*r),Ad (x:=8*r*4),Ad (x:=8*r*4-64),show 8*r*4-64=32*r-64 by omega]
theorem Zqk {a b:Spk} (L:okS a) (hb:okS b) {dir:Int} (T:dir=1\/dir= -1) (bG:Bool)
    (U:∀{r n:Int},(0<=r/\r<=50000000)->M [I r,I n]=some [B (decide (n<=32*r-64))])
    (V:Z [I a.u,I a.w,I a.r,I a.h,I b.u,I b.w,I b.r,I b.h]=some [I (crs a.u a.w b.u b.w)]) (X:(crs a.u a.w b.u b.w).natAbs<=5000000000000000):
    Qkv M Z [.vC BQ l,I a.u,I a.w,I a.r,I a.h,I b.u,I b.w,I b.r,I b.h,B bG,I dir]=some [.vC BQ l,B (decide (EI a b dir bG)),I dir]:=by
  have Y:0<=mn a.r b.r/\mn a.r b.r<=50000000:=by
    have h1:=L.2.2.1;have h2:=hb.2.2.1;unfold mn;split<;>omega
  obtain⟨a1,a2,-⟩:=L;obtain⟨b1,b2,-⟩:=hb;have N:=Fk a1 b1;have S:=Fk a2 b2;have q1:=B7 N;have q2:=B7 S;have e:O (O ((a.u-b.u)*(a.u-b.u))+O ((a.w-b.w)*(a.w-b.w)))=sq2 (a.u-b.u) (a.w-b.w):=by
    unfold sq2;generalize(a.u-b.u)*(a.u-b.u)=x at*;generalize(a.w-b.w)*(a.w-b.w)=y at*;rw[Ad (x:=x),Ad (x:=y),Ad]
  have G:O (crs a.u a.w b.u b.w*dir)=crs a.u a.w b.u b.w*dir:=by rcases T with rfl|rfl<;>exact Ad
  rw[Zok,Ey N (by decide),Ey S (by decide),e];cases bG
  · simp only[Bool.not_false,aj,V,am,F1,FP,gA,jA,wA,bA,G,U Y,R0]
    by_cases c:0<crs a.u a.w b.u b.w*dir
    · rw[Cz (show crs a.u a.w b.u b.w*dir>0 from c)]
      by_cases D:sq2 (a.u-b.u) (a.w-b.w)<=32*mn a.r b.r-64
      · rw[ah D,ah (show EI a b dir false from⟨rfl,c,D⟩)]
      · rw[al D,al (λh:EI a b dir false=>D h.2.2)]
    · rw[AR (show¬crs a.u a.w b.u b.w*dir>0 from c),al (λh:EI a b dir false=>c h.2.1)]
  · simp only[Bool.not_true,aq]
    rw[al (λh:EI a b dir true=>by cases h.1)]
theorem Zmv {out:Rw} {a b:Spk} (D:okS a) (hb:okS b) {dir:Int} (G:dir=1\/dir= -1) (bG:Bool):
    LF [.vC BQ out,I a.u,I a.w,I a.r,I a.h,I b.u,I b.w,I b.r,I b.h,B bG,I dir]=some [.vC BQ out,B (decide (EI a b dir bG)),I dir]:=
  Zqk D hb G bG Z8z (Qp7 (Dc D.1) (Dc D.2.1) (Dc hb.1) (Dc hb.2.1)) (Ui D.1 D.2.1 hb.1 hb.2.1).2
theorem Qt6 {dir:Int} (D:dir=1\/dir= -1):∀(n k:Nat) (bG:Bool) (a b:Spk) (out:List Spk),k<=16->k<n->okT a->okT b->out.length+2^k<=1000000->
    OG n [.vC BQ (out.map AW),I a.u,I a.w,I a.r,I a.h,I b.u,I b.w,I b.r,I b.h,B bG,I (16-k:Int),I dir]=some [.vC BQ ((out++BM dir k bG a b).map AW),I dir]
  |0,k,_,_,_,_,_,M,_,_,_=>by omega
  |n+1,0,bG,a,b,out,_,_,G,hb,N=>by
    show U8 _ _ _ _=_;rw[Qwc,AR (by omega),BO]
    · unfold BM
      rw[bp];rfl
    · exact ez (by simp only[ap,ac,bf,bv];omega)
  |n+1,k+1,bG,a,b,out,M,T,G,hb,N=>by
    have L:=Ycd G hb D bG;have O:=Qvl G.2.1 hb.2.1 D bG;have e3:2^(k+1)=2^k+2^k:=by rw[dw];omega
    have U:0<2^k:=dv _;have V:=(PO k false a (B9 a b dir bG) (dir:=dir)).2;have i1:=Qt6 D n k false a (B9 a b dir bG) out (by omega) (by omega) G L (by omega);have S:=Qt6 D n k false (B9 a b dir bG) b (out++BM dir k false a (B9 a b dir bG)) (by omega) (by omega) L hb (by rw[ap];omega);have e1:=Zmv (out:=out.map AW) G.1 hb.1 D bG;have e2:=Zsf G.1 hb.1 D bG;rw[ah O]at e2;show U8 (OG n) My LF _=_;generalize OG n=X at*;generalize My=Y at*;generalize LF=MS at*;rw[Qwc,Cz (by omega),Ad,show(16-((k+1:Nat):Int)+1)=16-(k:Int) by omega];unfold BM;generalize B9 a b dir bG=m at*;generalize BM dir k false a m=p1 at*;generalize BM dir k false m b=p2 at*;simp only[ax,ay,AW]at e2;simp only[e1,e2,am,F1,KU,Kw,O_,Qh,FP,gA,jA,wA,bA,R0,i1,S,Vq];by_cases c:EI a b dir bG
    · rw[aa c,BZ (by simp[c]),BO]
      · rw[bp];rfl
      · exact ez (by simp only[ap,ac,bf,bv];omega)
    · rw[ab c,BO (by simp[c]),aj,d9]
theorem Q8g {it:Itm} (D:bd 1048576 it.ce) (G:bd 1048576 a) (I:64<=sq2 (dU it a) (dW it a)):okT (Bv it a):=by
 obtain⟨T,U,L,M⟩:=LS D G;have e:sq2 (dU it a*16) (dW it a*16)=256*sq2 (dU it a) (dW it a):=by unfold sq2;grind
 refine⟨L7 D G,?_,?_⟩
 ·show¬(dU it a*16=0/\dW it a*16=0);rintro⟨g1,g2⟩;rw[show dU it a=0 by omega,show dW it a=0 by omega]at I;simp[sq2]at I
 ·show 1<=EG _;obtain⟨n,N⟩:=bc L;rw[N]at M⊢;obtain⟨r,O,S⟩:=Mu n;rw[NZ (On O S)];have:1<=r:=by
   rcases dp r with h|h
   ·subst h;omega
   ·exact h
  split<;>omega
theorem Zj0 {n:Nat} (M:n<=2251799813685248):IW [I n,I 2]=some [I (EG n),B true]:=by
 obtain⟨r,D,G,L⟩:=Q02 (n:=n) (mode:=2) (by omega) (.inr rfl);rw[D,NZ (On G L)];congr 3;by_cases c:r*r+r<n
 ·rw[aa (.inr ⟨rfl,c⟩),aa c]
 ·rw[ab (by simp;omega),ab c]
theorem Z99 {it:Itm} (hV:∃v,T (Af it)=some [B v]/\(v=true↔BI it)) (h:BI it)
  (O:it.aP=3->V (Af it)=some [I (dU it it.fr*16),I (dW it it.fr*16),I 0,I (plH it.aG it.fr*16),I (dU it it.to*16),I (dW it it.to*16),I 0,I (plH it.aG it.to*16)])
  (L:∀p:Pt,it.aP=3->(p=it.fr\/p=it.to)->W [I (dU it p*16),I (dW it p*16),I 0,I (plH it.aG p*16),I (dU it p*16),I (dW it p*16),I 0,I (plH it.aG p*16)]=some [I (sq2 (dU it p*16) (dW it p*16))])
  (N:∀p:Pt,it.aP=3->(p=it.fr\/p=it.to)->Z [I (sq2 (dU it p*16) (dW it p*16)),I 2]=some [I (EG (sq2 (dU it p*16) (dW it p*16))),B true])
  (S:it.aP=3->M (.vC BQ [AW (Bv it it.fr)]::AW (Bv it it.fr)++AW (Bv it it.to)++[B it.bG,I 0,I it.dir])=some [.vC BQ ((B0 it).map AW),I it.dir]):
  Qrn M Z W V T (Af it)=if it.aP=3 then some [.vC BQ ((B0 it).map AW),B true]else some [.vC BQ [],B false]:=by
 obtain⟨v,U,G⟩:=hV;rw[Yar];by_cases D:it.aP=3
 ·have e:=O D;have p:=S D;have X:=L it.fr D (.inl rfl);have Y:=L it.to D (.inr rfl);have q1:=N it.fr D (.inl rfl);have q2:=N it.to D (.inr rfl);simp only[ax,ay,Bv,AW]at p;simp only[go_sem,U,e,X,Y,q1,q2,p];rw[ab (by simp[D]),ab (by simp[G.2 h]),aa D]
 ·simp only[go_sem];rw[aa D,ab D]
theorem Zla {it:Itm} (h:BI it):Pj (Af it)=if it.aP=3 then some [.vC BQ ((B0 it).map AW),B true]else some [.vC BQ [],B false]:=by
 have hb:it.aP=3->∀p:Pt,(p=it.fr\/p=it.to)->bd 1048576 it.ce/\bd 1048576 p:=by
  intro G p I;obtain⟨-,M,N,O⟩:=h;obtain⟨-,-,D,-⟩:=O G;rcases I with rfl|rfl
  ·exact⟨D,M⟩
  ·exact⟨D,N⟩
 refine Z99 (Qr5 it) h (λG=> ?_) (λp G I=> ?_) (λp G I=> ?_) λG=> ?_
 ·obtain⟨-,M,N,O⟩:=h;obtain⟨I,-,D,-⟩:=O G;exact Zh5 I M N D
 ·obtain⟨D,L⟩:=hb G p I;obtain⟨g1,g2,-⟩:=LS D L;exact Qmr (bj g1 (by decide)) (bj g2 (by decide)) (bj g1 (by decide)) (bj g2 (by decide))
 ·obtain⟨D,L⟩:=hb G p I;obtain⟨-,-,S,T⟩:=LS D L;obtain⟨n,U⟩:=bc S;rw[U]at T⊢;exact Zj0 (by omega)
 ·obtain⟨-,M,N,O⟩:=h;obtain⟨I,V,D,X,Y,-⟩:=O G;have:=Qt6 V 20 16 it.bG (Bv it it.fr) (Bv it it.to) [Bv it it.fr] (by omega) (by omega) (Q8g D M X) (Q8g D N Y) (show 1+2^16<=1000000 by decide);exact this
theorem Z3s {u w h pl:Int} (G:BX pl):Nd [I u,I w,I h,I pl]=some (ptR (spP pl u w h)):=by
 show Qk6 FE _=_;have D:=Qiu pl;generalize FE=M at*;rw[Z4t];rcases G with rfl|rfl|rfl
 ·have e:axI 17=(0,1,2):=rfl;rw[e]at D;rw[D];rfl
 ·have e:axI 18=(2,0,1):=rfl;rw[e]at D;rw[D];rfl
 ·have e:axI 19=(1,2,0):=rfl;rw[e]at D;rw[D];rfl
theorem Zoj {α:Type} (pre rest:List α) (x z:α):(pre++x::rest).set pre.length z=(pre++[z])++rest:=by
 rw[List.set_append_right _ _ (bt _),i6];simp
def Eg {α:Type} (f:Nat->α) (z:α) (n i:Nat):List α:=(List.range i).map f++List.replicate (n-i) z
theorem Zed {α:Type} (f:Nat->α) (z:α) {n i:Nat} (h:i<=n):(Eg f z n i).length=n:=by unfold Eg;simp;omega
theorem Q8z {α:Type} (f:Nat->α) (z:α) {n i:Nat} (h:i<n):(Eg f z n i).set i (f i)=Eg f z n (i+1):=by
 unfold Eg;have e:n-i=(n-(i+1))+1:=by omega
 rw[e,je];have:=Zoj ((List.range i).map f) (List.replicate (n-(i+1)) z) z (f i);rw[ac,List.length_range]at this;rw[this,List.range_succ,bp];rfl
theorem Qzi {α:Type} (f:Nat->α) (z:α) (n:Nat):Eg f z n n=(List.range n).map f:=by unfold Eg;simp
theorem Zog {α:Type} (l:List α) (d:α):(List.range l.length).map (λi=>l.getD i d)=l:=by
 apply List.ext_getElem
 ·simp
 ·intro i G D;simp[D]
def JV:Spk:=⟨0,0,0,0⟩
theorem Qza {MS MP MF MK MV:Fn} {it:Itm} {l:List Spk} {cu cw:Int} (U:l.length<=65537) (N:cu.natAbs<=16777216) (O:cw.natAbs<=16777216) (L:∀s∈l,okS s)
  (T:∀{u w h:Int},MS [I u,I w,I h,I it.aG]=some (ptR (spP it.aG u w h))) {f:Nat->List AC} (hf:∀i,f i=ptR (spP it.aG (cu+(l.getD i JV).u) (cw+(l.getD i JV).w) (l.getD i JV).h)):
  ∀(k i:Nat),i+k=l.length->Al (Oz MS MP MF MK MV) (.vC kPt (Eg f [I 0,I 0,I 0] l.length i)::I cu::I cw:: .vC BQ (l.map AW)::I l.length::I i::Af it)=
   some (1,[.vC kPt ((List.range l.length).map f)])
 |0,i,V=>by
  refine AJ ?_ (by simp);rw[Q6z];simp only[go_sem];rw[ab,show i=l.length by omega,Qzi]
 |k+1,i,V=>by
  have D:i<l.length:=by omega
  have X:Oz MS MP MF MK MV (.vC kPt (Eg f [I 0,I 0,I 0] l.length i)::I cu::I cw:: .vC BQ (l.map AW)::I l.length::I i::Af it)=
    some (0, .vC kPt (Eg f [I 0,I 0,I 0] l.length (i+1))::I cu::I cw:: .vC BQ (l.map AW)::I l.length::I (i+1:Nat)::Af it):=by
   rw[Q6z];have Y:nth [] (l.map AW) i=AW l[i]:=Em _ _ _ _ D;have ho:=L _ (bh D);have S:=Zed f [I 0,I 0,I 0] (show i<=l.length by omega);have M:=hf i;rw[show l.getD i JV=l[i] by simp[D]]at M;have G:=Q8z f [I 0,I 0,I 0] D;rw[M]at G;generalize l[i]=s at*;obtain⟨s1,s2,-⟩:=ho;simp only[go_sem,af,ac,Y];rw[aa,aa,Ad (x:=cu+s.u),Ad (x:=cw+s.w),Ad (x:=(i:Int)+1)];simp only[T,go_sem,S];rw[aa,G];rfl
  rw[AS X];exact Qza U N O L T hf k (i+1) (by omega)
theorem Z6a {MS G L MK M:Fn} {it:Itm} {S:List Spk} {f:Pt} {u w h:Int} (O:M (Af it)=some [B true])
  (T:MK (Af it)=some [.vC BQ (S.map AW),B true]) (hf:L [I it.ce.x,I it.ce.y,I it.ce.z]=some (ptR f)) (D:G [I f.x,I f.y,I f.z,I it.aG]=some [I u,I w,I h]) (V:S.length<=65537)
  (U:N [.vC kPt (List.replicate S.length [I 0,I 0,I 0]),I u,I w, .vC BQ (S.map AW),I S.length,I 0,I it.aP,I it.block,I it.fr.x,I it.fr.y,I it.fr.z,I it.to.x,I it.to.y,I it.to.z,I it.aG,I it.ce.x,I it.ce.y,I it.ce.z,I it.dir,B it.bG,I it.aZ,B it.perRev,I it.side,I it.radius,I it.bH,I it.n,I it.aS,B it.on]=some (1,[.vC kPt l])):
  UR MS G L MK M N (Af it)=some [.vC kPt l,B true]:=by
 rw[Wu];simp only[go_sem,O,T,hf,D,ac,af,U];rw[ab (by simp),ab (by simp),aa]
theorem Yf2 {it:Itm} (hV:∃v,T (Af it)=some [B v]/\(v=true↔BI it)) (h:BI it)
  (O:V (Af it)=if it.aP=3 then some [.vC BQ ((B0 it).map AW),B true]else some [.vC BQ [],B false])
  (S:∀{p:Pt},bd 100000000 p->W [I p.x,I p.y,I p.z]=some (ptR (Av p))) (hP:BX it.aG->∀{p:Pt},Z [I p.x,I p.y,I p.z,I it.aG]=some [I (plU it.aG p),I (plW it.aG p),I (plH it.aG p)])
  (hS:BX it.aG->∀{u w h:Int},M [I u,I w,I h,I it.aG]=some (ptR (spP it.aG u w h))):
  UR M Z W V T (Al (Oz M Z W V T)) (Af it)=some [.vC kPt ((Bs it).map ptR),B true]:=by
 obtain⟨v,hv,U⟩:=hV;rw[Wu];have X:=U.2 h;subst X;obtain⟨-,h1,h2,ha⟩:=id h;by_cases D:it.aP=3
 ·obtain⟨hp,hd,hc,-⟩:=ha D;rw[aa D]at O;obtain⟨c1,c2,c3⟩:=D8 (pl:=it.aG) (DA hc);have G:=(Tc it).2;have Y:=Qza (MS:=M) (MP:=Z) (MF:=W) (MK:=V) (MV:=T) (it:=it) (l:=B0 it) (cu:=plU it.aG (Av it.ce)) (cw:=plW it.aG (Av it.ce)) G c1 c2 (Qni h D) (hS hp)
   (f:=λi=>ptR (II it ((B0 it).getD i JV))) (λ_=>rfl) (B0 it).length 0 (by omega)
  have L:(List.range (B0 it).length).map (λi=>ptR (II it ((B0 it).getD i JV)))=((B0 it).map (II it)).map ptR:=by
   rw[List.map_map]
   conv=>rhs;rw[<-Zog (B0 it) JV]
   rw[List.map_map];rfl
  rw[L]at Y;have a0:Eg (λi=>ptR (II it ((B0 it).getD i JV))) [I 0,I 0,I 0] (B0 it).length 0=List.replicate (B0 it).length [I 0,I 0,I 0]:=by unfold Eg;simp
  rw[a0]at Y;have hf:=S (AI hc (by decide));have a1:= @hP hp (Av it.ce);have:=Z6a (MS:=M) (N:=Al (Oz M Z W V T)) hv O hf a1 G Y;rw[Wu]at this;unfold Bs;rw[aa D];exact this
 ·rw[ab D]at O;have f1:=S (AI h1 (by decide));have f2:=S (AI h2 (by decide));unfold Bs;rw[ab D];simp only[go_sem,hv,O,f1,f2];simp
theorem Yhn {it:Itm} (h:BI it):Qp (Af it)=some [.vC kPt ((Bs it).map ptR),B true]:=
 Yf2 (Qr5 it) h (Zla h) Q8o (λD=>Q0f D) (λD=>Z3s D)
end Go.Bm
