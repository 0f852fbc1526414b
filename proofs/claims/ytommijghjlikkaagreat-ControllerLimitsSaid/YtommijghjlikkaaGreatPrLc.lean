/- laid together -/
import Derived.Test.YtommijghjlikkaaGreatPrTk
import Derived.Test.YtommijghjlikkaaGreatMx3
import Derived.Lib.ItoaNum
set_option linter.unusedVariables false
set_option linter.unusedSimpArgs false
set_option maxRecDepth 100000
open Go.IntKind (wrap)
variable {a k b u v r j:Int} {p:Go.Bm.Pth} {t:Go.Bm.Trk} {i A R J C Y:Nat} {M Z W T S P O:Go.Bm.Fn} {l:Go.Bm.Rw} {Q:Int->Go.Bm.Pt->Prop} {q:Go.Bm.Pt} {N:Go.Bm.Lp} {g:Go.Bm.Sgm} {L:List Int}
namespace Go.Bm
open Classical
def Dm (x:Ax3) (mv:Int) (Q:Int->Pt->Prop):Int->Int->Pt->List Pce->Prop
 |_,_,_,[]=>True
 |at_,s,d,c::l=>c.at_=at_/\c.s=s/\1<=c.aR/\((c.bD=mv/\c.was=c.aT/\CG x d c.aT=0/\∀k,0<=k->k<c.aR->Q (s+mv*k) c.aT)\/(c.bD=0/\c.was=d/\c.aR=CG x d c.aT))/\Dm x mv Q (at_+c.aR) (s+c.bD*c.aR) c.aT l
def BD:Int->List Pce->Int
 |a,[]=>a
 |a,c::l=>BD (a+c.aR) l
def endQ:Int->List Pce->Int
 |s,[]=>s
 |s,c::l=>endQ (s+c.bD*c.aR) l
def FT:Pt->List Pce->Pt
 |d,[]=>d
 |_,c::l=>FT c.aT l
theorem T5 (c:Pce):∀(a:Int) (l:List Pce),BD a (l++[c])=BD a l+c.aR
 |_,[]=>rfl
 |_,k::l=>T5 c _ l
theorem T_ (c:Pce):∀(s:Int) (l:List Pce),endQ s (l++[c])=endQ s l+c.bD*c.aR
 |_,[]=>rfl
 |_,k::l=>T_ c _ l
theorem UH (c:Pce):∀(d:Pt) (l:List Pce),FT d (l++[c])=c.aT
 |_,[]=>rfl
 |_,k::l=>UH c _ l
theorem UA {x:Ax3} {mv:Int} {Q:Int->Pt->Prop} {c:Pce}:∀{at_ s:Int} {d:Pt} {l:List Pce},
  Dm x mv Q at_ s d (l++[c])↔Dm x mv Q at_ s d l/\c.at_=BD at_ l/\c.s=endQ s l/\1<=c.aR/\((c.bD=mv/\c.was=c.aT/\CG x (FT d l) c.aT=0/\∀k,0<=k->k<c.aR->Q (endQ s l+mv*k) c.aT)\/(c.bD=0/\c.was=FT d l/\c.aR=CG x (FT d l) c.aT))
 |at_,s,d,[]=>by
  simp only[az,Dm,BD,endQ,FT,and_true,true_and]
 |at_,s,d,k::l=>by
  simp only[ay,Dm,BD,endQ,FT];rw[UA];constructor
  ·rintro⟨D,E,G,I,J,L⟩;exact⟨⟨D,E,G,I,J⟩,L⟩
  ·rintro⟨⟨D,E,G,I,J⟩,L⟩;exact⟨D,E,G,I,J,L⟩
theorem Zip {l:List Pce} (h:l≠[]) (v:Pce):l.set (l.length-1) v=l.dropLast++[v]:=by
 have e:=List.dropLast_concat_getLast h;have D:l.length-1=l.dropLast.length:=by rw[List.length_dropLast]
 conv=>lhs;arg 1;rw[<-e]
 rw[D,List.set_append_right _ _ (cx _),jq];rfl
theorem Zh9 {l:List Pce} (h:l≠[]):l.dropLast++[Bp l]=l:=by
 have e:=List.dropLast_concat_getLast h;have G:0<l.length:=by
  cases l with
  |nil=>exact absurd rfl h
  |cons _ _=>simp
 have D:l.length-1<l.length:=by omega
 have E:Bp l=l.getLast h:=by
  unfold Bp;rw[dq,ag D,ke,List.getLast_eq_getElem]
 rw[E];exact e
structure TC (x : Ax3) (mv : Int) (Q : Int -> Pt -> Prop) (t : Trk) (s : Int) (d : Pt) : Prop where
 ch:Dm x mv Q 0 t.aQ t.aT t.aE
 len:BD 0 t.aE=t.length
 s:endQ t.aQ t.aE=s
 d:FT t.aT t.aE=d
theorem Ql8 {x:Ax3} {s:Int} (hm:a≠0) (h:TC x a Q t s q) {c:Pce} (Y:c.s=s) (hu:1<=c.aR)
  (E:(c.bD=a/\c.was=c.aT/\CG x q c.aT=0/\∀k,0<=k->k<c.aR->Q (s+a*k) c.aT)\/(c.bD=0/\c.was=q/\c.aR=CG x q c.aT)):TC x a Q (FN t c) (s+c.bD*c.aR) c.aT:=by
 obtain⟨G,J,D,M⟩:=h;unfold FN;by_cases g:t.aE≠[]/\c.bD≠0/\(Bp t.aE).bD=c.bD/\(Bp t.aE).aT=c.aT
 ·rw[aa g];obtain⟨g1,g2,U,V⟩:=g;have e:=Zh9 g1;rw[Zip g1];rw[<-e]at G J D M;rw[UA]at G;rw[T5]at J;rw[T_]at D;rw[UH]at M;generalize t.aE.dropLast=I at*;generalize Bp t.aE=L at*;obtain⟨k0,k1,k2,k4,N⟩:=G
  replace E:=E.resolve_right λh=>g2 h.1
  replace N:=N.resolve_right λh=>g2 (U▸h.1)
  obtain⟨c1,c2,-,c3⟩:=E;obtain⟨X,q2,q4,q3⟩:=N;refine⟨?_,?_,?_,?_⟩
  ·show Dm x a Q 0 t.aQ t.aT (I++[_]);rw[UA];refine⟨k0,k1,k2,by simp only;omega, .inl ⟨X,q2,q4,?_⟩⟩;intro k O S;simp only at S;by_cases T:k<L.aR
   ·exact q3 k O T
   ·have:=c3 (k-L.aR) (by omega) (by omega);rw[<-D,X,<-V]at this;have ea:endQ t.aQ I+a*L.aR+a*(k-L.aR)=endQ t.aQ I+a*k:=by rw[Int.mul_sub];omega
    rw[ea]at this;exact this
  ·show BD 0 (I++[_])=t.length+c.aR;rw[T5];simp only;omega
  ·show endQ t.aQ (I++[_])=s+c.bD*c.aR;rw[T_];simp only;rw[U]at D⊢;rw[Int.mul_add];omega
  ·show FT t.aT (I++[_])=c.aT;rw[UH];exact V
 ·rw[ab g];refine⟨?_,?_,?_,?_⟩
  ·show Dm x a Q 0 t.aQ t.aT (t.aE++[_]);rw[UA];refine⟨G,J.symm,by rw[D];exact Y,hu,?_⟩;rw[D,M];exact E
  ·show BD 0 (t.aE++[_])=t.length+c.aR;rw[T5,J]
  ·show endQ t.aQ (t.aE++[_])=s+c.bD*c.aR;rw[T_,D]
  ·show FT t.aT (t.aE++[_])=c.aT;rw[UH]
theorem Zlo (x:Ax3) (d:Pt):CG x d d=0:=by unfold CG slk;simp
theorem Qy5 {x:Ax3} {s aR:Int} {d a b:Pt} (E:u≠0) (L:∀w d,0<=CG x w d) (h:TC x u Q t s d) (G:1<=aR) (I:∀k,0<=k->k<aR->Q (s+u*k) (D9 d a b u)):
  TC x u Q (CW x u a b s aR (t,d)).1 (s+u*aR) (D9 d a b u):=by
 unfold CW;simp only;generalize D9 d a b u=D at*;by_cases c:CG x d D>0
 ·rw[aa c];have J:=Ql8 E h (c:=⟨0,CG x d D,s,0,d,D⟩) rfl (by simp only;omega) (.inr ⟨rfl,rfl,rfl⟩);simp only[kv,ja]at J;exact Ql8 E J (c:=⟨0,aR,s,u,D,D⟩) rfl G (.inl ⟨rfl,rfl,Zlo x D,I⟩)
 ·rw[ab c];have:=L d D;exact Ql8 E h (c:=⟨0,aR,s,u,D,D⟩) rfl G (.inl ⟨rfl,rfl,by simp only;omega,I⟩)
def KP (l:List Sgm) (mv D E:Int) (j:Nat):Int:=if mv<0 then min (max (AI l (l.length-j)) D) E else min (max (AI l j) D) E
def Qw9 (p:Pth) (mv:Int) (Q:Int->Pt->Prop):Prop:=∀i,i<p.aF.length->∀(d:Pt) (s:Int),AI p.aF i<=s->s<=AI p.aF (i+1)->AI p.aF i<=s+mv->s+mv<=AI p.aF (i+1)->Q s (D9 d (Fz p.aQ p.aF i) (sgA p.aF i).to mv)
theorem Zaz {p:Pth} {x:Ax3} {mv lo hi f:Int} {d:Pt} {Q:Int->Pt->Prop} (N:mv=1\/mv= -1) (J:Ax3OK x) (O:SegOK p.aF) (L:0<=lo/\lo<=hi/\hi<=Av p.aF) (hf:(mv=1/\f=lo)\/(mv= -1/\f=hi)) (S:Qw9 p mv Q):
  ∀j,j<=p.aF.length->TC x mv Q (Cw p x mv lo hi (⟨[],0,f,d⟩,d) j).1 (KP p.aF mv lo hi j) (Cw p x mv lo hi (⟨[],0,f,d⟩,d) j).2
 |0,_=>by
  have V:KP p.aF mv lo hi 0=f:=by
   unfold KP;have:=Zbd p.aF;rcases hf with⟨rfl,rfl⟩|⟨rfl,rfl⟩
   ·rw[ab,Us];omega
   ·rw[aa,Nat.sub_zero,this];omega
  rw[V];exact⟨trivial,rfl,rfl,rfl⟩
 |j+1,hj=>by
  have E:=Zaz N J O L hf S (f:=f) (d:=d) j (by omega);have I:=Yq mv (show j<p.aF.length by omega);have hg:=O.seg _ (IG I);have M:=Q6 I;have T:=S _ I;rw[Cw];unfold II;have D:(mv=1/\ED p.aF.length mv j=j)\/(mv= -1/\ED p.aF.length mv j=p.aF.length-1-j):=by
   unfold ED;rcases N with rfl|rfl
   ·exact .inl ⟨rfl,ab⟩
   ·exact .inr ⟨rfl,aa⟩
  have G:KP p.aF mv lo hi j=(if mv<0 then min (max (AI p.aF (ED p.aF.length mv j+1)) lo) hi else min (max (AI p.aF (ED p.aF.length mv j)) lo) hi)/\
    KP p.aF mv lo hi (j+1)=(if mv<0 then min (max (AI p.aF (ED p.aF.length mv j)) lo) hi else min (max (AI p.aF (ED p.aF.length mv j+1)) lo) hi):=by
   unfold KP;rcases D with⟨rfl,e⟩|⟨rfl,e⟩
   ·rw[e,ab,ab,ab,ab];exact⟨rfl,rfl⟩
   ·rw[e,aa,aa,aa,aa,show p.aF.length-1-j+1=p.aF.length-j by omega,show p.aF.length-(j+1)=p.aF.length-1-j by omega];exact⟨rfl,rfl⟩
  rw[G.1]at E;rw[G.2];generalize ED p.aF.length mv j=i at*;generalize Cw p x mv lo hi (⟨[],0,f,d⟩,d) j=w at*;obtain⟨t,U⟩:=w;simp only at E⊢;by_cases c:max (AI p.aF i) lo<min (AI p.aF (i+1)) hi
  ·rw[aa c];rcases D with⟨rfl,-⟩|⟨rfl,-⟩
   ·rw[ab]at E⊢;rw[ab];have e1:min (max (AI p.aF i) lo) hi=max (AI p.aF i) lo:=by omega
    rw[e1]at E;have:=Qy5 (a:=Fz p.aQ p.aF i) (b:=(sgA p.aF i).to) (aR:=min (AI p.aF (i+1)) hi-max (AI p.aF i) lo) (by omega) (λw d=>(Uf J w d).1) E (by omega) (λk X Y=>T U _ (by omega) (by omega) (by omega) (by omega));have e2:max (AI p.aF i) lo+1*(min (AI p.aF (i+1)) hi-max (AI p.aF i) lo)=min (max (AI p.aF (i+1)) lo) hi:=by omega
    rw[e2]at this;exact this
   ·rw[aa]at E⊢;rw[aa];have e1:min (max (AI p.aF (i+1)) lo) hi=min (AI p.aF (i+1)) hi:=by omega
    rw[e1]at E;have:=Qy5 (a:=Fz p.aQ p.aF i) (b:=(sgA p.aF i).to) (aR:=min (AI p.aF (i+1)) hi-max (AI p.aF i) lo) (by omega) (λw d=>(Uf J w d).1) E (by omega) (λk X Y=>T U _ (by omega) (by omega) (by omega) (by omega));have e2:min (AI p.aF (i+1)) hi+ -1*(min (AI p.aF (i+1)) hi-max (AI p.aF i) lo)=min (max (AI p.aF i) lo) hi:=by omega
    rw[e2]at this;exact this
  ·rw[ab c];have e:(if mv<0 then min (max (AI p.aF (i+1)) lo) hi else min (max (AI p.aF i) lo) hi)=(if mv<0 then min (max (AI p.aF i) lo) hi else min (max (AI p.aF (i+1)) lo) hi):=by
    split<;>omega
   rw[<-e];exact E
theorem Z5h {l:List Pce} (h:l≠[]):nth [] (l.map AM) (l.length-1)=AM (Bp l):=by
 have E:0<l.length:=by cases l with
  |nil=>exact absurd rfl h
  |cons _ _=>simp
 unfold Bp;have D:l.length-1<l.length:=by omega
 rw[GK _ _ _ _ D,dq,ag D,ke]
theorem Zdc {a b:Pt}:a=b↔a.x=b.x/\a.y=b.y/\a.z=b.z:=D6
theorem Z0l {c:Pce} {n m k:Int} (h:TB t n m) (hn:n<=10000000) (hm:m<=1000000000000000000) (hk:k<=1000000000000000000) (hc:0<=c.aR/\c.aR<=k):
  Wf [.vC At (t.aE.map AM),I c.at_,I c.aR,I c.s,I c.bD,I c.was.x,I c.was.y,I c.was.z,I c.aT.x,I c.aT.y,I c.aT.z,I t.length,I t.aQ,I t.aT.x,I t.aT.y,I t.aT.z]=some (A4 (FN t c)):=by
 obtain⟨h1,h2,T⟩:=h;have S:V (t.length+c.aR)=t.length+c.aR:=Ae;have D:((t.aE.map AM++[[I t.length,I c.aR,I c.s,I c.bD,I c.was.x,I c.was.y,I c.was.z,I c.aT.x,I c.aT.y,I c.aT.z]]).length*80).ble 140737488355328=true:=by
  rw[Nat.ble_eq,an,ac];simp only[bh,da];omega
 have G:(t.aE.map AM++[[I t.length,I c.aR,I c.s,I c.bD,I c.was.x,I c.was.y,I c.was.z,I c.aT.x,I c.aT.y,I c.aT.z]]).length*80<=140737488355328:=bj D;have E:some [AC.vC At (t.aE.map AM++[[I t.length,I c.aR,I c.s,I c.bD,I c.was.x,I c.was.y,I c.was.z,I c.aT.x,I c.aT.y,I c.aT.z]]),I (t.length+c.aR),I t.aQ,I t.aT.x,I t.aT.y,I t.aT.z]=
   some (A4 {t with aE:=t.aE++[{c with at_:=t.length}],length:=t.length+c.aR}):=by
  simp only[A4,bn,bm,d8]
 by_cases J:t.aE=[]
 ·have U: ¬(t.aE≠[]/\c.bD≠0/\(Bp t.aE).bD=c.bD/\(Bp t.aE).aT=c.aT):=λg=>g.1 J;unfold FN;rw[ab U,<-E];rw[Zc5,ac,Bi (by rw[J];simp),BX D,S]
 ·have hp:0<t.aE.length:=by
   cases X:t.aE with
   |nil=>exact absurd X J
   |cons _ _=>simp
  have e1:V ((t.aE.length:Int)-1)=((t.aE.length-1:Nat):Int):=by rw[Ae];omega
  have N:(0:Int)<=((t.aE.length-1:Nat):Int)/\((t.aE.length-1:Nat):Int)<(t.aE.length:Int):=by omega
  have hl:=T _ (Qgh J);have O:V ((Bp t.aE).aR+c.aR)=(Bp t.aE).aR+c.aR:=Ae;have L:some [AC.vC At ((t.aE.map AM).set (t.aE.length-1) [I (Bp t.aE).at_,I ((Bp t.aE).aR+c.aR),I (Bp t.aE).s,I (Bp t.aE).bD,I (Bp t.aE).was.x,I (Bp t.aE).was.y,I (Bp t.aE).was.z,I (Bp t.aE).aT.x,I (Bp t.aE).aT.y,I (Bp t.aE).aT.z]),I (t.length+c.aR),I t.aQ,I t.aT.x,I t.aT.y,I t.aT.z]=
   some (A4 {t with aE:=t.aE.set (t.aE.length-1) {Bp t.aE with aR:=(Bp t.aE).aR+c.aR},length:=t.length+c.aR}):=by
   simp only[A4,List.map_set]
  have Y:=Z5h J;have main : ∀ R, R = (if c.bD ≠ 0 then if (Bp t.aE).bD = c.bD then if (Bp t.aE).aT.x = c.aT.x /\ (Bp t.aE).aT.y = c.aT.y /\ (Bp t.aE).aT.z = c.aT.z then
    some (A4 {t with aE:=t.aE.set (t.aE.length-1) {Bp t.aE with aR:=(Bp t.aE).aR+c.aR},length:=t.length+c.aR})
    else some (A4 {t with aE:=t.aE++[{c with at_:=t.length}],length:=t.length+c.aR})else some (A4 {t with aE:=t.aE++[{c with at_:=t.length}],length:=t.length+c.aR})else some (A4 {t with aE:=t.aE++[{c with at_:=t.length}],length:=t.length+c.aR}))->R=some (A4 (FN t c)):=by
   intro R hR;rw[hR];unfold FN;by_cases g1:c.bD≠0
   ·by_cases g2:(Bp t.aE).bD=c.bD
    ·by_cases M:(Bp t.aE).aT.x=c.aT.x/\(Bp t.aE).aT.y=c.aT.y/\(Bp t.aE).aT.z=c.aT.z
     ·rw[aa g1,aa g2,aa M,aa ⟨J,g1,g2,Zdc.2 M⟩]
     ·rw[aa g1,aa g2,ab M,ab λg=>M (Zdc.1 g.2.2.2)]
    ·rw[aa g1,ab g2,ab λg=>g2 g.2.2.1]
   ·rw[ab g1,ab λg=>g1 g.2.1]
  refine main _ ?_;rw[<-E,<-L];rw[Zc5,ac,e1,aj,Y];simp only[go_sem,S,O,aa N,aa G];rw[aa];simp only[and_true]
theorem Zmt (x:Ax3) (w d:Pt):Oc (AL x++[I w.x,I w.y,I w.z,I d.x,I d.y,I d.z])=some [I (CG x w d)]:=by
 have he:=Zhy x.a.step x.a.aS x.a.bF x.a.bG x.a.low x.a.aY x.a.bB x.a.aV x.a.aO (x.a.aW.map Ai) x.b.step x.b.aS x.b.bF x.b.bG x.b.low x.b.aY x.b.bB x.b.aV x.b.aO (x.b.aW.map Ai) x.c.step x.c.aS x.c.bF x.c.bG x.c.low x.c.aY x.c.bB x.c.aV x.c.aO (x.c.aW.map Ai) w.x w.y w.z d.x d.y d.z;unfold Oc;refine co he ?_;unfold CG slk;simp only[go_sem,O0]
 (repeat' split)<;>first|rfl|(exfalso;omega)
theorem Ycv (n a b:Pt) {mv:Int} (D:mv=1\/mv= -1):O9 [I n.x,I n.y,I n.z,I a.x,I a.y,I a.z,I b.x,I b.y,I b.z,I mv]=some (ptR (D9 n a b mv)):=by
 unfold O9;rw[Zjy];have e:V (0-mv)= -mv:=by rw[Ae];omega
 unfold D9 RF;simp only[go_sem,e]
 (repeat' split)<;>first|rfl|(exfalso;omega)
theorem SK {n D:Int}:F9 [I n,I D]=some [I (A6 n D)]:=by
 unfold F9;rw[Zt0];simp only[KS,O0];rfl
theorem Zgo {MU J L:Fn} {x:Ax3} {a b:Pt} {s aR:Int} {now:Pt} {n m k:Int} (S:Ax3OK x) (h:TB t n m) (V:n<=9000000) (X:m<=900000000000000000) (Y:k<=900000000000000000) (N:0<=aR/\aR<=k)
  (T:J [I now.x,I now.y,I now.z,I a.x,I a.y,I a.z,I b.x,I b.y,I b.z,I u]=some (ptR (D9 now a b u))) (U:∀w d:Pt,MU (AL x++[I w.x,I w.y,I w.z,I d.x,I d.y,I d.z])=some [I (CG x w d)])
  (M : ∀ {t : Trk} {c : Pce} {n m k : Int}, TB t n m -> n <= 10000000 -> m <= 1000000000000000000 -> k <= 1000000000000000000 -> (0 <= c.aR /\ c.aR <= k) ->
   L [.vC At (t.aE.map AM),I c.at_,I c.aR,I c.s,I c.bD,I c.was.x,I c.was.y,I c.was.z,I c.aT.x,I c.aT.y,I c.aT.z,I t.length,I t.aQ,I t.aT.x,I t.aT.y,I t.aT.z]=some (A4 (FN t c))):
  Qr3 MU J L (.vC At (t.aE.map AM)::I a.x::I a.y::I a.z::I b.x::I b.y::I b.z::I s::I aR::I now.x::I now.y::I now.z::I u::(AL x++[I t.length,I t.aQ,I t.aT.x,I t.aT.y,I t.aT.z]))=
   some (.vC At ((CW x u a b s aR (t, now)).1.aE.map AM) :: I (CW x u a b s aR (t, now)).2.x :: I (CW x u a b s aR (t, now)).2.y :: I (CW x u a b s aR (t, now)).2.z :: I u :: (AL x ++
    [I (CW x u a b s aR (t,now)).1.length,I (CW x u a b s aR (t,now)).1.aQ,I (CW x u a b s aR (t,now)).1.aT.x,I (CW x u a b s aR (t,now)).1.aT.y,I (CW x u a b s aR (t,now)).1.aT.z])):=by
 have he:=Z32 MU J L (t.aE.map AM) a.x a.y a.z b.x b.y b.z s aR now.x now.y now.z u x.a.step x.a.aS x.a.bF x.a.bG x.a.low x.a.aY x.a.bB x.a.aV x.a.aO (x.a.aW.map Ai) x.b.step x.b.aS x.b.bF x.b.bG x.b.low x.b.aY x.b.bB x.b.aV x.b.aO (x.b.aW.map Ai) x.c.step x.c.aS x.c.bF x.c.bG x.c.low x.c.aY x.c.bB x.c.aV x.c.aO (x.c.aW.map Ai) t.length t.aQ t.aT.x t.aT.y t.aT.z;refine co he ?_;have hs:=Uf S now (D9 now a b u);have E:=U now (D9 now a b u);simp only[AL,ay,az]at E⊢;unfold CW;simp only;generalize D9 now a b u=D at*;simp only[T,go_sem,E];by_cases c:CG x now D>0
 ·have O:=M (c:=⟨0,CG x now D,s,0,now,D⟩) h (by omega) (by omega) (k:=1000) (by omega) (by simp only;omega);have hb:=Qti (k:=1000) h (c:=⟨0,CG x now D,s,0,now,D⟩) (by simp only;omega);have G:=M (c:=⟨0,aR,s,u,D,D⟩) hb (by omega) (by omega) (k:=k) (by omega) N;simp only at O G;rw[aa c,aa c];simp only[O,A4,go_sem,G]
 ·have G:=M (c:=⟨0,aR,s,u,D,D⟩) h (by omega) (by omega) (k:=k) (by omega) N;simp only at G;rw[ab c,ab c];simp only[G,A4,go_sem]
theorem Zye {x:Ax3} {a b:Pt} {s aR:Int} {now:Pt} {n m k:Int} (D:u=1\/u= -1) (E:Ax3OK x) (h:TB t n m) (G:n<=9000000) (J:m<=900000000000000000) (L:k<=900000000000000000) (M:0<=aR/\aR<=k):
  Gu (.vC At (t.aE.map AM)::I a.x::I a.y::I a.z::I b.x::I b.y::I b.z::I s::I aR::I now.x::I now.y::I now.z::I u::(AL x++[I t.length,I t.aQ,I t.aT.x,I t.aT.y,I t.aT.z]))=
   some (.vC At ((CW x u a b s aR (t, now)).1.aE.map AM) :: I (CW x u a b s aR (t, now)).2.x :: I (CW x u a b s aR (t, now)).2.y :: I (CW x u a b s aR (t, now)).2.z :: I u :: (AL x ++
    [I (CW x u a b s aR (t,now)).1.length,I (CW x u a b s aR (t,now)).1.aQ,I (CW x u a b s aR (t,now)).1.aT.x,I (CW x u a b s aR (t,now)).1.aT.y,I (CW x u a b s aR (t,now)).1.aT.z])):=
 Zgo E h G J L M (Ycv now a b D) (Zmt x) λN O S T U=>Z0l N O S T U
def F7 (l:List Sgm) (j:Nat):Rw:=(List.range j).map λi=>[I (AI l i)]
theorem TN (l:List Sgm) (j:Nat):(F7 l j).length=j:=by simp[F7]
theorem Zoz (l:List Sgm) (j:Nat):F7 l (j+1)=F7 l j++[[I (AI l j)]]:=by unfold F7;rw[List.range_succ,bn];rfl
theorem Z8v {l:List Sgm} {n i:Nat} (h:i<n):nth [] (F7 l n) i=[I (AI l i)]:=by
 have D:i<(F7 l n).length:=by rw[TN];exact h
 rw[HH [] _ i D];simp[F7]
abbrev RQ (p:Pth) (x:Ax3) (D E mv:Int) (t:Trk) (now:Pt) (at_:Int) (G:Rw) (j:Nat):List AC:=
 [.vC Aa G, .vC At (t.aE.map AM),I D,I E,I mv,I at_, .vC Ag (p.aF.map Ax),I p.aF.length,I j,I p.aQ.x,I p.aQ.y,I p.aQ.z, .vC Ag (p.aF.map Ax), .vC AN (p.aD.map Aw),I now.x,I now.y,I now.z,I mv,I x.a.step,I x.a.aS,I x.a.bF,I x.a.bG,I x.a.low,I x.a.aY,I x.a.bB,I x.a.aV,I x.a.aO, .vC Aa (x.a.aW.map Ai),I x.b.step,I x.b.aS,I x.b.bF,I x.b.bG,I x.b.low,I x.b.aY,I x.b.bB,I x.b.aV,I x.b.aO, .vC Aa (x.b.aW.map Ai),I x.c.step,I x.c.aS,I x.c.bF,I x.c.bG,I x.c.low,I x.c.aY,I x.c.bB,I x.c.aV,I x.c.aO, .vC Aa (x.c.aW.map Ai),I t.length,I t.aQ,I t.aT.x,I t.aT.y,I t.aT.z]
theorem Q58 {M:Fn} {p:Pth} {x:Ax3} {lo hi mv:Int} {t:Trk} {now:Pt} (h:SegOK p.aF):∀(k j:Nat),j+k=p.aF.length->
  Am (Vn M) (RQ p x lo hi mv t now (AI p.aF j) (F7 p.aF j) j)=some (1,[.vC Aa (F7 p.aF p.aF.length), .vC At (t.aE.map AM),I lo,I hi,I mv,I p.aQ.x,I p.aQ.y,I p.aQ.z, .vC Ag (p.aF.map Ax), .vC AN (p.aD.map Aw),I now.x,I now.y,I now.z,I mv,I x.a.step,I x.a.aS,I x.a.bF,I x.a.bG,I x.a.low,I x.a.aY,I x.a.bB,I x.a.aV,I x.a.aO, .vC Aa (x.a.aW.map Ai),I x.b.step,I x.b.aS,I x.b.bF,I x.b.bG,I x.b.low,I x.b.aY,I x.b.bB,I x.b.aV,I x.b.aO, .vC Aa (x.b.aW.map Ai),I x.c.step,I x.c.aS,I x.c.bF,I x.c.bG,I x.c.low,I x.c.aY,I x.c.bB,I x.c.aV,I x.c.aO, .vC Aa (x.c.aW.map Ai),I t.length,I t.aQ,I t.aT.x,I t.aT.y,I t.aT.z])
 |0,j,N=>by
  have E:j=p.aF.length:=by omega
  refine Bg (o:=(1,_)) ?_ (by simp);rw[Q2g,Bi (by omega),E]
 |k+1,j,N=>by
  have D:j<p.aF.length:=by omega
  have J:=h.count;have L:=Qmw h j (by omega);have O:=h.seg _ (IG D);have G:Vn M (RQ p x lo hi mv t now (AI p.aF j) (F7 p.aF j) j)=some (0,RQ p x lo hi mv t now (AI p.aF (j+1)) (F7 p.aF (j+1)) (j+1)):=by
   have hle:(F7 p.aF j++[[I (AI p.aF j)]]).length*8<=140737488355328:=by rw[an,TN];simp only[bh,da];omega
   have e1:V ((j:Int)+1)=((j+1:Nat):Int):=by rw[Ae];omega
   rw[Q2g];simp only[go_sem,ac,aj,LM D,aa hle,e1,Zoz];rw[aa,aa,Ae (x:=AI p.aF j+(sgA p.aF j).len),Q6 D]
  rw[BE G];exact Q58 h k (j+1) (by omega)
abbrev Qn (p:Pth) (x:Ax3) (D E mv:Int) (t:Trk) (now:Pt) (j:Nat):List AC:=
 [.vC Aa (F7 p.aF p.aF.length), .vC At (t.aE.map AM),I D,I E,I mv,I p.aF.length,I j,I p.aQ.x,I p.aQ.y,I p.aQ.z, .vC Ag (p.aF.map Ax), .vC AN (p.aD.map Aw),I now.x,I now.y,I now.z,I mv,I x.a.step,I x.a.aS,I x.a.bF,I x.a.bG,I x.a.low,I x.a.aY,I x.a.bB,I x.a.aV,I x.a.aO, .vC Aa (x.a.aW.map Ai),I x.b.step,I x.b.aS,I x.b.bF,I x.b.bG,I x.b.low,I x.b.aY,I x.b.bB,I x.b.aV,I x.b.aO, .vC Aa (x.b.aW.map Ai),I x.c.step,I x.c.aS,I x.c.bF,I x.c.bG,I x.c.low,I x.c.aY,I x.c.bB,I x.c.aV,I x.c.aO, .vC Aa (x.c.aW.map Ai),I t.length,I t.aQ,I t.aT.x,I t.aT.y,I t.aT.z]
abbrev Gz (x:Ax3) (mv:Int) (t:Trk) (now:Pt):List AC:=[.vC At (t.aE.map AM),I now.x,I now.y,I now.z,I mv,I x.a.step,I x.a.aS,I x.a.bF,I x.a.bG,I x.a.low,I x.a.aY,I x.a.bB,I x.a.aV,I x.a.aO, .vC Aa (x.a.aW.map Ai),I x.b.step,I x.b.aS,I x.b.bF,I x.b.bG,I x.b.low,I x.b.aY,I x.b.bB,I x.b.aV,I x.b.aO, .vC Aa (x.b.aW.map Ai),I x.c.step,I x.c.aS,I x.c.bF,I x.c.bG,I x.c.low,I x.c.aY,I x.c.bB,I x.c.aV,I x.c.aO, .vC Aa (x.c.aW.map Ai),I t.length,I t.aQ,I t.aT.x,I t.aT.y,I t.aT.z]
theorem Z1x {MV:Fn} {x:Ax3} {lo hi mv:Int} {now:Pt} {n m:Int} {j:Nat} (hv:mv=1\/mv= -1) (hp:GoodPath p) (hx:Ax3OK x) (h:TB t n m) (hn:n<=9000000) (hm:m<=900000000000000000)
  (hj:j<p.aF.length)
  (Y:∀{a b:Pt} {s aR:Int},(0<=aR/\aR<=268435456)->MV [.vC At (t.aE.map AM),I a.x,I a.y,I a.z,I b.x,I b.y,I b.z,I s,I aR,I now.x,I now.y,I now.z,I mv,I x.a.step,I x.a.aS,I x.a.bF,I x.a.bG,I x.a.low,I x.a.aY,I x.a.bB,I x.a.aV,I x.a.aO, .vC Aa (x.a.aW.map Ai),I x.b.step,I x.b.aS,I x.b.bF,I x.b.bG,I x.b.low,I x.b.aY,I x.b.bB,I x.b.aV,I x.b.aO, .vC Aa (x.b.aW.map Ai),I x.c.step,I x.c.aS,I x.c.bF,I x.c.bG,I x.c.low,I x.c.aY,I x.c.bB,I x.c.aV,I x.c.aO, .vC Aa (x.c.aW.map Ai),I t.length,I t.aQ,I t.aT.x,I t.aT.y,I t.aT.z]=some (Gz x mv (CW x mv a b s aR (t,now)).1 (CW x mv a b s aR (t,now)).2)):
  VJ MV N (Qn p x lo hi mv t now j)=some (0,Qn p x lo hi mv (II p x mv lo hi (ED p.aF.length mv j) (t,now)).1 (II p x mv lo hi (ED p.aF.length mv j) (t,now)).2 (j+1)):=by
 have M:=hp.ok;have a1:=M.count;have J:=Yq mv hj;have E:(mv=1/\ED p.aF.length mv j=j)\/(mv= -1/\ED p.aF.length mv j=p.aF.length-1-j):=by
  unfold ED;rcases hv with rfl|rfl
  ·exact .inl ⟨rfl,ab⟩
  ·exact .inr ⟨rfl,aa⟩
 obtain⟨i,a0⟩:∃i,ED p.aF.length mv j=i:=⟨_,rfl⟩;rw[a0]at J E⊢;have G:i<p.aF.length:=J;have hg:=M.seg _ (IG G);have hr:=LM G;have hb:=Z8v (l:=p.aF) G;have a2:=Qmw M i (by omega);have O:=Q6 G;have S:(0:Int)<=(i:Nat)/\(i:Int)<(p.aF.length:Int):=by omega
 have L:(j:Int)<(p.aF.length:Int):=by omega
 have e1:V ((j:Int)+1)=((j+1:Nat):Int):=by rw[Ae];omega
 have hI:V (V ((p.aF.length:Int)-1)-(j:Int))=((p.aF.length-1-j:Nat):Int):=by rw[Ae (x:=(p.aF.length:Int)-1),Ae];omega
 have hw:V (AI p.aF i+(sgA p.aF i).len)=AI p.aF (i+1):=by rw[O,Ae]
 have T:max (AI p.aF i) lo<min (AI p.aF (i+1)) hi->V (min (AI p.aF (i+1)) hi-max (AI p.aF i) lo)=min (AI p.aF (i+1)) hi-max (AI p.aF i) lo:=λ_=>Ae;have hd:max (AI p.aF i) lo<min (AI p.aF (i+1)) hi->0<=min (AI p.aF (i+1)) hi-max (AI p.aF i) lo/\min (AI p.aF (i+1)) hi-max (AI p.aF i) lo<=268435456:=λ_=>by omega
 have U:i≠0->V ((i:Int)-1)=((i-1:Nat):Int)/\((0:Int)<=((i-1:Nat):Int)/\((i-1:Nat):Int)<(p.aF.length:Int))/\nth [] (p.aF.map Ax) (i-1)=Ax (sgA p.aF (i-1))/\Fz p.aQ p.aF i=(sgA p.aF (i-1)).to:=by
  intro h0;refine⟨by rw[Ae];omega,by omega,LM (by omega),?_⟩;obtain⟨q,rfl⟩:∃q,i=q+1:=⟨i-1,by omega⟩;exact UW (by omega)
 unfold II;rw[Zbn];rcases E with⟨rfl,rfl⟩|⟨rfl,ei⟩
 ·simp only[go_sem,ac,TN,aj,hr,hb,aa S,aa L,O0,KS,hw,e1];rw[ab];by_cases c:max (AI p.aF i) lo<min (AI p.aF (i+1)) hi
  ·rw[ab,aa c,T c];by_cases X:i=0
   ·rw[ab];have D:=Y (a:=p.aQ) (b:=(sgA p.aF i).to) (s:=max (AI p.aF i) lo) (hd c);subst X;rw[Lg];rw[ab,D];simp only[Gz,go_sem];rfl
   ·obtain⟨k1,k2,k3,k4⟩:=U X;rw[aa,k1];have D:=Y (a:=(sgA p.aF (i-1)).to) (b:=(sgA p.aF i).to) (s:=max (AI p.aF i) lo) (hd c);rw[k4];simp only[aj,k3,go_sem,aa k2];rw[ab,D];simp only[Gz,go_sem];rfl
  ·rw[aa,ab c]
 ·rw[<-ei]at hI;simp only[go_sem,ac,TN,hI,aj,hr,hb,aa S,aa L,O0,KS,hw,e1];rw[aa];by_cases c:max (AI p.aF i) lo<min (AI p.aF (i+1)) hi
  ·rw[ab,aa c,T c];by_cases X:i=0
   ·rw[ab];have D:=Y (a:=p.aQ) (b:=(sgA p.aF i).to) (s:=min (AI p.aF (i+1)) hi) (hd c);subst X;rw[Lg];rw[aa,D];simp only[Gz,go_sem];rfl
   ·obtain⟨k1,k2,k3,k4⟩:=U X;rw[aa,k1];have D:=Y (a:=(sgA p.aF (i-1)).to) (b:=(sgA p.aF i).to) (s:=min (AI p.aF (i+1)) hi) (hd c);rw[k4];simp only[aj,k3,go_sem,aa k2];rw[aa,D];simp only[Gz,go_sem];rfl
  ·rw[aa,ab c]
def pcA (l:List Pce) (i:Nat):Pce:=l.getD i pc0
def eI (l:List Pce) (i:Nat):Int:=(pcA l i).at_+(pcA l i).aR
def fI:List Pce->Int->Nat
 |[],_=>0
 |c::l,u=>if u<=c.at_+c.aR then 0 else fI l u+1
theorem FV (c:Pce) (l:List Pce) (i:Nat):pcA (c::l) (i+1)=pcA l i:=by unfold pcA;simp
theorem IP (c:Pce) (l:List Pce):pcA (c::l) 0=c:=by unfold pcA;simp
theorem O5 {l:List Pce} (h:i<l.length):nth [] (l.map AM) i=AM (pcA l i):=by
 have e:pcA l i=l[i]:=by unfold pcA;simp[h]
 rw[e];exact GK _ _ _ _ h
theorem Vi:∀{l:List Pce} {u:Int} {j:Nat},j<l.length->u<=eI l j->fI l u<=j
 |c::l,u,0,_,h=>by
  unfold eI at h;rw[IP]at h;unfold fI;rw[aa h];exact cx _
 |c::l,u,j+1,E,h=>by
  unfold fI;by_cases D:u<=c.at_+c.aR
  ·rw[aa D];omega
  ·rw[ab D];have:fI l u<=j:=Vi (by simpa using E) (by unfold eI at h⊢;rw[FV]at h;exact h);omega
theorem Q66:∀{l:List Pce} {u:Int},fI l u<l.length->u<=eI l (fI l u)
 |[],_,h=>by simp at h
 |c::l,u,h=>by
  unfold fI at h⊢;by_cases D:u<=c.at_+c.aR
  ·rw[aa D];unfold eI;rw[IP];exact D
  ·rw[ab D]at h⊢;have:=Q66 (l:=l) (u:=u) (by simpa using h);unfold eI at this⊢;rw[FV];exact this
structure TQ (t : Trk) : Prop where
 count:t.aE.length<=10000000
 len:0<=t.length/\t.length<=900000000000000
 pos:∀i,i<t.aE.length->0<=(pcA t.aE i).at_/\1<=(pcA t.aE i).aR/\eI t.aE i<=t.length
 mono:∀i j,i<=j->j<t.aE.length->eI t.aE i<=eI t.aE j
 last:t.aE≠[]->eI t.aE (t.aE.length-1)=t.length
 aQ:0<=t.aQ/\t.aQ<=263886834032640
 s:∀i,i<t.aE.length-> -900000000000000<=(pcA t.aE i).s/\(pcA t.aE i).s<=2000000000000000
 bD:∀i,i<t.aE.length->(pcA t.aE i).bD=0\/(pcA t.aE i).bD=1\/(pcA t.aE i).bD= -1
def clT (t:Trk) (u:Int):Int:=A6 u t.length
theorem JR (h:TQ t) (u:Int):0<=clT t u/\clT t u<=t.length:=by have:=h.len;unfold clT A6;omega
def iT (t:Trk) (u:Int):Nat:=fI t.aE (clT t u)
theorem J4 (h:TQ t) (u:Int) (D:t.aE≠[]):iT t u<t.aE.length:=by
 have G:0<t.aE.length:=by
  cases E:t.aE with
  |nil=>exact absurd E D
  |cons _ _=>simp
 have:=Vi (l:=t.aE) (u:=clT t u) (j:=t.aE.length-1) (by omega) (by rw[h.last D];exact(JR h u).2);unfold iT;omega
def AA (t:Trk) (u:Int):Int:=if t.aE=[]then t.aQ else(pcA t.aE (iT t u)).s+(pcA t.aE (iT t u)).bD*(clT t u-(pcA t.aE (iT t u)).at_)
def HZ (t:Trk) (u:Int):Prop:=t.aE≠[]/\(pcA t.aE (iT t u)).bD=0/\(pcA t.aE (iT t u)).at_<clT t u/\clT t u<eI t.aE (iT t u)
theorem Qbw {t:Trk} (h:TQ t) {u:Int} (D:fI t.aE u<t.aE.length):∀(k E D:Nat),D-E<=k->E<=fI t.aE u->fI t.aE u<=D->D<t.aE.length->
  Am TI [I u,I E,I D, .vC At (t.aE.map AM),I t.length,I t.aQ,I t.aT.x,I t.aT.y,I t.aT.z]=some (1,[I (fI t.aE u)])
 |k,E,D,hk,S,T,U=>by
  have O:=h.count;have hl:=h.len;by_cases c:E<D
  ·have em:V ((V ((E:Int)+D)).tdiv 2)=(((E+D)/2:Nat):Int):=by
    rw[Ae (x:=(E:Int)+D),ap (by omega),Ae];omega
   have X:E<=(E+D)/2/\(E+D)/2<D:=by omega
   generalize(E+D)/2=m at*;have G:m<t.aE.length:=by omega
   have L:=h.pos m G;have N:(0:Int)<=(m:Int)/\(m:Int)<(t.aE.length:Int):=by omega
   have Y:V ((pcA t.aE m).at_+(pcA t.aE m).aR)=eI t.aE m:=by unfold eI at L⊢;exact Ae
   have J:TI [I u,I E,I D, .vC At (t.aE.map AM),I t.length,I t.aQ,I t.aT.x,I t.aT.y,I t.aT.z]=if u<=eI t.aE m then some (0,[I u,I E,I m, .vC At (t.aE.map AM),I t.length,I t.aQ,I t.aT.x,I t.aT.y,I t.aT.z])else some (0,[I u,I (m+1:Nat),I D, .vC At (t.aE.map AM),I t.length,I t.aQ,I t.aT.x,I t.aT.y,I t.aT.z]):=by
    rw[Qfz,em];simp only[go_sem,ac,aj,O5 G,aa N,Y,Ae (x:=(m:Int)+1)];rw[aa];rfl
   by_cases M:u<=eI t.aE m
   ·rw[aa M]at J;rw[BE J];cases k with
    |zero=>omega
    |succ k=>exact Qbw h (by omega) k E m (by omega) S (Vi G M) G
   ·rw[ab M]at J;rw[BE J];have a0:m<fI t.aE u:=by
     by_cases c3:fI t.aE u<=m
     ·exact absurd (Int.le_trans (Q66 (by omega)) (h.mono _ _ c3 G)) M
     ·omega
    cases k with
    |zero=>omega
    |succ k=>exact Qbw h (by omega) k (m+1) D (by omega) (by omega) T U
  ·refine Bg (o:=(1,_)) ?_ (by simp);rw[Qfz,Bi (by omega),show fI t.aE u=D by omega]
theorem Qch (h:TQ t) (u:Int):Hr (A4 t++[I (clT t u)])=some [I (if t.aE=[]then-1 else(iT t u:Int))]:=by
 have he:=Ya0 NC (t.aE.map AM) t.length t.aQ t.aT.x t.aT.y t.aT.z (clT t u);unfold Hr;refine co he ?_;rw[ac];have G:=h.count;by_cases c:t.aE=[]
 ·have D:NC [I (clT t u),I 0,I (-1), .vC At (t.aE.map AM),I t.length,I t.aQ,I t.aT.x,I t.aT.y,I t.aT.z]=some (1,[I (-1)]):=by
   refine Bg (o:=(1,_)) ?_ (by simp);rw[Qfz,Bi (by omega)]
  have e1:V ((t.aE.length:Int)-1)= -1:=by rw[c];rfl
  rw[aa c,e1];generalize NC=N at*;simp only[D,go_sem]
 ·have M:0<t.aE.length:=by
   cases L:t.aE with
   |nil=>exact absurd L c
   |cons _ _=>simp
  have J:=J4 h u c;have D:=Qbw h (u:=clT t u) J t.aE.length 0 (t.aE.length-1) (by omega) (by omega) (by unfold iT at J;omega) (by omega);have E:NC [I (clT t u),I 0,I (t.aE.length-1:Nat), .vC At (t.aE.map AM),I t.length,I t.aQ,I t.aT.x,I t.aT.y,I t.aT.z]=some (1,[I (iT t u:Int)]):=D;have e1:V ((t.aE.length:Int)-1)=((t.aE.length-1:Nat):Int):=by rw[Ae];omega
  rw[ab c,e1];generalize NC=N at*;simp only[E,go_sem]
theorem Zxb (h:TQ t) (u:Int) (D:t.aE≠[]):
  V ((pcA t.aE (iT t u)).s+V ((pcA t.aE (iT t u)).bD*V (clT t u-(pcA t.aE (iT t u)).at_)))=AA t u:=by
 have G:=J4 h u D;have I:=h.pos _ G;have J:=h.s _ G;have E:=h.bD _ G;have L:=JR h u;have M:=h.len;unfold AA eI at*;rw[ab D,Ae (x:=clT t u-_)];generalize pcA t.aE (iT t u)=c at*;have hb:(-900000000000000<=c.bD*(clT t u-c.at_)/\c.bD*(clT t u-c.at_)<=900000000000000):=by
  rcases E with E|E|E<;>rw[E]<;>omega
 rw[Ae (x:=c.bD*_),Ae]
theorem Zii (h:TQ t) {u:Int} (G:Z [I u,I t.length]=some [I (clT t u)]) (D:M (A4 t++[I (clT t u)])=some [I (if t.aE=[]then-1 else(iT t u:Int))]):Qog M Z (A4 t++[I u])=some [I (AA t u)]:=by
 have he:=Zvj M Z (t.aE.map AM) t.length t.aQ t.aT.x t.aT.y t.aT.z u;refine co he ?_;simp only[A4,ay,az]at D;by_cases c:t.aE=[]
 ·rw[aa c]at D;simp only[G,D,go_sem];rw[aa];unfold AA;rw[aa c]
 ·have L:=J4 h u c;have J:=h.count;have E:(0:Int)<=(iT t u:Int)/\(iT t u:Int)<(t.aE.length:Int):=by omega
  rw[ab c]at D;simp only[G,D,go_sem,ac,aa E,aj,O5 L,Zxb h u c];rw[ab]
theorem P8 (h:TQ t) (u:Int):Ez (A4 t++[I u])=some [I (AA t u)]:=Zii h SK (Qch h u)
theorem Z4q (h:TQ t) {u:Int} (O:Z [I u,I t.length]=some [I (clT t u)]) (D:M (A4 t++[I (clT t u)])=some [I (if t.aE=[]then-1 else(iT t u:Int))]):Qgi M Z (A4 t++[I u])=some [B (decide (HZ t u))]:=by
 have he:=Zsc M Z (t.aE.map AM) t.length t.aQ t.aT.x t.aT.y t.aT.z u;refine co he ?_;simp only[A4,ay,az]at D;by_cases c:t.aE=[]
 ·rw[aa c]at D;simp only[O,D,go_sem];rw[aa,am λg=>g.1 c]
 ·have S:=J4 h u c;have T:=h.count;have E:=h.pos _ S;have X:=h.len;have N:(0:Int)<=(iT t u:Int)/\(iT t u:Int)<(t.aE.length:Int):=by omega
  have U:V ((pcA t.aE (iT t u)).at_+(pcA t.aE (iT t u)).aR)=eI t.aE (iT t u):=by unfold eI at E⊢;exact Ae
  rw[ab c]at D;simp only[O,D,go_sem,ac,aa N,aj,O5 S,U];rw[ab];by_cases G:(pcA t.aE (iT t u)).bD=0
  ·by_cases J:(pcA t.aE (iT t u)).at_<clT t u
   ·rw[aa G,aa J];by_cases L:clT t u<eI t.aE (iT t u)
    ·rw[al L,al (show HZ t u from⟨c,G,J,L⟩)]
    ·rw[am L,am (show¬HZ t u from λg=>L g.2.2.2)]
   ·rw[aa G,ab J,am (show¬HZ t u from λg=>J g.2.2.1)]
  ·rw[ab G,am (show¬HZ t u from λg=>G g.2.1)]
theorem Zxi (h:TQ t) (u:Int):Q2 (A4 t++[I u])=some [B (decide (HZ t u))]:=Z4q h SK (Qch h u)
def IJ (sp:Int) (l:List Int):Prop:=(∀v∈l,-4096<=v/\v<=4096)/\∀i,i+1<l.length-> -sp<=4*(l.getD (i+1) 0-l.getD i 0)/\4*(l.getD (i+1) 0-l.getD i 0)<=sp
structure AxOK (a : Axs) : Prop where
 step:4<=a.step/\a.step<=64
 bB:0<=a.bB/\a.bB<=6
 aV: -200<=a.aV/\a.aV<=200
 aO:a.aW≠[]->4<=a.aO/\a.aO<=123
 aW:IJ a.aO a.aW
 count:a.aW.length<=4
 lim:1<=a.aS/\a.aS<=1000/\2<=a.bF/\a.bF<=1000/\4<=a.bG/\a.bG<=1000/\a.low= -16777216/\a.aY=16777216
theorem Tj {l m:List Int} (h:i<l.length):(l++m).getD i 0=l.getD i 0:=by simp[dq,iz h]
theorem Zqy (l m:List Int) (v:Int):(l++v::m).getD l.length 0=v:=by simp[dq]
theorem Z0x {sp v w:Int} (h:IJ sp (L++[v])) (E: -4096<=w/\w<=4096) (G: -sp<=4*(w-v)/\4*(w-v)<=sp):IJ sp (L++[v]++[w]):=by
 refine⟨?_,?_⟩
 ·intro x D;rcases ba.1 D with D|D
  ·exact h.1 x D
  ·rw[fa]at D;subst D;exact E
 ·intro i I;simp only[an,bh,da]at I;by_cases c:i+1<(L++[v]).length
  ·have:=h.2 i c;have c':i<(L++[v]).length:=by omega
   rw[Tj c,Tj c'];exact this
  ·simp only[an,bh,da]at c;have e:i=L.length:=by omega
   subst e;have g1:(L++[v]++[w]).getD (L.length+1) 0=w:=by
    simp
   have g2:(L++[v]++[w]).getD L.length 0=v:=by
    rw[dk];exact Zqy L ([]++[w]) v
   rw[g1,g2];exact G
theorem Z2c (h:IJ a (L++[v])):IJ a L:=by
 refine⟨λx D=>h.1 x (by simp[D]),λi E=> ?_⟩;have:=h.2 i (by simp;omega);rw[Tj E,Tj (by omega)]at this;exact this
theorem Zs5 (E: -4096<=v/\v<=4096):IJ a ([]++[v]):=⟨λx D=>by simp at D;subst D;exact E,λi G=>by simp at G⟩
theorem Z5k (h:0<=v/\v<6):∃x,Af (nth .vD (nth [] [[I 8],[I 4],[I 5],[I 16],[I 23],[I 64]] v.toNat) 0)=x/\4<=x/\x<=64:=by
 have D:v=0\/v=1\/v=2\/v=3\/v=4\/v=5:=by omega
 rcases D with rfl|rfl|rfl|rfl|rfl|rfl<;>exact⟨_,rfl,by decide⟩
theorem Qo1 (h:0<=v/\v<5):∃x y z,Af (nth .vD (nth [] [[I 40],[I 1],[I 3],[I 9],[I 1000]] v.toNat) 0)=x/\Af (nth .vD (nth [] [[I 20],[I 2],[I 3],[I 5],[I 1000]] v.toNat) 0)=y/\Af (nth .vD (nth [] [[I 30],[I 4],[I 5],[I 8],[I 1000]] v.toNat) 0)=z/\1<=x/\x<=1000/\2<=y/\y<=1000/\4<=z/\z<=1000:=by
 have D:v=0\/v=1\/v=2\/v=3\/v=4:=by omega
 rcases D with rfl|rfl|rfl|rfl|rfl<;>exact⟨_,_,_,rfl,rfl,rfl,by decide⟩
theorem Zx8 (h:0<=v/\v<4):∃x,Af (nth .vD (nth [] [[I 0],[I 1],[I 3],[I 6]] v.toNat) 0)=x/\0<=x/\x<=6:=by
 have D:v=0\/v=1\/v=2\/v=3:=by omega
 rcases D with rfl|rfl|rfl|rfl<;>exact⟨_,rfl,by decide⟩
abbrev axS (l:Rw) (D:List Int) (n v:Int) (j:Nat) (a:Axs) (k:Nat):List AC:=
 [.vC Aa [], .vC Aa (D.map Ai),I n,I v,I j,I 0,I 0,I 0,I 0,I 0,I 0,I 0,I 0,I 0,I a.step,I a.aS,I a.bF,I a.bG,I a.low,I a.aY,I a.bB,I a.aV,I a.aO, .vC Aa l,I k]
theorem Zfy {MN:Fn} {l:Rw} (L:Ht l MN) {a:Axs} (G:4<=a.aO/\a.aO<=123):∀(r j:Nat) (D:List Int) (v:Int) (k:Nat),j+r<=4->D.length=j->IJ a.aO (D++[v])->
  ∃(E:List Int) (k':Nat),Am (SZ MN) (axS l D (j+r:Nat) v j a k)=some (1,[.vC Aa [], .vC Aa (E.map Ai),I 0,I 0,I 0,I 0,I 0,I 0,I 0,I 0,I 0,I a.step,I a.aS,I a.bF,I a.bG,I a.low,I a.aY,I a.bB,I a.aV,I a.aO, .vC Aa l,I k'])/\E.length=j+r/\IJ a.aO E
 |0,j,D,v,k,_,M,h=>by
  refine⟨D,k,Bg (o:=(1,_)) ?_ (by simp),by omega,Z2c h⟩;rw[Zab,Bi (by omega)]
 |r+1,j,D,v,k,hj,M,h=>by
  have hv:=h.1 v (by simp);have O:V (a.aO.tdiv 4)=a.aO/4:=by rw[ap (by omega),Ae]
  have S:V (V (2*(a.aO/4))+1)=2*(a.aO/4)+1:=by rw[Ae (x:=2*(a.aO/4)),Ae]
  obtain⟨w,N,T,w0,w1,-⟩:=L k (n:=2*(a.aO/4)+1) (by omega);have U:V (V (v+w)-a.aO/4)=v+w-a.aO/4:=by rw[Ae (x:=v+w),Ae]
  have hle:(D.map Ai++[[I v]]).length*8<=140737488355328:=by rw[an,ac];simp only[bh,da];omega
  have J:SZ MN (axS l D (j+(r+1):Nat) v j a k)=some (0,axS l (D++[v]) (j+1+r:Nat) (min (max (v+w-a.aO/4) (-4096)) 4096) (j+1) a N):=by
   rw[Zab];simp only[go_sem,aa hle,O,S,T,U,KS,O0];rw[aa,Ae (x:=(j:Int)+1),show j+(r+1)=j+1+r by omega];simp only[axS,bn,bm,d8,Ai,ii,jc]
  rw[BE J];obtain⟨X,k',Y,h2,h3⟩:=Zfy L G r (j+1) (D++[v]) (min (max (v+w-a.aO/4) (-4096)) 4096) N (by omega) (by simp[M]) (Z0x h (by omega) (by omega));exact⟨X,k',Y,by omega,h3⟩
theorem Zog (E:Ht l M)
  (hL:∀{a:Axs} {n:Nat} {v:Int} {k:Nat},(4<=a.aO/\a.aO<=123)->n<=4->IJ a.aO ([]++[v])->∃(D:List Int) (k':Nat),N (axS l [] n v 0 a k)=some (1,[.vC Aa [], .vC Aa (D.map Ai),I 0,I 0,I 0,I 0,I 0,I 0,I 0,I 0,I 0,I a.step,I a.aS,I a.bF,I a.bG,I a.low,I a.aY,I a.bB,I a.aV,I a.aO, .vC Aa l,I k'])/\D.length=n/\IJ a.aO D) (k:Nat):
  ∃(a:Axs) (k':Nat),WF M N [.vC Aa l,I k]=some (BC a++[.vC Aa l,I k'])/\AxOK a:=by
 obtain⟨v1,k1,h1,a1,b1,-⟩:=E k (n:=6) (by omega);obtain⟨v2,k2,h2,a2,b2,-⟩:=E k1 (n:=4) (by omega);obtain⟨v3,k3,h3,a3,b3,-⟩:=E k2 (n:=5) (by omega);obtain⟨v4,k4,h4,a4,b4,-⟩:=E k3 (n:=5) (by omega);obtain⟨v5,k5,h5,a5,b5,-⟩:=E k4 (n:=5) (by omega);obtain⟨G,Y,h6,a6,b6,-⟩:=E k5 (n:=5) (by omega);obtain⟨V,k7,h7,a7,b7,-⟩:=E Y (n:=400) (by omega);obtain⟨X,k8,h8,a8,b8,-⟩:=E k7 (n:=120) (by omega);obtain⟨v9,k9,h9,a9,b9,-⟩:=E k8 (n:=9) (by omega);obtain⟨J,e1,s1⟩:=Z5k ⟨a1,b1⟩;obtain⟨L,e2,s2⟩:=Zx8 ⟨a2,b2⟩;have i1:(0:Int)<=v1/\v1<(([[I 8],[I 4],[I 5],[I 16],[I 23],[I 64]]:Rw).length:Int):=⟨a1,by simp;omega⟩;have i2:(0:Int)<=v2/\v2<(([[I 0],[I 1],[I 3],[I 6]]:Rw).length:Int):=⟨a2,by simp;omega⟩;have i3:(0:Int)<=v3/\v3<(([[I 40],[I 1],[I 3],[I 9],[I 1000]]:Rw).length:Int):=⟨a3,by simp;omega⟩;have i4:(0:Int)<=v4/\v4<(([[I 20],[I 2],[I 3],[I 5],[I 1000]]:Rw).length:Int):=⟨a4,by simp;omega⟩;have i5:(0:Int)<=v5/\v5<(([[I 30],[I 4],[I 5],[I 8],[I 1000]]:Rw).length:Int):=⟨a5,by simp;omega⟩;obtain⟨O,_,_,a0,-,-,s3,t3,-⟩:=Qo1 ⟨a3,b3⟩;obtain⟨_,S,_,-,b0,-,-,-,s4,t4,-⟩:=Qo1 ⟨a4,b4⟩;obtain⟨_,_,T,-,-,c0,-,-,-,-,s5,t5⟩:=Qo1 ⟨a5,b5⟩;have main : ∀ R, R = (if G = 0 then some [I J, I O, I S, I T, I (-16777216), I 16777216, I L, I 0, I 0, .vC Aa [], .vC Aa l, I Y] else
   (N (axS l [] G.toNat (v9-4) 0 ⟨J,O,S,T,-16777216,16777216,L,V-200,4+X,[]⟩ k9)).bind λo=>if o.1=1 then some [I (Af (nth .vD o.2 11)),I (Af (nth .vD o.2 12)),I (Af (nth .vD o.2 13)),I (Af (nth .vD o.2 14)),I (Af (nth .vD o.2 15)),I (Af (nth .vD o.2 16)),I (Af (nth .vD o.2 17)),I (Af (nth .vD o.2 18)),I (Af (nth .vD o.2 19)), .vC Aa (B_ (nth .vD o.2 1)), .vC Aa (B_ (nth .vD o.2 20)),I (Af (nth .vD o.2 21))]else none)->
   ∃(a:Axs) (k':Nat),R=some (BC a++[.vC Aa l,I k'])/\AxOK a:=by
  intro R U;by_cases c:G=0
  ·rw[aa c]at U;refine⟨⟨J,O,S,T,-16777216,16777216,L,0,0,[]⟩,Y,U,?_⟩;exact⟨s1,s2,by simp,λh=>absurd rfl h,⟨by simp,by simp⟩,by simp,⟨s3,t3,s4,t4,s5,t5,rfl,rfl⟩⟩
  ·rw[ab c]at U;obtain⟨c1,k',g1,g2,g3⟩:=hL (a:=⟨J,O,S,T,-16777216,16777216,L,V-200,4+X,[]⟩) (n:=G.toNat) (v:=v9-4) (k:=k9) (by simp only;omega) (by omega) (Zs5 (by omega));rw[g1]at U;refine⟨⟨J,O,S,T,-16777216,16777216,L,V-200,4+X,c1⟩,k',?_,?_⟩
   ·rw[U];simp only[go_sem];try rfl
   ·exact⟨s1,s2,by simp only;omega,λ_=>by simp only;omega,g3,by simp only;omega,⟨s3,t3,s4,t4,s5,t5,rfl,rfl⟩⟩
 refine main _ ?_;rw[Zjp];simp only[go_sem,h1,h2,h3,h4,h5,h6,aa i1,aa i2,aa i3,aa i4,aa i5,e1,e2,a0,b0,c0];by_cases c:G=0
 ·rw[aa c,aa c]
 ·rw[ab c,ab c];simp only[h7,h8,h9,go_sem,Ae (x:=v9-4),Ae (x:=V-200),Ae (x:=4+X)];have e:((G.toNat:Nat):Int)=G:=by omega
  simp only[axS,e,d8];rfl
theorem Qtw (D:Src l) (k:Nat):∃(a:Axs) (k':Nat),Oa [.vC Aa l,I k]=some (BC a++[.vC Aa l,I k'])/\AxOK a:=by
 refine Zog (N:=Qrx) (H0 D) (fun{a n v k} J O L=> ?_) k;obtain⟨p,k',E,G,M⟩:=Zfy (MN:=BY) (H0 D) J n 0 [] v k (by omega) rfl L;rw[fc]at E G;exact⟨p,k',E,G,M⟩
structure Ax3M (x : Ax3) : Prop where
 a:AxOK x.a
 b:AxOK x.b
 c:AxOK x.c
theorem Ax3M.ok {x:Ax3} (h:Ax3M x):Ax3OK x:=⟨by have:=h.a.bB;omega,by have:=h.b.bB;omega,by have:=h.c.bB;omega⟩
theorem Z1y (E:Src l):∃x:Ax3,Pe [.vC Aa l]=some (AL x)/\Ax3M x:=by
 obtain⟨a,G,M,g1⟩:=Qtw E 0;obtain⟨b,N,J,g2⟩:=Qtw E G;obtain⟨c,T,L,O⟩:=Qtw E N;refine⟨⟨a,b,c⟩,?_,g1,g2,O⟩;have hf:=Rh l;unfold Pe;generalize Oa=S at*;generalize C6=U at*;rw[Ya4];have D:S [.vC Aa l,I 0]=some (BC a++[.vC Aa l,I G]):=M;simp only[BC,ay,az]at D J L;simp only[go_sem,hf,D,J,L]
theorem Z29 {x:Ax3} {mv lo hi f:Int} {d:Pt} (j:Nat):(Cw p x mv lo hi (⟨[],0,f,d⟩,d) j).1.aQ=f/\(Cw p x mv lo hi (⟨[],0,f,d⟩,d) j).1.aT=d:=by
 induction j with
 |zero=>exact⟨rfl,rfl⟩
 |succ j D=>rw[Cw,(Zbx _).1,(Zbx _).2];exact D
theorem Zd4 {p:Pth} {x:Ax3} {D E mv f:Int} {d:Pt} (L:mv=1\/mv= -1) (G:GoodPath p) (I:Ax3OK x):∀(k j:Nat),j+k=p.aF.length->∀w,w=Cw p x mv D E (⟨[],0,f,d⟩,d) j->
  Am (VJ Gu Pp) (Qn p x D E mv w.1 w.2 j)=some (1,Gz x mv (Cw p x mv D E (⟨[],0,f,d⟩,d) p.aF.length).1 (Cw p x mv D E (⟨[],0,f,d⟩,d) p.aF.length).2)
 |0,j,T,w,J=>by
  have M:j=p.aF.length:=by omega
  refine Bg (o:=(1,_)) ?_ (by simp);rw[Zbn,Bi (by omega),J,M]
 |k+1,j,T,w,J=>by
  have S:=G.count;have hb:=ZG (mv:=mv) (lo:=D) (hi:=E) (f:=f) (d:=d) I G.ok j (by omega);rw[<-J]at hb;have O:=Z1x (MV:=Gu) (N:=Pp) (lo:=D) (hi:=E) (now:=w.2) (j:=j) L G I hb (by omega) (by omega) (by omega) (fun{a b s aR} U=>Zye L I hb (by omega) (by omega) (k:=268435456) (by omega) U);rw[BE O];exact Zd4 L G I k (j+1) (by omega) _ (by rw[Cw,<-J])
theorem Zhi {MV:Fn} {N4 N10:Lp} {x:Ax3} {D E mv f:Int}
  (J:N4 (RQ p x D E mv ⟨[],0,f,q⟩ q 0 [] 0)=some (1,[.vC Aa (F7 p.aF p.aF.length), .vC At [],I D,I E,I mv,I p.aQ.x,I p.aQ.y,I p.aQ.z, .vC Ag (p.aF.map Ax), .vC AN (p.aD.map Aw),I q.x,I q.y,I q.z,I mv,I x.a.step,I x.a.aS,I x.a.bF,I x.a.bG,I x.a.low,I x.a.aY,I x.a.bB,I x.a.aV,I x.a.aO, .vC Aa (x.a.aW.map Ai),I x.b.step,I x.b.aS,I x.b.bF,I x.b.bG,I x.b.low,I x.b.aY,I x.b.bB,I x.b.aV,I x.b.aO, .vC Aa (x.b.aW.map Ai),I x.c.step,I x.c.aS,I x.c.bF,I x.c.bG,I x.c.low,I x.c.aY,I x.c.bB,I x.c.aV,I x.c.aO, .vC Aa (x.c.aW.map Ai),I 0,I f,I q.x,I q.y,I q.z]))
  (G:N10 (Qn p x D E mv ⟨[],0,f,q⟩ q 0)=some (1,Gz x mv (Cw p x mv D E (⟨[],0,f,q⟩,q) p.aF.length).1 (Cw p x mv D E (⟨[],0,f,q⟩,q) p.aF.length).2)):
  Qfq MV N4 N10 [.vC At [],I p.aQ.x,I p.aQ.y,I p.aQ.z, .vC Ag (p.aF.map Ax), .vC AN (p.aD.map Aw),I D,I E,I mv,I q.x,I q.y,I q.z,I mv,I x.a.step,I x.a.aS,I x.a.bF,I x.a.bG,I x.a.low,I x.a.aY,I x.a.bB,I x.a.aV,I x.a.aO, .vC Aa (x.a.aW.map Ai),I x.b.step,I x.b.aS,I x.b.bF,I x.b.bG,I x.b.low,I x.b.aY,I x.b.bB,I x.b.aV,I x.b.aO, .vC Aa (x.b.aW.map Ai),I x.c.step,I x.c.aS,I x.c.bF,I x.c.bG,I x.c.low,I x.c.aY,I x.c.bB,I x.c.aV,I x.c.aO, .vC Aa (x.c.aW.map Ai),I 0,I f,I q.x,I q.y,I q.z]=some (Gz x mv (Cw p x mv D E (⟨[],0,f,q⟩,q) p.aF.length).1 (Cw p x mv D E (⟨[],0,f,q⟩,q) p.aF.length).2):=by
 rw[Ztt];simp only[RQ,d8,jc]at J;simp only[Qn,Gz,d8,jc]at G;simp only[go_sem,ac,J,G]
theorem Zih {x:Ax3} {D E mv f:Int} (J:mv=1\/mv= -1) (G:GoodPath p) (L:Ax3OK x):
  Qy [.vC At [],I p.aQ.x,I p.aQ.y,I p.aQ.z, .vC Ag (p.aF.map Ax), .vC AN (p.aD.map Aw),I D,I E,I mv,I q.x,I q.y,I q.z,I mv,I x.a.step,I x.a.aS,I x.a.bF,I x.a.bG,I x.a.low,I x.a.aY,I x.a.bB,I x.a.aV,I x.a.aO, .vC Aa (x.a.aW.map Ai),I x.b.step,I x.b.aS,I x.b.bF,I x.b.bG,I x.b.low,I x.b.aY,I x.b.bB,I x.b.aV,I x.b.aO, .vC Aa (x.b.aW.map Ai),I x.c.step,I x.c.aS,I x.c.bF,I x.c.bG,I x.c.low,I x.c.aY,I x.c.bB,I x.c.aV,I x.c.aO, .vC Aa (x.c.aW.map Ai),I 0,I f,I q.x,I q.y,I q.z]=some (Gz x mv (Cw p x mv D E (⟨[],0,f,q⟩,q) p.aF.length).1 (Cw p x mv D E (⟨[],0,f,q⟩,q) p.aF.length).2):=by
 refine Zhi (MV:=Gu) (N4:=Pp) (N10:=Qia) ?_ (Zd4 J G L p.aF.length 0 (by omega) _ rfl);have h:=Q58 (M:=Gu) (x:=x) (lo:=D) (hi:=E) (mv:=mv) (t:=⟨[],0,f,q⟩) (now:=q) G.ok p.aF.length 0 (by omega);rw[Us]at h;exact h
theorem Yaj {x:Ax3} (D:S (Bv p)=some [I (Av p.aF)]) (G:∀n h:Int,T [I n,I h]=some [I (A6 n h)])
  (E:∀{lo hi mv f:Int},(mv=1\/mv= -1)->M [.vC At [],I p.aQ.x,I p.aQ.y,I p.aQ.z, .vC Ag (p.aF.map Ax), .vC AN (p.aD.map Aw),I lo,I hi,I mv,I q.x,I q.y,I q.z,I mv,I x.a.step,I x.a.aS,I x.a.bF,I x.a.bG,I x.a.low,I x.a.aY,I x.a.bB,I x.a.aV,I x.a.aO, .vC Aa (x.a.aW.map Ai),I x.b.step,I x.b.aS,I x.b.bF,I x.b.bG,I x.b.low,I x.b.aY,I x.b.bB,I x.b.aV,I x.b.aO, .vC Aa (x.b.aW.map Ai),I x.c.step,I x.c.aS,I x.c.bF,I x.c.bG,I x.c.low,I x.c.aY,I x.c.bB,I x.c.aV,I x.c.aO, .vC Aa (x.c.aW.map Ai),I 0,I f,I q.x,I q.y,I q.z]=some (Gz x mv (Cw p x mv lo hi (⟨[],0,f,q⟩,q) p.aF.length).1 (Cw p x mv lo hi (⟨[],0,f,q⟩,q) p.aF.length).2)):
  Qio M Z W T S (Bv p++AL x++[I q.x,I q.y,I q.z,I a,I k])=some (A4 (AR p x q a k)):=by
 have he:=Zkz M Z W T S p.aQ.x p.aQ.y p.aQ.z (p.aF.map Ax) (p.aD.map Aw) x.a.step x.a.aS x.a.bF x.a.bG x.a.low x.a.aY x.a.bB x.a.aV x.a.aO (x.a.aW.map Ai) x.b.step x.b.aS x.b.bF x.b.bG x.b.low x.b.aY x.b.bB x.b.aV x.b.aO (x.b.aW.map Ai) x.c.step x.c.aS x.c.bF x.c.bG x.c.low x.c.aY x.c.bB x.c.aV x.c.aO (x.c.aW.map Ai) q.x q.y q.z a k;refine co he ?_;unfold AR;simp only[Bv]at D;simp only[D,G,go_sem,KS,O0];generalize A6 a (Av p.aF)=f at*;generalize A6 k (Av p.aF)=t at*;by_cases c:t<f
 ·have h:=E (lo:=min f t) (hi:=max f t) (mv:= -1) (f:=f) (.inr rfl);simp only[Gz]at h;simp only[h,go_sem,c,dv]
 ·have h:=E (lo:=min f t) (hi:=max f t) (mv:=1) (f:=f) (.inl rfl);simp only[Gz]at h;simp only[h,go_sem,c,iv]
theorem Zbk {x:Ax3} {d:Pt} {from_ to:Int} (D:GoodPath p) (E:Ax3OK x):Ko (Bv p++AL x++[I d.x,I d.y,I d.z,I from_,I to])=some (A4 (AR p x d from_ to)):=
 Yaj (Zay D.ok) (λ_ _=>SK) λG=>Zih G D E
def PC (t:Trk):Pt:=if t.aE=[]then t.aT else(Bp t.aE).aT
theorem Ycp {x:Ax3} (d:Pt) (a b:Int) (D:GoodPath p) (E:Ax3OK x):(AR p x d a b).aE.length<=10000000/\0<=(AR p x d a b).length/\(AR p x d a b).length<=900000000000000:=by
 have G:=D.count;have h:=ZG (mv:=if A6 a (Av p.aF)>A6 b (Av p.aF)then-1 else 1) (lo:=min (A6 a (Av p.aF)) (A6 b (Av p.aF))) (hi:=max (A6 a (Av p.aF)) (A6 b (Av p.aF))) (f:=A6 a (Av p.aF)) (d:=d) E D.ok p.aF.length (cx _);obtain⟨I,J,-⟩:=h;unfold AR;simp only;refine⟨by omega,by omega,by omega⟩
theorem SW {x:Ax3} {mv:Int} {Q:Int->Pt->Prop}:∀{a s:Int} {d:Pt} {l:List Pce},Dm x mv Q a s d l->a<=BD a l
 |a,_,_,[],_=>bz _
 |a,s,d,c::l,h=>by
  obtain⟨-,-,E,-,D⟩:=h;have:=SW D;unfold BD;omega
theorem Sl {x:Ax3} {mv:Int} {Q:Int->Pt->Prop} (G:mv=1\/mv= -1):∀{a s:Int} {d:Pt} {l:List Pce},Dm x mv Q a s d l->∀i,i<l.length->
  a<=(pcA l i).at_/\1<=(pcA l i).aR/\eI l i<=BD a l/\(s-((pcA l i).at_-a)<=(pcA l i).s/\(pcA l i).s<=s+((pcA l i).at_-a))/\((pcA l i).bD=0\/(pcA l i).bD=mv)
 |a,s,d,c::l,h,0,_=>by
  obtain⟨L,M,I,D,E⟩:=h;have:=SW E;unfold eI;rw[IP];refine⟨by omega,I,by unfold BD;omega,by omega,?_⟩;rcases D with D|D
  ·exact .inr D.1
  ·exact .inl D.1
 |a,s,d,c::l,h,i+1,N=>by
  obtain⟨L,M,I,D,E⟩:=h;have J:=Sl G E i (by simpa using N);unfold eI at J⊢;rw[FV];obtain⟨g1,g2,O,T,S⟩:=J;have U:c.bD*c.aR=0\/c.bD*c.aR=c.aR\/c.bD*c.aR= -c.aR:=by
   rcases D with D|D
   ·rw[D.1];rcases G with rfl|rfl<;>omega
   ·rw[D.1];omega
  refine⟨by omega,g2,by unfold BD;exact O,by omega,S⟩
theorem Q43 {x:Ax3} {mv:Int} {Q:Int->Pt->Prop} (I:mv=1\/mv= -1):∀{a s:Int} {d:Pt} {l:List Pce},Dm x mv Q a s d l->∀i j,i<=j->j<l.length->eI l i<=eI l j
 |a,s,d,c::l,h,0,0,_,_=>bz _
 |a,s,d,c::l,h,0,j+1,_,D=>by
  obtain⟨J,L,M,N,E⟩:=h;have:=Sl I E j (by simpa using D);unfold eI at*;rw[IP,FV];omega
 |a,s,d,c::l,h,i+1,0,G,_=>by omega
 |a,s,d,c::l,h,i+1,j+1,G,D=>by
  obtain⟨J,L,M,N,E⟩:=h;have:=Q43 I E i j (by omega) (by simpa using D);unfold eI at*;rw[FV,FV];exact this
theorem Qus {x:Ax3} {mv:Int} {Q:Int->Pt->Prop}:∀{a s:Int} {d:Pt} {l:List Pce},Dm x mv Q a s d l->l≠[]->eI l (l.length-1)=BD a l
 |a,s,d,[c],h,_=>by
  obtain⟨E,-⟩:=h;show eI [c] 0=BD a [c];unfold eI;rw[IP];simp only[BD];omega
 |a,s,d,c::e::l,h,_=>by
  obtain⟨-,-,-,-,D⟩:=h;have:=Qus D (by simp);have e1:(c::e::l).length-1=((e::l).length-1)+1:=by simp
  rw[e1];unfold eI at*;rw[FV,this];rfl
def mvP (p:Pth) (a b:Int):Int:=if A6 a (Av p.aF)>A6 b (Av p.aF)then-1 else 1
theorem VG (p:Pth) (a b:Int):mvP p a b=1\/mvP p a b= -1:=by unfold mvP;split<;>simp
theorem Lo {x:Ax3} {d:Pt} (G:Ax3OK x) (D:GoodPath p) (I:Qw9 p (mvP p a b) Q):
  ∃J,TC x (mvP p a b) Q (AR p x d a b) (A6 b (Av p.aF)) J/\(AR p x d a b).aQ=A6 a (Av p.aF)/\(AR p x d a b).aT=d:=by
 have O:=Nq D;have S:0<=A6 a (Av p.aF)/\A6 a (Av p.aF)<=Av p.aF:=by unfold A6;omega
 have hb:0<=A6 b (Av p.aF)/\A6 b (Av p.aF)<=Av p.aF:=by unfold A6;omega
 have E:=λmv L M f=>Z29 (p:=p) (x:=x) (mv:=mv) (lo:=L) (hi:=M) (f:=f) (d:=d) p.aF.length;unfold AR mvP at*;simp only;generalize A6 a (Av p.aF)=f at*;generalize A6 b (Av p.aF)=t at*;have h:=Zaz (p:=p) (x:=x) (mv:=if f>t then-1 else 1) (lo:=min f t) (hi:=max f t) (f:=f) (d:=d) (Q:=Q) (by split<;>simp) G D.ok (by omega) (by split<;>omega) I p.aF.length (cx _);have N:KP p.aF (if f>t then-1 else 1) (min f t) (max f t) p.aF.length=t:=by
  unfold KP;rw[jq,Us,Zbd];by_cases c:f>t
  ·rw[aa c,aa];omega
  ·rw[ab c,ab];omega
 rw[N]at h;exact⟨_,h,(E _ _ _ _).1,(E _ _ _ _).2⟩
theorem Z1z {x:Ax3} {s:Int} (D:a=1\/a= -1) (h:TC x a Q t s q) (hb:t.aE.length<=10000000/\0<=t.length/\t.length<=900000000000000) (L:0<=t.aQ/\t.aQ<=263886834032640):TQ t:=by
 obtain⟨E,I,-,-⟩:=h;refine⟨hb.1,hb.2,λi G=> ?_,Q43 D E,λJ=>by rw[Qus E J,I],L,λi G=> ?_,λi G=> ?_⟩
 ·have:=Sl D E i G;rw[I]at this;exact⟨this.1,this.2.1,this.2.2.1⟩
 ·have:=Sl D E i G;rw[I]at this;unfold eI at this;omega
 ·have:=(Sl D E i G).2.2.2.2;rcases D with rfl|rfl
  ·rcases this with h|h
   ·exact .inl h
   ·exact .inr (.inl h)
  ·rcases this with h|h
   ·exact .inl h
   ·exact .inr (.inr h)
theorem LO {x:Ax3} (d:Pt) (a b:Int) (E:Ax3OK x) (D:GoodPath p):TQ (AR p x d a b):=by
 have J:=Nq D;obtain⟨L,G,I,-⟩:=Lo (d:=d) (a:=a) (b:=b) (Q:=λ_ _=>True) E D (λ_ _ _ _ _ _ _ _=>trivial);exact Z1z (VG p a b) G (Ycp d a b D E) (by rw[I];unfold A6;omega)
def CF (a:Axs) (i:Nat):Int:=a.aW.getD i 0
def Lm (a:Axs) (p:Int):Int:=
 if a.aW=[]then 0
 else if p<=a.aV then CF a 0
 else if(p-a.aV)/a.aO>=a.aW.length-1 then CF a (a.aW.length-1)
 else CF a ((p-a.aV)/a.aO).toNat+BF ((CF a (((p-a.aV)/a.aO).toNat+1)-CF a ((p-a.aV)/a.aO).toNat)*(p-a.aV-(p-a.aV)/a.aO*a.aO)) a.aO
def D7 (a:Axs) (p:Int):Int:=BF (p+Lm a p) a.step
def okB (p:Int):Prop:= -1000000000<=p/\p<=1000000000
theorem Q2b (h:L≠[]):0<L.length:=by
 cases L with
 |nil=>exact absurd rfl h
 |cons _ _=>simp
theorem QZ {a:Axs} (h:AxOK a) {i:Nat} (D:i<a.aW.length): -4096<=CF a i/\CF a i<=4096:=by
 have e:CF a i=a.aW[i]:=by unfold CF;simp[D]
 rw[e];exact h.aW.1 _ (bf _)
theorem Uk {a:Axs} (D:i<a.aW.length):nth [] (a.aW.map Ai) i=[I (CF a i)]:=by
 have e:CF a i=a.aW[i]:=by unfold CF;simp[D]
 rw[e];exact GK _ _ _ _ D
theorem Q73 {a:Axs} (h:AxOK a) (D:a.aW≠[]) {p:Int} (E: ¬p<=a.aV) (G: ¬(p-a.aV)/a.aO>=a.aW.length-1):
  ∃(i:Nat) (r:Int),((p-a.aV)/a.aO=i)/\i+1<a.aW.length/\0<=r/\r<a.aO/\p-a.aV=i*a.aO+r/\p-a.aV-(p-a.aV)/a.aO*a.aO=r:=by
 have I:=h.aO D;have e0:=Int.mul_ediv_add_emod (p-a.aV) a.aO;have e1:=Int.emod_nonneg (p-a.aV) (show a.aO≠0 by omega);have e2:=Int.emod_lt_of_pos (p-a.aV) (show 0<a.aO by omega);have e3:0<=(p-a.aV)/a.aO:=Int.ediv_nonneg (by omega) (by omega);refine⟨((p-a.aV)/a.aO).toNat,(p-a.aV)%a.aO,by omega,by omega,e1,e2,?_,?_⟩
 ·rw[Int.toNat_of_nonneg e3,j9];omega
 ·rw[j9 ((p-a.aV)/a.aO)];omega
theorem Zeq {a:Axs} (h:AxOK a) (D:a.aW≠[]) {i:Nat} (G:i+1<a.aW.length) {r:Int} (E:0<=r/\r<=a.aO):
  (-30<=CF a (i+1)-CF a i/\CF a (i+1)-CF a i<=30)/\(BF ((CF a (i+1)-CF a i)*r) a.aO).natAbs<=31:=by
 have J:=h.aO D;have L:=h.aW.2 i G;have I: -30<=CF a (i+1)-CF a i/\CF a (i+1)-CF a i<=30:=by unfold CF;omega
 refine⟨I,Qg3 (by omega) ?_⟩;have m1:(CF a (i+1)-CF a i)*r<=31*r:=fu (by omega) E.1;have m2: -31*r<=(CF a (i+1)-CF a i)*r:=fu (by omega) E.1;have e:((31:Nat):Int)=31:=rfl;rw[e];omega
theorem Q6w {a:Axs} (h:AxOK a) (p:Int): -5000<=Lm a p/\Lm a p<=5000:=by
 unfold Lm;by_cases c:a.aW=[]
 ·rw[aa c];omega
 ·have G:=Q2b c;rw[ab c];by_cases D:p<=a.aV
  ·rw[aa D];have:=QZ h (show 0<a.aW.length from G);omega
  ·rw[ab D];by_cases E:(p-a.aV)/a.aO>=a.aW.length-1
   ·rw[aa E];have:=QZ h (show a.aW.length-1<a.aW.length by omega);omega
   ·rw[ab E];obtain⟨i,r,e1,e2,e3,J,L,I⟩:=Q73 h c D E;rw[I,e1,aj];have b1:=QZ h (show i<a.aW.length by omega);have b2:=(Zeq h c e2 (r:=r) (by omega)).2;omega
theorem Zs3 {a:Axs} (h:AxOK a) {v:Int} (D:v.natAbs<=1000010000):Li (BC a++[I v])=some [I (BF v a.step)]:=by
 have E:=h.step;have he:=Zju a.step a.aS a.bF a.bG a.low a.aY a.bB a.aV a.aO (a.aW.map Ai) v;unfold Li;refine co he ?_;rw[Ae (x:=2*v),Ae (x:=2*v+a.step),Ae (x:=2*a.step)];have G:=Int.tmod_add_mul_tdiv (2*v+a.step) (2*a.step);have J:=Int.tmod_lt_of_pos (2*v+a.step) (show 0<2*a.step by omega);have L:=Int.lt_tmod_of_pos (2*v+a.step) (show 0<2*a.step by omega);have M:((2*v+a.step).tdiv (2*a.step)).natAbs<=(2*v+a.step).natAbs:=by rw[Int.natAbs_tdiv];exact i7 _ _
 generalize(2*v+a.step).tdiv (2*a.step)=q at*;generalize(2*v+a.step).tmod (2*a.step)=r at*;have e1:2*a.step*q=q*(2*a.step):=j9 _ _;rw[Bi (by omega),Bi (by omega),Bi (by omega),Bi (by omega),Ae (x:=q)];by_cases h:r<0
 ·rw[Eo h,Ae,Mv (k:=q-1) (by omega)]
  ·rw[Int.sub_mul];omega
  ·rw[Int.sub_add_cancel];omega
 ·rw[Bi h,Mv (k:=q) (by omega)]
  ·omega
  ·rw[j0];omega
theorem Ztq {a:Axs} (h:AxOK a) {p:Int} (N:okB p):KH (BC a++[I p])=some [I (Lm a p)]:=by
 unfold okB at N;have Y:=h.aV;have hc:=h.count;have he:=Z1v BO a.step a.aS a.bF a.bG a.low a.aY a.bB a.aV a.aO (a.aW.map Ai) p;unfold KH;have O:=fun{x y:Int} (hx:x.natAbs<=30) (hy:y.natAbs<=123) (L:4<=a.aO/\a.aO<=123)=>Zbe (a:=x) (b:=y) (c:=a.aO) (by omega) (by omega) (by omega);generalize BO=M at*;refine co he ?_;unfold Lm;rw[ac];by_cases c:a.aW=[]
 ·rw[aa c,c];rfl
 ·have S:=Q2b c;have L:=h.aO c;have e1:V ((a.aW.length:Int)-1)=((a.aW.length-1:Nat):Int):=by rw[Ae];omega
  have e2:V (p-a.aV)=p-a.aV:=Ae;rw[ab c,e2,e1];by_cases G:p<=a.aV
  ·rw[aa G];simp only[go_sem,Uk S];rw[ab,aa,aa]
  ·have e3:V ((p-a.aV).tdiv a.aO)=(p-a.aV)/a.aO:=by
    rw[ap (by omega)];have:=Int.ediv_nonneg (show 0<=p-a.aV by omega) (show 0<=a.aO by omega);have:=Int.ediv_le_self a.aO (show 0<=p-a.aV by omega);exact Ae
   rw[ab G,e3];by_cases J:(p-a.aV)/a.aO>=(a.aW.length:Int)-1
   ·rw[aa J];simp only[go_sem,aj,Uk (show a.aW.length-1<a.aW.length by omega)];rw[ab,ab,ab,ab,aa,aa]
   ·rw[ab J];obtain⟨i,r,g1,g2,g3,g4,g5,T⟩:=Q73 h c G J;obtain⟨n1,n2⟩:=Zeq h c g2 (r:=r) (by omega);have b1:=QZ h (show i<a.aW.length by omega);rw[T,g1]at*;rw[aj];have U:V ((i:Int)+1)=((i+1:Nat):Int):=by rw[Ae];omega
    have hmul:(i:Int)*a.aO=p-a.aV-r:=by omega
    have X:V (p-a.aV-V ((i:Int)*a.aO))=r:=by rw[hmul,Ae (x:=p-a.aV-r),Ae];omega
    have D:(0:Int)<=(i:Int)/\(i:Int)<(a.aW.length:Int):=by omega
    have E:(0:Int)<=((i+1:Nat):Int)/\((i+1:Nat):Int)<(a.aW.length:Int):=by omega
    simp only[go_sem,U,X,aj,Uk (show i<a.aW.length by omega),Uk g2,aa D,aa E];have b2:=QZ h g2;generalize CF a (i+1)=y at*;generalize CF a i=z at*;rw[ab,ab,ab,ab,ab,Ae (x:=y-z),O (by omega) (by omega) L];simp only[go_sem];rw[Ae]
theorem Z8g {a:Axs} (h:AxOK a) {p:Int} (D:okB p):NP (BC a++[I p])=some [I (D7 a p)]:=by
 have hb:=Q6w h p;have E:=Ztq h D;unfold okB at D;have G:=Zs3 h (v:=p+Lm a p) (by omega);have he:=Z19 Li KH a.step a.aS a.bF a.bG a.low a.aY a.bB a.aV a.aO (a.aW.map Ai) p;unfold NP;generalize Li=J at*;generalize KH=L at*;refine co he ?_;simp only[BC,ay,az]at E G;simp only[E,go_sem,Ae (x:=p+Lm a p),G];rfl
def Cx (a:Axs) (d:Int):Int:=if d= -1 then-a.bB else 0
def DW (a:Axs) (bD at_ was aT u:Int):Int:=if bD≠0\/was=aT then Cx a aT else if aT= -1 then-min (u-at_) a.bB else min (u-at_) a.bB-a.bB
theorem S4 {a:Axs} (hb:0<=a.bB/\a.bB<=1000) (v:Int):Ke (BC a++[I v])=some [I (Cx a v)]:=by
 have he:=Zhe a.step a.aS a.bF a.bG a.low a.aY a.bB a.aV a.aO (a.aW.map Ai) v;unfold Ke;refine co he ?_;unfold Cx;by_cases c:v= -1
 ·rw[BX (by simp[c]),aa c,Ae];congr 3;omega
 ·rw[BG (by simp[c]),ab c]
theorem Zyr {a:Axs} {c:Pce} (L:∀v:Int,M (BC a++[I v])=some [I (Cx a v)]) (hb:0<=a.bB/\a.bB<=1000) (S:0<=u-c.at_/\u-c.at_<=2000000000000000):
  QW M (BC a++AM c++[I 0,I u])=some [I (DW a c.bD c.at_ c.was.x c.aT.x u)]:=by
 have he:=Qma M a.step a.aS a.bF a.bG a.low a.aY a.bB a.aV a.aO (a.aW.map Ai) c.at_ c.aR c.s c.bD c.was.x c.was.y c.was.z c.aT.x c.aT.y c.aT.z 0 u;refine co he ?_;have D:=L c.aT.x;simp only[BC,ay,az]at D;have e1:V (0+1)=1:=rfl;have e2:V (1+1)=2:=rfl;have N:V (u-c.at_)=u-c.at_:=Ae;have O:V (0-min (u-c.at_) a.bB)= -min (u-c.at_) a.bB:=by rw[Ae];omega
 have w3:V (min (u-c.at_) a.bB-a.bB)=min (u-c.at_) a.bB-a.bB:=Ae;unfold DW;simp only[go_sem,e1,e2,KS,N,O,w3,Nat.reduceAdd,jc,lh,ki,Int.reduceEq,D];by_cases E:c.bD=0
 ·by_cases G:c.was.x=c.aT.x
  ·simp[E,G]
  ·by_cases J:c.aT.x= -1
   ·simp[E,J,show c.was.x≠-1 from λe=>G (by rw[e,J])]
   ·simp[E,G,J]
 ·simp[E]
theorem Zt6 {a:Axs} {c:Pce} (L:∀v:Int,M (BC a++[I v])=some [I (Cx a v)]) (hb:0<=a.bB/\a.bB<=1000) (S:0<=u-c.at_/\u-c.at_<=2000000000000000):
  QW M (BC a++AM c++[I (V (0+1)),I u])=some [I (DW a c.bD c.at_ c.was.y c.aT.y u)]:=by
 have he:=Qma M a.step a.aS a.bF a.bG a.low a.aY a.bB a.aV a.aO (a.aW.map Ai) c.at_ c.aR c.s c.bD c.was.x c.was.y c.was.z c.aT.x c.aT.y c.aT.z (V (0+1)) u;refine co he ?_;have D:=L c.aT.y;simp only[BC,ay,az]at D;have e1:V (0+1)=1:=rfl;have e2:V (1+1)=2:=rfl;have N:V (u-c.at_)=u-c.at_:=Ae;have O:V (0-min (u-c.at_) a.bB)= -min (u-c.at_) a.bB:=by rw[Ae];omega
 have w3:V (min (u-c.at_) a.bB-a.bB)=min (u-c.at_) a.bB-a.bB:=Ae;unfold DW;simp only[go_sem,e1,e2,KS,N,O,w3,Nat.reduceAdd,jc,lh,ki,Int.reduceEq,D];by_cases E:c.bD=0
 ·by_cases G:c.was.y=c.aT.y
  ·simp[E,G]
  ·by_cases J:c.aT.y= -1
   ·simp[E,J,show c.was.y≠-1 from λe=>G (by rw[e,J])]
   ·simp[E,G,J]
 ·simp[E]
theorem Z4z {a:Axs} {c:Pce} (L:∀v:Int,M (BC a++[I v])=some [I (Cx a v)]) (hb:0<=a.bB/\a.bB<=1000) (S:0<=u-c.at_/\u-c.at_<=2000000000000000):
  QW M (BC a++AM c++[I (V (V (0+1)+1)),I u])=some [I (DW a c.bD c.at_ c.was.z c.aT.z u)]:=by
 have he:=Qma M a.step a.aS a.bF a.bG a.low a.aY a.bB a.aV a.aO (a.aW.map Ai) c.at_ c.aR c.s c.bD c.was.x c.was.y c.was.z c.aT.x c.aT.y c.aT.z (V (V (0+1)+1)) u;refine co he ?_;have D:=L c.aT.z;simp only[BC,ay,az]at D;have e1:V (0+1)=1:=rfl;have e2:V (1+1)=2:=rfl;have N:V (u-c.at_)=u-c.at_:=Ae;have O:V (0-min (u-c.at_) a.bB)= -min (u-c.at_) a.bB:=by rw[Ae];omega
 have w3:V (min (u-c.at_) a.bB-a.bB)=min (u-c.at_) a.bB-a.bB:=Ae;unfold DW;simp only[go_sem,e1,e2,KS,N,O,w3,Nat.reduceAdd,jc,lh,ki,Int.reduceEq,D];by_cases E:c.bD=0
 ·by_cases G:c.was.z=c.aT.z
  ·simp[E,G]
  ·by_cases J:c.aT.z= -1
   ·simp[E,J,show c.was.z≠-1 from λe=>G (by rw[e,J])]
   ·simp[E,G,J]
 ·simp[E]
theorem Zqo {a:Axs} (hb:0<=a.bB/\a.bB<=1000) {bD at_ was aT u:Int} (D:0<=u-at_): -1000<=DW a bD at_ was aT u/\DW a bD at_ was aT u<=1000:=by
 unfold DW Cx
 (repeat' split)<;>omega
theorem Zr1 (E:bd B26 q) (G:1<=g.len/\g.len<=268435456/\bd B26 g.to) (J:0<=k/\k<=g.len):bd 201326592 (PQ q g k):=by
 have key:∀u v:Int,u.natAbs<=B26->v.natAbs<=B26->(v+BF ((u-v)*k) g.len).natAbs<=201326592:=by
  intro u v M I;have N:=I8 M I;have O:=Qy9 (D:=u-v) (L:=g.len) (d:=k) (by omega) (cq N (by decide)) J;have S:v.natAbs<=67108864:=I;omega
 exact⟨key _ _ G.2.2.1 E.1,key _ _ G.2.2.2.1 E.2.1,key _ _ G.2.2.2.2 E.2.2⟩
theorem Zve (h:GoodPath p) (s:Int):bd 201326592 (atP p s):=by
 unfold atP;by_cases c:p.aF=[]
 ·rw[c];exact Bf h.aQ (by decide)
 ·have D:=h.ok;obtain⟨E,G,I,J⟩:=Qj7 (l:=p.aF) (a:=p.aQ) (s:=max s 0) c (λg L=>(D.seg g L).1) (by omega);rw[J];exact Zr1 (Zfb h.aQ D E) (D.seg _ (IG E)) ⟨G,I⟩
theorem Y3 {a:Axs} (h:AxOK a) {p:Int} (D:okB p):(D7 a p).natAbs<=2000000000:=by
 have hb:=Q6w h p;have E:=h.step;unfold okB at D;unfold D7;refine Qg3 (by omega) ?_;have e:((2000000000:Nat):Int)=2000000000:=rfl;rw[e];omega
def shT (a:Axs) (t:Trk) (u:Int) (f:Pt->Int):Int:=if t.aE=[]then Cx a (f t.aT)else DW a (pcA t.aE (iT t u)).bD (pcA t.aE (iT t u)).at_ (f (pcA t.aE (iT t u)).was) (f (pcA t.aE (iT t u)).aT) (clT t u)
def Gn (p:Pth) (x:Ax3) (s:Int):Pt:=⟨D7 x.a (atP p s).x,D7 x.b (atP p s).y,D7 x.c (atP p s).z⟩
def Co (p:Pth) (x:Ax3) (t:Trk) (u:Int):Pt:=
 ⟨(Gn p x (AA t u)).x+shT x.a t u Pt.x,(Gn p x (AA t u)).y+shT x.b t u Pt.y,(Gn p x (AA t u)).z+shT x.c t u Pt.z⟩
theorem Qwq (h:TQ t) (E:∀i,i+1<t.aE.length->(pcA t.aE (i+1)).at_=eI t.aE i) (J:t.aE≠[]->(pcA t.aE 0).at_=0) (u:Int) (D:t.aE≠[]):(pcA t.aE (iT t u)).at_<=clT t u/\(0<iT t u->(pcA t.aE (iT t u)).at_<clT t u):=by
 have G:=J4 h u D;have L:=JR h u;by_cases c:iT t u=0
 ·rw[c,J D];exact⟨L.1,λg=>absurd g (by omega)⟩
 ·obtain⟨j,I⟩:∃j,iT t u=j+1:=⟨iT t u-1,by omega⟩;rw[I]at G⊢;rw[E j G];have: ¬clT t u<=eI t.aE j:=by
   intro g;have:=Vi (show j<t.aE.length by omega) g;unfold iT at I;omega
  exact⟨by omega,λ_=>by omega⟩
theorem Z9d (h:TQ t) (u:Int):clT t (clT t u)=clT t u:=by have:=h.len;unfold clT A6;omega
theorem Z24 (h:TQ t) (u:Int):AA t (clT t u)=AA t u:=by unfold AA iT;rw[Z9d h]
theorem Q11 (h:TQ t) (u:Int): -3000000000000000<=AA t u/\AA t u<=3000000000000000:=by
 unfold AA;by_cases c:t.aE=[]
 ·rw[aa c];have:=h.aQ;omega
 ·have E:=J4 h u c;have G:=h.pos _ E;have I:=h.s _ E;have D:=h.bD _ E;have J:=JR h u;have L:=h.len;rw[ab c];unfold eI at G;rcases D with D|D|D<;>rw[D]<;>omega
theorem Yag (h:GoodPath p) (s:Int):okB (atP p s).x/\okB (atP p s).y/\okB (atP p s).z:=by
 obtain⟨D,E,G⟩:=Zve h s;unfold okB;omega
structure TH (t : Trk) : Prop where
 q:TQ t
 at0:t.aE≠[]->(pcA t.aE 0).at_=0
 at1:∀i,i+1<t.aE.length->(pcA t.aE (i+1)).at_=eI t.aE i
theorem Qmb {a:Axs} (hb:0<=a.bB/\a.bB<=1000) {t:Trk} (h:TH t) (u:Int) (f:Pt->Int): -1000<=shT a t u f/\shT a t u f<=1000:=by
 unfold shT;by_cases c:t.aE=[]
 ·rw[aa c];unfold Cx;split<;>omega
 ·rw[ab c];exact Zqo hb (by have:=(Qwq h.q h.at1 h.at0 u c).1;omega)
theorem Zqm {x:Ax3} (hp:GoodPath p) (D:Ax3M x) (E:TH t) (hC:O [I u,I t.length]=some [I (clT t u)]) (X:P (A4 t++[I (clT t u)])=some [I (AA t u)]) (Y:S (Bv p++[I (AA t u)])=some (ptR (atP p (AA t u))))
  (G:T (A4 t++[I (clT t u)])=some [I (if t.aE=[]then-1 else(iT t u:Int))]) (hM:∀{a:Axs} {q:Int},AxOK a->okB q->W (BC a++[I q])=some [I (D7 a q)]) (hD:∀{a:Axs} (v:Int),(0<=a.bB/\a.bB<=1000)->Z (BC a++[I v])=some [I (Cx a v)])
  (h0:∀{a:Axs} {c:Pce} {u:Int},(0<=a.bB/\a.bB<=1000)->(0<=u-c.at_/\u-c.at_<=2000000000000000)->M (BC a++AM c++[I 0,I u])=some [I (DW a c.bD c.at_ c.was.x c.aT.x u)])
  (h1:∀{a:Axs} {c:Pce} {u:Int},(0<=a.bB/\a.bB<=1000)->(0<=u-c.at_/\u-c.at_<=2000000000000000)->M (BC a++AM c++[I (V (0+1)),I u])=some [I (DW a c.bD c.at_ c.was.y c.aT.y u)])
  (h2:∀{a:Axs} {c:Pce} {u:Int},(0<=a.bB/\a.bB<=1000)->(0<=u-c.at_/\u-c.at_<=2000000000000000)->M (BC a++AM c++[I (V (V (0+1)+1)),I u])=some [I (DW a c.bD c.at_ c.was.z c.aT.z u)]):
  Qe4 M Z W T S P O (Bv p++AL x++A4 t++[I u])=some (ptR (Co p x t u)):=by
 have he:=Z9o M Z W T S P O u p x t;refine co he ?_;obtain⟨o1,o2,o3⟩:=Yag hp (AA t u);have m1:=hM D.a o1;have m2:=hM D.b o2;have m3:=hM D.c o3;have b1:=Y3 D.a o1;have b2:=Y3 D.b o2;have b3:=Y3 D.c o3;have s1:=Qmb D.ok.a E u Pt.x;have s2:=Qmb D.ok.b E u Pt.y;have s3:=Qmb D.ok.c E u Pt.z;unfold Co Gn;generalize D7 x.a (atP p (AA t u)).x=q1 at*;generalize D7 x.b (atP p (AA t u)).y=q2 at*;generalize D7 x.c (atP p (AA t u)).z=q3 at*;have w1:V (q1+shT x.a t u Pt.x)=q1+shT x.a t u Pt.x:=Ae;have w2:V (q2+shT x.b t u Pt.y)=q2+shT x.b t u Pt.y:=Ae;have w3:V (q3+shT x.c t u Pt.z)=q3+shT x.c t u Pt.z:=Ae;by_cases c:t.aE=[]
 ·have J:=hD t.aT.x D.ok.a;have L:=hD t.aT.y D.ok.b;have N:=hD t.aT.z D.ok.c;unfold shT at*;rw[aa c]at G;simp only[aa c]at w1 w2 w3⊢;simp only[Bv,A4,BC,ay,az]at X Y G J L N m1 m2 m3;simp only[hC,X,Y,G,go_sem,m1,m2,m3,J,L,N,w1,w2,w3];rw[aa,aa,aa]
 ·have hi:=J4 E.q u c;have a1:=E.q.count;have a3:=(Qwq E.q E.at1 E.at0 u c).1;have a4:=JR E.q u;have hlen:=E.q.len;have a2:=E.q.pos _ hi;have a0:(0:Int)<=(iT t u:Int)/\(iT t u:Int)<(t.aE.length:Int):=by omega
  have U: ¬((iT t u:Int)<0):=by omega
  have J:=h0 (c:=pcA t.aE (iT t u)) (u:=clT t u) D.ok.a (by omega);have L:=h1 (c:=pcA t.aE (iT t u)) (u:=clT t u) D.ok.b (by omega);have N:=h2 (c:=pcA t.aE (iT t u)) (u:=clT t u) D.ok.c (by omega);unfold shT at*;rw[ab c]at G;simp only[ab c]at w1 w2 w3⊢;simp only[Bv,A4,BC,AM,ay,az]at X Y G J L N m1 m2 m3;simp only[hC,X,Y,G,go_sem,m1,m2,m3,ac,aa a0,aj,O5 hi,ab U,J,L,N,w1,w2,w3]
theorem Z9z {x:Ax3} (J:GoodPath p) (L:Ax3M x) (D:TH t) (u:Int):Dh (Bv p++AL x++A4 t++[I u])=some (ptR (Co p x t u)):=by
 have O:=Q11 D.q u;have E:=P8 D.q (clT t u);rw[Z24 D.q]at E;exact Zqm J L D SK E (Z7b J (by unfold i64;omega)) (Qch D.q u) (λM N=>Z8g M N) (λv hb=>S4 hb v) (λhb G=>Zyr (S4 hb) hb G) (λhb G=>Zt6 (S4 hb) hb G) (λhb G=>Z4z (S4 hb) hb G)
theorem Qz2 {x:Ax3} {a s:Int} {l:List Pce} (h:Dm x k Q a s q l) (D:l≠[]):(pcA l 0).at_=a:=by
 cases l with
 |nil=>exact absurd rfl D
 |cons c l=>rw[IP];exact h.1
theorem Qxt {x:Ax3} {mv:Int} {Q:Int->Pt->Prop}:∀{a s:Int} {d:Pt} {l:List Pce},Dm x mv Q a s d l->∀i,i+1<l.length->(pcA l (i+1)).at_=eI l i
 |a,s,d,[],h,i,D=>by simp at D
 |a,s,d,c::l,h,0,D=>by
  obtain⟨G,I,J,L,E⟩:=h;unfold eI;rw[FV,IP,Qz2 E (λe=>by rw[e]at D;simp at D),G]
 |a,s,d,c::l,h,i+1,D=>by
  obtain⟨G,I,J,L,E⟩:=h;have:=Qxt E i (by simpa using D);unfold eI at*;rw[FV,FV];exact this
theorem Q0c {x:Ax3} (d:Pt) (a b:Int) (D:Ax3OK x) (E:GoodPath p):TH (AR p x d a b):=by
 obtain⟨I,G,J,-⟩:=Lo (d:=d) (a:=a) (b:=b) (Q:=λ_ _=>True) D E (λ_ _ _ _ _ _ _ _=>trivial);exact⟨LO d a b D E,Qz2 G.ch,Qxt G.ch⟩
def wF (z:Int):List Pce->Int
 |[]=> -1
 |c::l=>if c.bD≠0/\0<=(z-c.s)*c.bD/\(z-c.s)*c.bD<=c.aR then c.at_+(z-c.s)*c.bD else wF z l
def AO (t:Trk) (z:Int):Int:=if z=t.aQ then 0 else wF z t.aE
def plL:List Pce->Int->Int
 |[],_=>0
 |c::l,u=>if u<=c.at_+c.aR then c.s+c.bD*(u-c.at_)else plL l u
theorem Que:∀{l:List Pce} {u:Int},fI l u<l.length->plL l u=(pcA l (fI l u)).s+(pcA l (fI l u)).bD*(u-(pcA l (fI l u)).at_)
 |[],_,h=>by simp at h
 |c::l,u,h=>by
  unfold fI at h⊢;unfold plL;by_cases D:u<=c.at_+c.aR
  ·rw[aa D,aa D,IP]
  ·rw[ab D]at h⊢;rw[ab D,FV];exact Que (by simpa using h)
theorem FQ (h:TQ t) (u:Int) (D:t.aE≠[]):AA t u=plL t.aE (clT t u):=by
 have E:=J4 h u D;unfold AA;rw[ab D];exact(Que E).symm
theorem U_ {x:Ax3} {mv:Int} {Q:Int->Pt->Prop} (I:mv=1\/mv= -1):∀{a s:Int} {d:Pt} {l:List Pce},Dm x mv Q a s d l->0<=mv*(endQ s l-s)
 |a,s,d,[],_=>by simp[endQ]
 |a,s,d,c::l,h=>by
  obtain⟨M,N,O,D,J⟩:=h;have L:=U_ I J;unfold endQ;generalize endQ (s+c.bD*c.aR) l=E at*;have G:c.bD=mv\/c.bD=0:=by rcases D with D|D<;>simp[D.1]
  rcases G with G|G<;>rw[G]at L<;>rcases I with rfl|rfl<;>omega
theorem Z7 {x:Ax3} {mv:Int} {Q:Int->Pt->Prop} (D:mv=1\/mv= -1) (z:Int):∀{a s:Int} {d:Pt} {l:List Pce},Dm x mv Q a s d l->
  (mv*(z-s)<0->wF z l= -1)/\(0<mv*(z-endQ s l)->wF z l= -1)/\
  (0<mv*(z-s)->mv*(z-endQ s l)<=0->a<wF z l/\wF z l<=BD a l/\plL l (wF z l)=z/\∀v,a<=v->v<wF z l->mv*(plL l v-z)<0)
 |a,s,d,[],_=>by
  simp only[endQ,wF];exact⟨λ_=>trivial,λ_=>trivial,λJ L=>absurd J (by omega)⟩
 |a,s,d,c::l,h=>by
  obtain⟨J,L,h3,N,U⟩:=h;obtain⟨i1,X,O⟩:=Z7 D z U;have M:=U_ D U;have a0:=SW U;have G:c.bD=mv\/c.bD=0:=by rcases N with N|N<;>simp[N.1]
  simp only[endQ,BD];generalize endQ (s+c.bD*c.aR) l=E at*;generalize BD (a+c.aR) l=A at*;have key : (0 < mv * (z - (s + c.bD * c.aR)) -> mv * (z - E) <= 0 -> wF z (c :: l) = wF z l -> (∀ v, a <= v -> v <= a + c.aR -> mv * (s + c.bD * (v - a) - z) < 0) ->
    a<wF z (c::l)/\wF z (c::l)<=A/\plL (c::l) (wF z (c::l))=z/\∀v,a<=v->v<wF z (c::l)->mv*(plL (c::l) v-z)<0):=by
   intro g1 g2 g3 g4;obtain⟨k1,k2,k3,k4⟩:=O g1 g2;rw[g3];refine⟨by omega,k2,?_,?_⟩
   ·unfold plL;rw[ab];exact k3
   ·intro v S T;unfold plL;by_cases w3:v<=c.at_+c.aR
    ·rw[aa w3,J,L];exact g4 v S (by omega)
    ·rw[ab w3];exact k4 v (by omega) T
  rcases G with G|G
  ·
   have Y:c.bD≠0:=by rcases D with rfl|rfl<;>omega
   rw[G]at i1 O key;by_cases V:0<=(z-s)*mv/\(z-s)*mv<=c.aR
   ·have I:wF z (c::l)=a+(z-s)*mv:=by unfold wF;rw[L,G,J,aa ⟨by omega,V.1,V.2⟩]
    rw[I];refine⟨λg=> ?_,λg=> ?_,λg1 g2=>⟨?_,?_,?_,?_⟩⟩
    ·rcases D with rfl|rfl<;>omega
    ·rw[G]at M;rcases D with rfl|rfl<;>omega
    ·rcases D with rfl|rfl<;>omega
    ·omega
    ·unfold plL;rw[aa,J,L,G];rcases D with rfl|rfl<;>omega
    ·intro v S T;unfold plL;rw[aa,J,L,G];rcases D with rfl|rfl<;>omega
   ·have I:wF z (c::l)=wF z l:=by
     show(if _ then _ else _)=_;rw[L,G,ab λg=>V g.2]
    refine⟨λg=> ?_,λg=> ?_,λg1 g2=> ?_⟩
    ·rw[I];exact i1 (by rcases D with rfl|rfl<;>omega)
    ·rw[I];exact X g
    ·refine key (by rcases D with rfl|rfl<;>omega) g2 I ?_;intro v S T;rcases D with rfl|rfl<;>omega
  ·have I:wF z (c::l)=wF z l:=by
    show(if _ then _ else _)=_;rw[ab λg=>g.1 G]
   rw[G]at i1 O key;simp only[kv,ja]at i1 O key;refine⟨λg=> ?_,λg=> ?_,λg1 g2=> ?_⟩
   ·rw[I];exact i1 g
   ·rw[I];exact X g
   ·refine key g1 g2 I ?_;intro v S T;rcases D with rfl|rfl<;>omega
theorem Qws {t:Trk} (h:TQ t) {z:Int} (T:i64 z):∀(k j:Nat),j+k=t.aE.length->wF z (t.aE.drop j)= -1/\Am Sv [I z, .vC At (t.aE.map AM),I t.aE.length,I j]=some (2,[])\/
  Am Sv [I z, .vC At (t.aE.map AM),I t.aE.length,I j]=some (1,[I (wF z (t.aE.drop j))])
 |0,j,Y=>by
  left;rw[d9 (by omega)];refine⟨rfl,Bg (o:=(2,_)) ?_ (by simp)⟩;rw[Qxl,Bi (by omega)]
 |k+1,j,Y=>by
  have D:j<t.aE.length:=by omega
  have U:=h.count;have O:(0:Int)<=(j:Int)/\(j:Int)<(t.aE.length:Int):=by omega
  have M:=h.pos j D;have hl:=h.len;have hs:=h.s j D;have a0:=h.bD j D;have e:t.aE.drop j=pcA t.aE j::t.aE.drop (j+1):=by
   have e1:pcA t.aE j=t.aE[j]:=by unfold pcA;simp[D]
   rw[e1];exact Py _ _ D
  have J:Sv [I z, .vC At (t.aE.map AM),I t.aE.length,I j]=if(pcA t.aE j).bD≠0/\0<=(z-(pcA t.aE j).s)*(pcA t.aE j).bD/\(z-(pcA t.aE j).s)*(pcA t.aE j).bD<=(pcA t.aE j).aR then
    some (1,[I ((pcA t.aE j).at_+(z-(pcA t.aE j).s)*(pcA t.aE j).bD)])else some (0,[I z, .vC At (t.aE.map AM),I t.aE.length,I (j+1:Nat)]):=by
   rw[Qxl];simp only[go_sem,ac,aj,O5 D,aa O,Ae (x:=(j:Int)+1)];rw[aa];unfold eI at M;unfold i64 at T;generalize pcA t.aE j=c at*;have G:∀y:Int,-9223372036854775808-2000000000000000<=y->y<=9223372036854775807+2000000000000000->(V y=y/\ -9223372036854775808<=y/\y<=9223372036854775807)\/(V y=y+18446744073709551616/\y< -9223372036854775808)\/(V y=y-18446744073709551616/\y>9223372036854775807):=by
    intro y y1 y2;have hw:=Zsh y;unfold i64 at hw;by_cases L: -9223372036854775808<=y/\y<=9223372036854775807
    ·exact .inl ⟨Ae L,L⟩
    ·have:=Qc6 y;omega
   by_cases S:c.bD=0
   ·have N: ¬(c.bD≠0/\0<=(z-c.s)*c.bD/\(z-c.s)*c.bD<=c.aR):=λg=>g.1 S;rw[ab,ab N];rfl
   ·rw[aa S];have E:c.bD=1\/c.bD= -1:=by omega
    have a1:=G (z-c.s) (by omega) (by omega);have a3:V (V (z-c.s)*c.bD)=(z-c.s)*c.bD\/((V (V (z-c.s)*c.bD)<0\/V (V (z-c.s)*c.bD)>1000000000000000)/\((z-c.s)*c.bD<0\/(z-c.s)*c.bD>1000000000000000)):=by
     generalize V (z-c.s)=y at*;have a2:=G (y*c.bD) (by rcases E with E|E<;>rw[E]<;>omega) (by rcases E with E|E<;>rw[E]<;>omega);rcases E with E|E<;>rw[E]at a2⊢<;>omega
    generalize V (V (z-c.s)*c.bD)=n at*;by_cases L:0<=(z-c.s)*c.bD/\(z-c.s)*c.bD<=c.aR
    ·have en:n=(z-c.s)*c.bD:=by omega
     have N:c.bD≠0/\0<=(z-c.s)*c.bD/\(z-c.s)*c.bD<=c.aR:=⟨S,L⟩;rw[aa N,en,aa L.1,aa L.2,Ae]
    ·have N: ¬(c.bD≠0/\0<=(z-c.s)*c.bD/\(z-c.s)*c.bD<=c.aR):=λg=>L g.2;rw[ab N];by_cases X:0<=n
     ·rw[aa X,ab];rfl
     ·rw[ab X];rfl
  rw[e];by_cases c:(pcA t.aE j).bD≠0/\0<=(z-(pcA t.aE j).s)*(pcA t.aE j).bD/\(z-(pcA t.aE j).s)*(pcA t.aE j).bD<=(pcA t.aE j).aR
  ·rw[aa c]at J;right;rw[Bg J (by simp)];unfold wF;rw[aa c]
  ·rw[ab c]at J;rw[BE J];unfold wF;rw[ab c];exact Qws h T k (j+1) (by omega)
theorem Zkq (h:TQ t) {z:Int} (J:i64 z):Oo (A4 t++[I z])=some [I (AO t z)]:=by
 have he:=Ybq Mc (t.aE.map AM) t.length t.aQ t.aT.x t.aT.y t.aT.z z;unfold Oo;refine co he ?_;unfold AO;rw[ac];by_cases c:z=t.aQ
 ·rw[aa c,BX (by simp[c])]
 ·rw[ab c,BG (by simp[c])];rcases Qws h J t.aE.length 0 (by omega)with⟨G,E⟩|E
  ·rw[f9]at G;have D:Mc [I z, .vC At (t.aE.map AM),I t.aE.length,I 0]=some (2,[]):=E;generalize Mc=N at*;rw[G];simp only[D,go_sem];rfl
  ·rw[f9]at E;have D:Mc [I z, .vC At (t.aE.map AM),I t.aE.length,I 0]=some (1,[I (wF z t.aE)]):=E;generalize Mc=N at*;simp only[D,go_sem]
end Go.Bm
namespace Go.Bm
theorem Zni (l:Rw) (h:l.length<=100000):Out (λo=>(wA o 0).length<=l.length) (PY [.vC Aa l]):=by
 show Out _ (Tp (Am SD) [.vC Aa l]);rw[Q0w];refine .bind (p:=λo=>o.1=1/\(wA o.2 0).length<=l.length) ?_ λo g=>by rw[g.1];exact .some g.2
 refine BZ (λs:Rw×Nat=>[.vC Aa s.1, .vC Aa l,I (s.2:Int)]) (λs=>1<=s.2/\s.2<=l.length+1/\s.1.length+1<=s.2) (λs=>l.length+1-s.2) _ ?_ ([],1) (by simp);rintro⟨v,i⟩ ⟨g1,g2,D⟩;dsimp only at*;rw[Q9a];rw[Ae (x:=(i:Int)-1),Ae (x:=(i:Int)+1)];refine .cond (λc=> ?_) (λc=> ?_)
 ·have c:=A0 c;refine .cond (λ_=> ?_) λc=>by simp at c;omega
  refine .cond (λ_=> ?_) λc=>by simp at c;omega
  refine .cond (λ_=> ?_) λc=>by rw[BM (by simp;omega)]at c;cases c
  exact .some (.inl ⟨rfl,(_,i+1),rfl,by simp;omega,by simp;omega⟩)
 ·have c:=AU c;exact .some (.inr ⟨by simp,rfl,by show v.length<=l.length;omega⟩)
theorem Zzu (l:Rw) (n:Int) (h:l.length<=100000):(OB [.vC Aa l,I n]).isSome=true:=by
 show(SG (Am Qm) [.vC Aa l,I n]).isSome=true;rw[Qvx];refine Out.is (p:=λ_=>True) ?_;refine .bind (p:=λo=>o.1=1\/o.1=2) ?_ λo g=>by rcases g with g|g<;>rw[g]<;>exact .some trivial
 refine BZ (λs:Nat=>[I n, .vC Aa l,I (l.length:Int),I (s:Int)]) (λs=>s<=l.length) (λs=>l.length-s) _ ?_ 0 (by simp);intro i g;rw[Q7g];rw[Ae (x:=(i:Int)+1)];refine .cond (λc=> ?_) (λc=> ?_)
 ·have c:=A0 c;refine .cond (λ_=> ?_) λc=>by simp at c;omega
  refine .cond (λ_=> .some (.inr ⟨by simp, .inl rfl⟩)) λ_=> .cond (λ_=> .some (.inr ⟨by simp, .inl rfl⟩)) λ_=> ?_;exact .some (.inl ⟨rfl,i+1,rfl,by omega,by omega⟩)
 ·exact .some (.inr ⟨by simp, .inr rfl⟩)
theorem Z80 (D:∀l:Rw,l.length<=100000->Out (λo=>(wA o 0).length<=l.length) (Z [.vC Aa l])) (E:∀(l:Rw) n,l.length<=100000->(M [.vC Aa l,I n]).isSome=true)
  (G J L N O S T U V:Int) (X l:Rw) (h:l.length<=100000):(Ul M Z [I G,I J,I L,I N,I O,I S,I T,I U,I V, .vC Aa X, .vC Aa l]).isSome=true:=by
 rw[Zf1];obtain⟨a,Y,ga⟩:=D l h;rw[Y];simp only[ah];generalize wA a 0=la at*;obtain⟨b,hb,gb⟩:=D la (by omega);rw[hb];simp only[ah];generalize wA b 0=lb at*;obtain⟨c,hc,gc⟩:=D lb (by omega);rw[hc];simp only[ah];generalize wA c 0=lc at*;refine Gc (E _ _ (by omega)) λ_ _=>Ce (λ_=>rfl) λ_=>Gc (E _ _ (by omega)) λ_ _=>Ce (λ_=>rfl) λ_=>Gc (E _ _ (by omega)) λ_ _=>Ce (λ_=>rfl) λ_=>rfl
theorem Z7h (D E G J L M N O S:Int) (T l:Rw) (h:l.length<=100000):(LE [I D,I E,I G,I J,I L,I M,I N,I O,I S, .vC Aa T, .vC Aa l]).isSome=true:=Z80 Zni Zzu D E G J L M N O S T l h
theorem Zt9 {x:Ax3} (L:0<=k/\k<=2) {l out:Rw} (J:out.length=l.length) (N:l.length<=100000):
  Out (λo=>o.1=1/\∃v:Rw,o.2= .vC Aa v:: .vC kPt l::I k::I k::AL x/\v.length=l.length) (Am (Iy M) (.vC Aa out:: .vC kPt l::I k::I k::I (l.length:Int)::I 0::AL x)):=by
 refine BZ (λs:Rw×Nat=> .vC Aa s.1:: .vC kPt l::I k::I k::I (l.length:Int)::I (s.2:Int)::AL x) (λs=>s.1.length=l.length/\s.2<=l.length) (λs=>l.length-s.2) _ ?_ (out,0) ⟨J,by simp⟩;rintro⟨v,i⟩ ⟨g1,g2⟩;dsimp only at*;rw[Q10];rw[Ae (x:=(i:Int)+1)];refine .cond (λc=> ?_) (λc=> ?_)
 ·have c:=A0 c;refine .cond (λ_=> ?_) λc=>by simp at c;omega
  refine .cond (λ_=> ?_) λD=> .cond (λ_=> ?_) λE=> .cond (λ_=> ?_) λG=> ?_
  ·refine .cond (λ_=> ?_) λc=>by simp at c;omega
   exact .some (.inl ⟨rfl,(_,i+1),rfl,by simp;omega,by simp;omega⟩)
  ·refine .cond (λ_=> ?_) λc=>by simp at c;omega
   exact .some (.inl ⟨rfl,(_,i+1),rfl,by simp;omega,by simp;omega⟩)
  ·refine .cond (λ_=> ?_) λc=>by simp at c;omega
   exact .some (.inl ⟨rfl,(_,i+1),rfl,by simp;omega,by simp;omega⟩)
  ·have D:=AU D;have E:=AU E;have G:=AU G
   simp at D E G;omega
 ·exact .some (.inr ⟨by simp,rfl,v,rfl,g1⟩)
theorem Zmy (hM:∀(D E G J L N O S T:Int) (U l:Rw),l.length<=100000->(M [I D,I E,I G,I J,I L,I N,I O,I S,I T, .vC Aa U, .vC Aa l]).isSome=true) (x:Ax3) {l:Rw} (h1:l.length<=100000):
  (Ro M (Am (Iy M)) (Am (OD M (Am (Iy M)))) (AL x++[.vC kPt l])).isSome=true:=by
 show(Ro M (Am (Iy M)) (Am (OD M (Am (Iy M)))) [I x.a.step,I x.a.aS,I x.a.bF,I x.a.bG,I x.a.low,I x.a.aY,I x.a.bB,I x.a.aV,I x.a.aO, .vC Aa (x.a.aW.map Ai),I x.b.step,I x.b.aS,I x.b.bF,I x.b.bG,I x.b.low,I x.b.aY,I x.b.bB,I x.b.aV,I x.b.aO, .vC Aa (x.b.aW.map Ai),I x.c.step,I x.c.aS,I x.c.bF,I x.c.bG,I x.c.low,I x.c.aY,I x.c.bB,I x.c.aV,I x.c.aO, .vC Aa (x.c.aW.map Ai), .vC kPt l]).isSome=true;rw[Qyc];refine Out.is (p:=λ_=>True) ?_;refine .bind (p:=λo=>o.1=1\/o.1=2) ?_ λo g=>by rcases g with g|g<;>rw[g]<;>exact .some trivial
 refine BZ (λs:Nat=> .vC kPt l::I (s:Int)::AL x) (λs=>s<=3) (λs=>3-s) _ ?_ 0 (by omega);intro k hk;rw[Qzy];refine .cond (λc=> ?_) (λc=> ?_)
 ·have c:=A0 c;refine .cond (λ_=> ?_) λc=>by simp at c
  refine .cond (λ_=> ?_) λc=>by simp at c;omega
  refine .bind (Zt9 (M:=M) (x:=x) (k:=(k:Int)) (by omega) (by simp) h1) λo g=> ?_;obtain⟨g1,v,g2,g3⟩:=g;obtain⟨o1,o2⟩:=o;subst g1;subst g2;refine .cond (λ_=> ?_) λc=>by simp at c
  have e:V ((k:Int)+1)=((k+1:Nat):Int):=by rw[Ae];rfl
  have X:∀(D E G J L N O S T:Int) (U:Rw),(M [I D,I E,I G,I J,I L,I N,I O,I S,I T, .vC Aa U, .vC Aa v]).isSome=true:=λD E G J L N O S T U=>hM D E G J L N O S T U v (by omega);refine .cond (λ_=> ?_) λY=> .cond (λ_=> ?_) λc1=> .cond (λ_=> ?_) λc2=> ?_
  ·refine .ibind (X _ _ _ _ _ _ _ _ _ _) λ_ _=> .cond (λ_=> .some (.inr ⟨by simp, .inl rfl⟩)) λ_=> .some (.inl ⟨rfl,k+1,?_,by omega,by omega⟩);simp only[gA,wA,bA,jA,nth,Af,B_,e]
  ·refine .ibind (X _ _ _ _ _ _ _ _ _ _) λ_ _=> .cond (λ_=> .some (.inr ⟨by simp, .inl rfl⟩)) λ_=> .some (.inl ⟨rfl,k+1,?_,by omega,by omega⟩);simp only[gA,wA,bA,jA,nth,Af,B_,e]
  ·refine .ibind (X _ _ _ _ _ _ _ _ _ _) λ_ _=> .cond (λ_=> .some (.inr ⟨by simp, .inl rfl⟩)) λ_=> .some (.inl ⟨rfl,k+1,?_,by omega,by omega⟩);simp only[gA,wA,bA,jA,nth,Af,B_,e]
  ·have Y:=AU Y;have c1:=AU c1;have c2:=AU c2
   simp[gA,wA,bA,jA,nth,Af]at Y c1 c2;omega
 ·exact .some (.inr ⟨by simp, .inr rfl⟩)
theorem Zso (x:Ax3) {l:Rw} (D:l.length<=100000):(GF (AL x++[.vC kPt l])).isSome=true:=Zmy Z7h x D
theorem Qq8 (u:Int):(H4 [I u]).isSome=true:=by
 show(VQ [I u]).isSome=true;rw[Zdv];exact Ce (λ_=>rfl) λ_=>rfl
structure Fix (p : Pth) (x : Ax3) (t : Trk) : Prop where
 p:GoodPath p
 x:Ax3M x
 t:TH t
theorem KI {x:Ax3} (h:Fix p x t) (u:Int):Dh (pxt p x t [I u])=some (ptR (Co p x t u)):=Z9z h.p h.x h.t u
theorem Z6h {E G MU:Fn} {x:Ax3} (L:∀{l:Rw},l.length<=100000->(E (AL x++[.vC kPt l])).isSome=true) (M:∀u,(G (pxt p x t [I u])).isSome=true) (N:∀u,(MU [I u]).isSome=true) {way:Rw} (O:way.length<=100000):
  (UL E G MU (Am (TR E G MU)) (pxt p x t [.vC Aa way])).isSome=true:=by
 rw[Qyw];refine Out.is (p:=λ_=>True) ?_;refine .bind (p:=λo=>o.1=1\/o.1=2) ?_ λo g=>by rcases g with g|g<;>rw[g]<;>exact .some trivial
 refine BZ (λs:Rw×Nat=> .vC kPt s.1:: .vC Aa way::I (way.length:Int)::I (s.2:Int)::pxt p x t []) (λs=>s.1.length<=4/\s.2<=way.length) (λs=>way.length-s.2) _ ?_ ([],0) (by simp);rintro⟨v,i⟩ ⟨g1,g2⟩;dsimp only at g1 g2;rw[Q9c];try dsimp only[D]
 rw[Ae (x:=(i:Int)+1)];refine .cond (λc=> ?_) (λc=> ?_)
 ·have c:=A0 c;refine .cond (λ_=> ?_) λc=>by simp at c;omega
  refine .ibind (N _) λa _=> .ibind (M _) λb _=> ?_;refine .cond (λ_=> ?_) λc=>by rw[BM (by simp;omega)]at c;cases c
  generalize [jA b 0,jA b 1,jA b 2]=q;refine .cond (λ_=> ?_) λJ=> ?_
  ·refine .cond (λ_=> ?_) λc=>by simp at c;omega
   refine .cond (λ_=> ?_) λc=>by rw[BM (by simp)]at c;cases c
   refine .ibind (L (l:=List.drop (Int.toNat 1) (v++[q])) (by simp;omega)) λ_ _=> .cond (λ_=> .some (.inr ⟨by simp, .inl rfl⟩)) λ_=> ?_;exact .some (.inl ⟨rfl,(_,i+1),rfl,by simp;omega,by simp;omega⟩)
  ·have J:=AU J;simp at J;refine .ibind (L (l:=v++[q]) (by simp;omega)) λ_ _=> .cond (λ_=> .some (.inr ⟨by simp, .inl rfl⟩)) λ_=> ?_;exact .some (.inl ⟨rfl,(_,i+1),rfl,by simp;omega,by simp;omega⟩)
 ·exact .some (.inr ⟨by simp, .inr rfl⟩)
theorem Qza {x:Ax3} (h:Fix p x t) {way:Rw} (D:way.length<=100000):(K7 (pxt p x t [.vC Aa way])).isSome=true:=
 Z6h (Zso x) (λu=>by rw[KI h u];rfl) Qq8 D
theorem Zgj (M N:Int) (O b1 b2:Bool) (S T U V X D E G J L:Int):(O4 [I M,I N,B O,B b1,B b2,I S,I T,I U,I V,I X,I D,I E,I G,I J,I L]).isSome=true:=by
 show(Vr [I M,I N,B O,B b1,B b2,I S,I T,I U,I V,I X,I D,I E,I G,I J,I L]).isSome=true;rw[Zbq]
 repeat' first|exact rfl|refine Ce (λ_=> ?_) (λ_=> ?_)
theorem VW {x:Ax3} (h:Fix p x t) (u:Int):i64 (AA t u):=by
 have:=Q11 h.t.q u;unfold i64;omega
theorem Qcs:∀(l:List Sgm) (s:Int),l≠[]->(A5 l s).1<l.length
 |[],_,h=>absurd rfl h
 |[g],s,_=>by unfold A5;split<;>simp
 |g::h::l,s,_=>by
  by_cases c:s<g.len
  ·rw[A5,aa c];simp
  ·rw[Zc7 c];have:=Qcs (h::l) (s-g.len) (by simp);simp at this⊢;omega
theorem Zbb {x:Ax3} (h:Fix p x t) {s:Int} (D:i64 s):∃i v:Int,Fq (Bv p++[I s])=some [I i,I v]/\(i= -1\/0<=i/\i<p.aF.length)/\(p.aF≠[]->0<=i):=by
 rw[Wl (h.p.ok) D];by_cases c:p.aF=[]
 ·rw[aa c];exact⟨-1,0,rfl, .inl rfl,λh=>absurd c h⟩
 ·rw[ab c];have:=Qcs p.aF (max s 0) c;exact⟨_,_,rfl, .inr ⟨by omega,by omega⟩,λ_=>by omega⟩
theorem Z8l {S T U MU:Fn} (V:∀(X Y:Int) (D b1 b2:Bool) (x5 x6 x7 x8 x9 E G J L M:Int),(S [I X,I Y,B D,B b1,B b2,I x5,I x6,I x7,I x8,I x9,I E,I G,I J,I L,I M]).isSome=true)
  (hF:∀s,i64 s->∃i v:Int,T (Bv p++[I s])=some [I i,I v]/\(i= -1\/0<=i/\i<p.aF.length)/\(p.aF≠[]->0<=i)) (hP:∀u,∃s,U (A4 t++[I u])=some [I s]/\i64 s) (hU:∀u,(MU [I u]).isSome=true) (N:p.aF≠[])
  (a b c o0 o1:Int) (D b1 b2:Bool) (u:Int):
  (Vh S T U MU (DL p t [I a,I b,I c,I o0,I o1,B D,B b1,B b2,I u])).isSome=true:=by
 rw[Q03];refine Gc (hU _) λq _=> ?_;obtain⟨s,h1,h2⟩:=hP (gA q 0);rw[h1];simp only[ah];obtain⟨i,v,g1,g2,O⟩:=hF s h2;simp only[gA,wA,bA,jA,nth,Af];rw[g1];simp only[ah,gA,wA,bA,jA,nth,Af];have O:=O N;refine Ce (λ_=>Gc (V _ _ _ _ _ _ _ _ _ _ _ _ _ _ _) λ_ _=>rfl) λc=> ?_;simp at c;have:=c (al O);omega
theorem Zqb {x:Ax3} (h:Fix p x t) (D:p.aF≠[]) (a b c o0 o1:Int) (E b1 b2:Bool) (u:Int):
  (L9 (DL p t [I a,I b,I c,I o0,I o1,B E,B b1,B b2,I u])).isSome=true:=
 Z8l Zgj (λ_ G=>Zbb h G) (λu=>⟨_,P8 h.t.q u,VW h u⟩) Qq8 D a b c o0 o1 E b1 b2 u
theorem Zt1 {a b c o0 o1:Int} {E b1 b2:Bool} (D:p.aF≠[]->∀u,(M (DL p t [I a,I b,I c,I o0,I o1,B E,B b1,B b2,I u])).isSome=true)
  (L:∀a b c N O S T U V,Out (λo=>(wA o 0).length<=4096) (Z [I a,I b,I c,I N,I O,I S,I T,I U,I V])) (m0 m1 m2 m3 m4 m5:Int):
  (U3 M Z (Am (S5 M Z)) (DL p t [I a,I b,I c,I o0,I o1,B E,B b1,B b2,I m0,I m1,I m2,I m3,I m4,I m5])).isSome=true:=by
 rw[Qyu];obtain⟨o,X,Y⟩:=L a b c m0 m1 m2 m3 m4 m5;rw[X];simp only[ah];generalize wA o 0=sp at*;refine Ce (λ_=>rfl) λ_=>Ce (λ_=>rfl) λJ=> ?_;have G:p.aF≠[]:=by
  intro e;rw[e]at J;simp at J
 have D:=D G;refine Gc (D _) λ_ _=>Ce (λ_=>rfl) λ_=> ?_;refine Out.is (p:=λ_=>True) ?_;refine .bind (p:=λo=>o.1=1\/o.1=2) ?_ λo g=>by rcases g with g|g<;>rw[g]<;>exact .some trivial
 refine BZ (λs:Int×Nat=>I s.1:: .vC Aa sp::I (sp.length:Int)::I (s.2:Int)::DL p t [I a,I b,I c,I o0,I o1,B E,B b1,B b2]) (λs=>s.2<=sp.length) (λs=>sp.length-s.2) _ ?_ (m0,0) (by simp);rintro⟨v,i⟩ g;dsimp only at g;rw[Qx3];rw[Ae (x:=(i:Int)+1)];refine .cond (λc=> ?_) (λc=> ?_)
 ·have c:=A0 c;refine .cond (λ_=> ?_) λc=>by simp at c;omega
  refine .ibind (D _) λ_ _=> .cond (λ_=> .some (.inr ⟨by simp, .inl rfl⟩)) λ_=> ?_;exact .some (.inl ⟨rfl,(_,i+1),rfl,by dsimp only;omega,by dsimp only;omega⟩)
 ·exact .some (.inr ⟨by simp, .inr rfl⟩)
theorem Zx1 {x:Ax3} (h:Fix p x t) (a b c o0 o1:Int) (E b1 b2:Bool) (m0 m1 m2 m3 m4 m5:Int):
  (Lw (DL p t [I a,I b,I c,I o0,I o1,B E,B b1,B b2,I m0,I m1,I m2,I m3,I m4,I m5])).isSome=true:=
 Zt1 (λD u=>Zqb h D a b c o0 o1 E b1 b2 u) V3 m0 m1 m2 m3 m4 m5
theorem Z7a (G:R<i*4294967296+A) (I:J<4294967296) (D:R=C*i+Y) (h:4294967296<=C\/Y*4294967296+J<C*A):(R*4294967296+J)/(i*4294967296+A)<C:=by
 have E:0<i*4294967296+A:=by omega
 rw[fg E];rcases h with h|h
 ·have L:4294967296*(i*4294967296+A)<=C*(i*4294967296+A):=bt _ h;omega
 ·have e:C*(i*4294967296+A)=C*i*4294967296+C*A:=by rw[Nat.mul_add,iy]
  rw[e];clear e;generalize C*i=p at*;generalize C*A=t at*;subst D;rw[dh p Y 4294967296,dm];exact Nat.add_lt_add_left h _
theorem Q13 {a b v u q r:Nat} (E:v<a*4294967296+b) (G:v=q*a+r) (h:q*b<=r*4294967296+u):q<=(v*4294967296+u)/(a*4294967296+b):=by
 have D:0<a*4294967296+b:=by omega
 rw[Nat.le_div_iff_mul_le D];have e:q*(a*4294967296+b)=q*a*4294967296+q*b:=by rw[Nat.mul_add,iy]
 rw[e];generalize q*a=p at*;generalize q*b=t at*;omega
theorem Q5e (D:R<i*4294967296+A) (E:J<4294967296):(R*4294967296+J)/(i*4294967296+A)<4294967296:=by
 rw[fg (by omega)];omega
theorem Quk {q b:Nat} (D:q<4294967296) (hb:b<4294967296):q*b<=18446744065119617025:=by
 have:=fv (show q<=4294967295 by omega) (show b<=4294967295 by omega);omega
theorem Wu {α:Type} {F G:Nat->Nat->Option α} {a b v u Q:Nat} (D:(v*4294967296+u)/(a*4294967296+b)=Q) (hb:b<4294967296) (T:2147483648<=a) (I:a<4294967296) (E:v<a*4294967296+b) (M:u<4294967296) {X:α}
  (N:∀q r:Nat,q<=4294967297->r<4294967296->F q r=if 4294967296<=q\/r*4294967296+u<q*b then(if 4294967296<=r+a then G (q-1) 0 else F (q-1) (r+a))else G q 0)
  (J:G Q 0=some X):∀(k q r:Nat),q<=Q+k->Q<=q->v=q*a+r->r<4294967296->q<=4294967297->F q r=some X
 |k,q,r,hk,h1,O,U,V=>by
  rw[N q r V U];by_cases c:4294967296<=q\/r*4294967296+u<q*b
  ·rw[aa c];have Y:=Z7a E M O c;rw[D]at Y;have e:v=(q-1)*a+(r+a):=by
    have:(q-1)*a+a=q*a:=by rw[<-iw];congr 1;omega
    omega
   by_cases S:4294967296<=r+a
   ·rw[aa S];have h6:(q-1)*b<=(r+a)*4294967296+u:=by
     have:=fv (show q-1<=4294967296 by omega) (show b<=4294967296 by omega);omega
    have L:=Q13 E e h6;rw[D]at L;rw[show q-1=Q by omega];exact J
   ·rw[ab S]
    match k with
    |0=>omega
    |k+1=>exact Wu D hb T I E M N J k (q-1) (r+a) (by omega) (by omega) e (by omega) (by omega)
  ·rw[ab c];have L:=Q13 (u:=u) E O (by omega);rw[D]at L;rw[show q=Q by omega];exact J
theorem Q8s (hb:A<4294967296) (E:2147483648<=i) (G:R<i*4294967296+A) (I:J<4294967296):(R*4294967296+J)/(i*4294967296+A)<=R/i/\R/i<=4294967297/\R=R/i*i+R%i/\R%i<i:=by
 have e:R=R/i*i+R%i:=by have:=gw R i;rw[ff]at this;omega
 have D:R%i<i:=iq _ (by omega);refine⟨?_,?_,e,D⟩
 ·rw[<-Nat.lt_succ_iff,fg (by omega)];have e2:(R/i).succ*(i*4294967296+A)=(R/i*i+i)*4294967296+(R/i).succ*A:=by rw[Nat.mul_add,<-iy,iw]
  rw[e2];omega
 ·rw[<-Nat.lt_succ_iff,fg (by omega)];omega
theorem wr {x:Nat} (h:x<=18446744073709551615):wrap .u64 (x:Int)=x:=IB (by omega)
theorem Z09 {y s v0:Int} (hb:A<4294967296) (S:2147483648<=i) (I:i<4294967296) (T:R<i*4294967296+A) (V:J<4294967296):
  Am (Nd M) [U y,U s,U i,U A,U R,U J,U v0,U ((R/i:Nat):Int),U ((R%i:Nat):Int)]=some (1,[U y,U s,U i,U A,U R,U J,U v0,U (((R*4294967296+J)/(i*4294967296+A):Nat):Int)]):=by
 obtain⟨X,Y,f3,f4⟩:=Q8s hb S T V;refine Wu (F:=λq r=>Am (Nd M) [U y,U s,U i,U A,U R,U J,U v0,U q,U r]) (G:=λq _=>some (1,[U y,U s,U i,U A,U R,U J,U v0,U q])) rfl hb S I T V ?_ rfl (R/i) _ _ (Nat.le_add_left _ _) X f3 (by omega) Y;intro q r hq hr;have w1:wrap .u64 ((r:Int)+(i:Int))=((r+i:Nat):Int):=by rw[<-ii,wr (by omega)]
 have w3:wrap .u64 (wrap .u64 (4294967296*(r:Int))+(J:Int))=((r*4294967296+J:Nat):Int):=by rw[show(4294967296:Int)*r=((r*4294967296:Nat):Int) by omega,wr (by omega),<-ii,wr (by omega)]
 have w4:4294967296<=q->wrap .u64 ((q:Int)-1)=((q-1:Nat):Int):=λh=>by rw[show(q:Int)-1=((q-1:Nat):Int) by omega,wr (by omega)]
 have D:=Zro (Et:=M) y s i A R J v0 q r;rw[w1,w3]at D;by_cases L:4294967296<=q
 ·rw[Eo (show(q:Int)>=4294967296 by omega),w4 L]at D;show _=if _ then _ else _;rw[aa (.inl L)];by_cases E:4294967296<=r+i
  ·rw[Eo (show((r+i:Nat):Int)>=4294967296 by omega)]at D;rw[aa E];exact Bg D (by simp)
  ·rw[Bi (show¬((r+i:Nat):Int)>=4294967296 by omega)]at D;rw[ab E];exact BE D
 ·have N:=Quk (q:=q) (b:=A) (by omega) hb;rw[Bi (show¬(q:Int)>=4294967296 by omega),<-dg,wr (cq N (by decide))]at D;show _=if _ then _ else _;by_cases O:r*4294967296+J<q*A
  ·rw[Eo (show((q*A:Nat):Int)>((r*4294967296+J:Nat):Int) by omega)]at D;rw[aa (.inr O)];have a0:0<q:=by
    rcases ez q with h|h
    ·rw[h]at O;omega
    ·exact h
   rw[show(q:Int)-1=((q-1:Nat):Int) by omega,wr (by omega)]at D;by_cases E:4294967296<=r+i
   ·rw[Eo (show((r+i:Nat):Int)>=4294967296 by omega)]at D;rw[aa E];exact Bg D (by simp)
   ·rw[Bi (show¬((r+i:Nat):Int)>=4294967296 by omega)]at D;rw[ab E];exact BE D
  ·rw[Bi (show¬((q*A:Nat):Int)>((r*4294967296+J:Nat):Int) by omega)]at D;rw[ab (λh=>h.elim L O)];exact Bg D (by simp)
theorem Zzh {y s q1 w:Int} (hb:A<4294967296) (T:2147483648<=i) (I:i<4294967296) (V:R<i*4294967296+A) (X:J<4294967296):
  Am (Ql M N) [U y,U s,U i,U A,U J,U q1,U ((R%i:Nat):Int),U w,U ((R/i:Nat):Int)]=some (1,[U y,U s,U J,U q1,U w,U (((R*4294967296+J)/(i*4294967296+A):Nat):Int)]):=by
 obtain⟨Y,f2,f3,f4⟩:=Q8s hb T V X;refine Wu (F:=λq r=>Am (Ql M N) [U y,U s,U i,U A,U J,U q1,U r,U w,U q]) (G:=λq _=>some (1,[U y,U s,U J,U q1,U w,U q])) rfl hb T I V X ?_ rfl (R/i) _ _ (Nat.le_add_left _ _) Y f3 (by omega) f2;intro q r hq hr;have w1:wrap .u64 ((r:Int)+(i:Int))=((r+i:Nat):Int):=by rw[<-ii,wr (by omega)]
 have w3:wrap .u64 (wrap .u64 (4294967296*(r:Int))+(J:Int))=((r*4294967296+J:Nat):Int):=by rw[show(4294967296:Int)*r=((r*4294967296:Nat):Int) by omega,wr (by omega),<-ii,wr (by omega)]
 have w4:4294967296<=q->wrap .u64 ((q:Int)-1)=((q-1:Nat):Int):=λh=>by rw[show(q:Int)-1=((q-1:Nat):Int) by omega,wr (by omega)]
 have D:=Zp5 (Et:=M) (N17:=N) y s i A J q1 r w q;rw[w1,w3]at D;by_cases L:4294967296<=q
 ·rw[Eo (show(q:Int)>=4294967296 by omega),w4 L]at D;show _=if _ then _ else _;rw[aa (.inl L)];by_cases E:4294967296<=r+i
  ·rw[Eo (show((r+i:Nat):Int)>=4294967296 by omega)]at D;rw[aa E];exact Bg D (by simp)
  ·rw[Bi (show¬((r+i:Nat):Int)>=4294967296 by omega)]at D;rw[ab E];exact BE D
 ·have O:=Quk (q:=q) (b:=A) (by omega) hb;rw[Bi (show¬(q:Int)>=4294967296 by omega),<-dg,wr (cq O (by decide))]at D;show _=if _ then _ else _;by_cases S:r*4294967296+J<q*A
  ·rw[Eo (show((q*A:Nat):Int)>((r*4294967296+J:Nat):Int) by omega)]at D;rw[aa (.inr S)];have a0:0<q:=by
    rcases ez q with h|h
    ·rw[h]at S;omega
    ·exact h
   rw[show(q:Int)-1=((q-1:Nat):Int) by omega,wr (by omega)]at D;by_cases E:4294967296<=r+i
   ·rw[Eo (show((r+i:Nat):Int)>=4294967296 by omega)]at D;rw[aa E];exact Bg D (by simp)
   ·rw[Bi (show¬((r+i:Nat):Int)>=4294967296 by omega)]at D;rw[ab E];exact BE D
  ·rw[Bi (show¬((q*A:Nat):Int)>((r*4294967296+J:Nat):Int) by omega)]at D;rw[ab (λh=>h.elim L S)];exact Bg D (by simp)
theorem Q5s {s:Nat} (D:s<=63):(2:Int)^min (Int.toNat (s:Int)) IntKind.u64.bits=((2^s:Nat):Int):=by
 have e:min (Int.toNat (s:Int)) IntKind.u64.bits=s:=by
  show min (Int.toNat (s:Int)) 64=s;omega
 rw[e];simp
theorem Z5w {s:Nat} (D:s<=63):(2:Int)^min (Int.toNat ((64-s:Nat):Int)) IntKind.u64.bits=((2^(64-s):Nat):Int):=by
 have e:min (Int.toNat ((64-s:Nat):Int)) IntKind.u64.bits=64-s:=by
  show min (Int.toNat ((64-s:Nat):Int)) 64=64-s;omega
 rw[e];simp
theorem Q82 (x y:Nat):((x:Int)).fdiv (y:Int)=((x/y:Nat):Int):=by
 rw[gk _ (by omega)];rfl
theorem Qaf (x y:Nat):((x:Int)).tdiv (y:Int)=((x/y:Nat):Int):=by
 rw[ap (by omega)];rfl
theorem orP {A B s:Nat} (D:B<2^s) (h:A*2^s+B<w64):wrap .u64 (((BitVec.ofInt IntKind.u64.bits ((A*2^s:Nat):Int)|||BitVec.ofInt IntKind.u64.bits (B:Int)).toNat:Nat):Int)=((A*2^s+B:Nat):Int):=by
 rw[B8]at h;have e:(BitVec.ofInt IntKind.u64.bits ((A*2^s:Nat):Int)|||BitVec.ofInt IntKind.u64.bits (B:Int)).toNat=A*2^s+B:=by
  rw[BitVec.toNat_or];have e1:∀v:Nat,v<18446744073709551616->(BitVec.ofInt IntKind.u64.bits (v:Int)).toNat=v:=by
   intro v E;simp only[IntKind.bits,kw];omega
  have:=(Nat.two_pow_add_eq_or_of_lt D A).symm;rw[ff]at this;generalize A*2^s=X at*;rw[e1 _ (by omega),e1 _ (by omega)];exact this
 rw[e,wr (by omega)]
theorem Q4l {v u D y:Nat} (G:y<w64) (I:D=(v*4294967296+u)/y) (E:0<y):wrap .u64 (wrap .u64 (wrap .u64 ((v:Int)*4294967296)+(u:Int))-wrap .u64 ((D:Int)*(y:Int)))=(((v*4294967296+u)%y:Nat):Int):=by
 have J:=gw (v*4294967296+u) y;have L:=iq (v*4294967296+u) E;rw[<-I,ff]at J;rw[B8]at G;rw[OF,OF,OF,OF,<-dg];generalize D*y=p at*;generalize(v*4294967296+u)%y=r at*;omega
theorem Zam (D:0<A) (E:i<w64):wrap .u64 ((i:Int)-wrap .u64 (wrap .u64 ((i/A:Nat):Int)*(A:Int)))=((i%A:Nat):Int):=by
 have G:=gw i A;have I:=iq i D;have J:=i7 i A;rw[B8]at E;rw[wr (x:=i/A) (by omega),<-dg];rw[ff]at G;generalize i/A*A=p at*;generalize i%A=r at*;rw[wr (x:=p) (by omega),show(i:Int)-(p:Int)=(r:Int) by omega,wr (by omega)]
theorem Z8q {v u1 u0 Y:Nat} (D:0<Y):(v*w64+(u1*4294967296+u0))/Y=(v*4294967296+u1)/Y*4294967296+((v*4294967296+u1)%Y*4294967296+u0)/Y/\
  (v*w64+(u1*4294967296+u0))%Y=((v*4294967296+u1)%Y*4294967296+u0)%Y:=by
 have e:v*w64+(u1*4294967296+u0)=((v*4294967296+u1)%Y*4294967296+u0)+(v*4294967296+u1)/Y*4294967296*Y:=by
  have h:=gw (v*4294967296+u1) Y;rw[ff]at h;rw[B8];generalize(v*4294967296+u1)%Y=r at*;have e2:(v*4294967296+u1)/Y*4294967296*Y=(v*4294967296+u1)/Y*Y*4294967296:=by rw[iy,ff 4294967296,<-iy]
  rw[e2];generalize(v*4294967296+u1)/Y*Y=p at*;omega
 rw[e,Nat.add_mul_div_right _ _ D,Nat.add_mul_mod_self_right];exact⟨ku _ _,rfl⟩
theorem Zxl {E D y s:Nat} (h0:0<E) (h1:E<y) (a8:y<w64) (a4:D<w64) (hs:s<=63) (h2:9223372036854775808<=y*2^s) (G:y*2^s<w64) (hM:M [U y]=some [I s]):
  Qfp M (Am (Nd M)) (Am (Ql M (Am (Nd M)))) [U E,U D,U y]=some [U (((E*w64+D)/y:Nat):Int),U (((E*w64+D)%y:Nat):Int)]:=by
 have hP:0<2^s:=gv _;have a0:2^s*2^(64-s)=w64:=by rw[B8,<-Nat.pow_add,show s+(64-s)=64 by omega]
 have hT:0<2^(64-s):=gv _;have es:wrap .u64 (s:Int)=s:=wr (by omega);have et:wrap .u64 (64-(s:Int))=((64-s:Nat):Int):=by rw[show(64:Int)-s=((64-s:Nat):Int) by omega,wr (by omega)]
 have hB:D/2^(64-s)<2^s:=by rw[fg hT,a0];exact a4
 have hv:E*2^s+D/2^(64-s)<y*2^s:=by
  have:E*2^s+2^s<=y*2^s:=by rw[<-iw];exact bt _ h1
  omega
 have hN:(E*w64+D)*2^s=(E*2^s+D/2^(64-s))*w64+D*2^s%w64:=by
  have e1:D*2^s/w64=D/2^(64-s):=by
   rw[<-a0,ff D,Nat.mul_div_mul_left _ _ hP]
  have e2:=gw (D*2^s) w64;rw[e1]at e2;rw[dh,dh,dm,ff (D/2^(64-s)),e2];congr 1;rw[iy,ff w64,iy]
 have hU:D*2^s%w64<w64:=iq _ SE;have ey:wrap .u64 ((y:Int)*((2^s:Nat):Int))=((y*2^s:Nat):Int):=by rw[<-dg,wr (Nat.le_of_lt_succ (by rw[B8]at G;exact G))]
 have eh:wrap .u64 ((E:Int)*((2^s:Nat):Int))=((E*2^s:Nat):Int):=by
  rw[<-dg,wr (Nat.le_of_lt_succ (by have:=fd h1 hP;rw[B8]at G;exact Nat.lt_trans this G))]
 have el:wrap .u64 ((D:Int)*((2^s:Nat):Int))=((D*2^s%w64:Nat):Int):=by
  rw[<-dg,OF,B8];rfl
 have eo:=orP (A:=E) (B:=D/2^(64-s)) (s:=s) hB (by omega);have hq:(E*w64+D)/y=(E*w64+D)*2^s/(y*2^s):=(Nat.mul_div_mul_right _ _ hP).symm;have hr:(E*w64+D)%y=(E*w64+D)*2^s%(y*2^s)/2^s:=by rw[Nat.mul_mod_mul_right,Nat.mul_div_cancel _ hP]
 rw[hq,hr,hN];rw[Q2s];simp only[hM,ah,IF,Nv,My,R1,Qu,U5,Qg4,Qfm,In,gA,jA,wA,bA,es,et,Q5s hs,Z5w hs,ey,eh,el,Q82,eo];rw[BG (by simp;omega),Bi (show¬(y:Int)<=E by omega),BG (by simp;omega),Bi (show¬(s:Int)<0 by omega),Bi (show¬(s:Int)<0 by omega),Bi (show¬((64-s:Nat):Int)<0 by omega),Bi (show¬(s:Int)<0 by omega)];rw[Q23,Q5t _ G,Q23,Q5t _ hU];have S:y*2^s=y*2^s/4294967296*4294967296+y*2^s%4294967296:=by omega
 have hW:D*2^s%w64=D*2^s%w64/4294967296*4294967296+D*2^s%w64%4294967296:=by omega
 have hb:y*2^s%4294967296<4294967296:=iq _ (by omega);have a1:D*2^s%w64%4294967296<4294967296:=iq _ (by omega);have a2:D*2^s%w64/4294967296<4294967296:=by rw[B8]at hU⊢;omega
 have ha:2147483648<=y*2^s/4294967296:=by omega
 have a3:y*2^s/4294967296<4294967296:=by rw[B8]at G;omega
 clear hN hq hr eh el eo ey hB;generalize E*2^s+D/2^(64-s)=v at*;generalize D*2^s%w64=w at*;generalize y*2^s=Y at*;generalize w/4294967296=u1 at*;generalize w%4294967296=u0 at*;generalize Y/4294967296=a at*;generalize Y%4294967296=b at*;subst hW;rw[Bi (show¬(a:Int)=0 by omega),Qaf,Zam (by omega) (Nat.lt_trans hv G),wr (x:=v/a) (by have:=i7 v a;rw[B8]at G;omega)];have hl:=Z09 (M:=M) (y:=(Y:Int)) (s:=s) (v0:=u0) hb ha a3 (by rw[<-S];exact hv) a2;rw[hl];rw[<-S];have J:0<Y:=by omega
 have T:=Q4l (v:=v) (u:=u1) (y:=Y) G rfl J;have a5:(v*4294967296+u1)/Y<4294967296:=by rw[S];exact Q5e (by rw[<-S];exact hv) a2
 have L:=iq (v*4294967296+u1) J;obtain⟨k1,k2⟩:=Z8q (v:=v) (u1:=u1) (u0:=u0) J;rw[k1,k2];clear hl k1 k2;obtain⟨V,g1⟩:∃V,(v*4294967296+u1)/Y=V:=⟨_,rfl⟩;obtain⟨O,g2⟩:∃O,(v*4294967296+u1)%Y=O:=⟨_,rfl⟩;rw[g1]at T a5⊢;rw[g2]at T L⊢;simp only[ah,IF,Nv,My,R1,Qu,U5,Qg4,Qfm,In,T];rw[show Nat.beq 1 1=true from rfl,ai,Bi (show¬(a:Int)=0 by omega),Qaf,Zam (by omega) (Nat.lt_trans L G),wr (x:=O/a) (by have:=i7 O a;rw[B8]at G;omega)];have a6:=Zzh (M:=M) (N:=Am (Nd M)) (y:=(Y:Int)) (s:=s) (q1:=V) (w:=O) hb ha a3 (by rw[<-S];exact L) a1;rw[a6];rw[<-S];have X:=Q4l (v:=O) (u:=u0) (y:=Y) G rfl J;have a7:(O*4294967296+u0)/Y<4294967296:=by rw[S];exact Q5e (by rw[<-S];exact L) a1
 obtain⟨q0,g3⟩:∃q0,(O*4294967296+u0)/Y=q0:=⟨_,rfl⟩;obtain⟨r0,g4⟩:∃r0,(O*4294967296+u0)%Y=r0:=⟨_,rfl⟩;rw[g3]at X a7⊢;rw[g4]at X⊢;simp only[ah,IF,Nv,My,R1,Qu,U5,In,X];rw[show Nat.beq 1 1=true from rfl,ai,Bi (show¬(s:Int)<0 by omega),Q5s hs,Q82];have w1:wrap .u64 (wrap .u64 ((V:Int)*4294967296)+(q0:Int))=((V*4294967296+q0:Nat):Int):=by
  rw[show(V:Int)*4294967296=((V*4294967296:Nat):Int) by omega,wr (by omega),<-ii,wr (by omega)]
 rw[w1]
theorem Zwu (N:0<i) (h:i<w64):∃s:Nat,Jt [U i]=some [I s]/\s<=63/\9223372036854775808<=i*2^s/\i*2^s<w64:=by
 have E:=B8;obtain⟨b1,b2,b3⟩:=Lib.bitLenAux_bounds 64 i (by rw[<-show w64=2^64 by rw[E]];exact h) (by omega);have J:Lib.bitLen i=Lib.bitLenAux 64 i:=rfl;generalize hb:Lib.bitLenAux 64 i=L at*;have G:L<=64:=by
  by_cases c:L<=64
  ·exact c
  ·have:=Nat.pow_le_pow_right (show 0<2 by omega) (show 64<=L-1 by omega);rw[show(2:Nat)^64=18446744073709551616 from rfl]at this;omega
 refine⟨64-L,?_,by omega,?_,?_⟩
 ·unfold Jt;have D:Gq=18446744073709551616:=rfl;have M:inU (i:Int)=true:=by
   simp only[inU,D,ak,cz];omega
  simp only[IF,In,gA,jA,wA,bA,M,ai,aj,J];rw[show(64:Int)-(L:Int)=((64-L:Nat):Int) by omega]
 ·have e:2^(L-1)*2^(64-L)=9223372036854775808:=by rw[<-Nat.pow_add,show L-1+(64-L)=63 by omega]
  rw[<-e];exact bt _ b2
 ·have e:2^L*2^(64-L)=w64:=by rw[<-Nat.pow_add,show L+(64-L)=64 by omega,E]
  rw[<-e];exact fd b3 (gv _)
theorem Zdu (E:i<R) (G:R<w64) (D:A<w64):Hl [U i,U A,U R]=some [U (((i*w64+A)/R:Nat):Int),U (((i*w64+A)%R:Nat):Int)]:=by
 rcases ez i with h|h
 ·subst h;rw[jd,fc];exact Zb5 D E
 ·obtain⟨s,e,e1,e2,e3⟩:=Zwu (show 0<R by omega) G;exact Zxl h E G D e1 e2 e3 e
theorem Zpi {J L M N M5 O S:Fn} (h1:∀x b,(J [U x,B b]).isSome=true) (h2:∀x y b c,(L [I x,I y,B b,B c]).isSome=true) (T:∀x y,(M [I x,I y]).isSome=true)
  (h4:∀{V X y:Nat},V<y->y<w64->X<w64->(N [U V,U X,U y]).isSome=true) (h5:∀{x y:Nat},x<w64->y<w64->M5 [U x,U y]=some [U ((x*y/w64:Nat):Int),U ((x*y%w64:Nat):Int)])
  (D:∀{x:Int},i64 x->O [I x]=some [U (x.natAbs:Int)]) (h7:∀x,(S [I x]).isSome=true) {a b c:Int} (Y:i64 a) (hb:i64 b) (hc:i64 c) (m:Int):
  (T6 J L M N M5 O S [I a,I b,I c,I m]).isSome=true:=by
 have E:∀{x:Int},i64 x->x.natAbs<w64:=by
  intro x hx;unfold i64 at hx;rw[B8];omega
 rw[Zcd,D Y,D hb,D hc];refine Ce (λ_=>rfl) λ_=>Gc (h7 _) λ_ _=>Ce (λ_=>rfl) λ_=> ?_;simp only[ah,gA,wA,bA,jA,nth,Af];rw[h5 (E Y) (E hb)];simp only[ah,gA,wA,bA,jA,nth,Af];refine Ce (λ_=>rfl) λc0=> ?_;have c0:=AU c0;have G:a.natAbs*b.natAbs%w64<w64:=iq _ (by rw[B8];decide);refine Gc (h4 (by omega) (E hc) G) λ_ _=>Gc (T _ _) λ_ _=> ?_
 repeat' first|exact rfl|exact h1 _ _|exact h2 _ _ _ _|exact T _ _|refine Ce (λ_=> ?_) (λ_=> ?_)|refine Gc ?_ λ_ _=> ?_
theorem Zo8 (x:Int) (b:Bool):(FK [U x,B b]).isSome=true:=by
 show(Qjh [U x,B b]).isSome=true;rw[Qrw]
 repeat' first|exact rfl|refine Ce (λ_=> ?_) (λ_=> ?_)
theorem Zk1 (x y:Int) (b c:Bool):(ID [I x,I y,B b,B c]).isSome=true:=by
 show(Qm0 [I x,I y,B b,B c]).isSome=true;rw[Q3e]
 repeat' first|exact rfl|refine Ce (λ_=> ?_) (λ_=> ?_)
theorem Z96 (x y:Int):(Gy [I x,I y]).isSome=true:=by
 show(Qkp [I x,I y]).isSome=true;rw[Qwt]
 repeat' first|exact rfl|refine Ce (λ_=> ?_) (λ_=> ?_)
theorem Z4u (x:Int):(Gw [I x]).isSome=true:=by
 show(WB [I x]).isSome=true;rw[Q6r]
 repeat' first|exact rfl|refine Ce (λ_=> ?_) (λ_=> ?_)
theorem Qli {a b c:Int} (G:i64 a) (hb:i64 b) (J:i64 c) (m:Int):(BO [I a,I b,I c,I m]).isSome=true:=
 Zpi Zo8 Zk1 Z96 (λD E L=>by rw[Zdu D E L];rfl) (λD E=>Q6d D E) (λh=>Jo h) Z4u G hb J m
theorem Vz (x:Int):i64 (V x):=Z86 x
theorem Qzd {l:List AC} (h:(M l).isSome=true) {f:List AC->List AC}:((M l).bind λo=>some (f o)).isSome=true:=Gc h λ_ _=>rfl
theorem Qre (D:i64 a) (hb:i64 b):(QV [I a,I b]).isSome=true:=by
 show(YY BO [I a,I b]).isSome=true;have h:=Qli D hb (show i64 4096 by unfold i64;omega) 0;generalize BO=M at*;rw[Z3e];exact Qzd h
theorem Q8e (D:i64 a):(FP [I a]).isSome=true:=by
 show(Uy BO [I a]).isSome=true;have h:=Qli D (show i64 1048576 by unfold i64;omega) (show i64 60000 by unfold i64;omega) 2;generalize BO=M at*;rw[Q5m];exact Qzd h
theorem Qk6 (a b:Int):∃v,Ss [I a,I b]=some [I v]/\i64 v:=by
 refine⟨mx (V (a-b)) (V (b-a)),?_,?_⟩
 ·show Qck [I a,I b]=_;rw[Zne]
 ·have D:=Vz (a-b);have E:=Vz (b-a)
  unfold mx;split<;>assumption
theorem Qvh (a:Int):(HC [I a]).isSome=true:=by
 show(Ql7 [I a]).isSome=true;rw[Zhk]
 repeat' first|exact rfl|refine Ce (λ_=> ?_) (λ_=> ?_)
theorem Zq3 (hb:b≠0):(KB [I a,I b]).isSome=true:=by
 show(Qmm [I a,I b]).isSome=true;rw[Z9i];refine Ce (λc=>absurd (A0 c) hb) λ_=>Ce (λc=>absurd (A0 c) hb) λ_=>Ce (λ_=>rfl) λ_=>rfl
theorem Zm6 (G J L O D:Int) {E:Int} (S:i64 E):(LJ [I G,I J,I L,I O,I D,I E]).isSome=true:=by
 show(Zw FP HC [I G,I J,I L,I O,I D,I E]).isSome=true;have h:=Q8e S;have T:=Qvh D;generalize FP=M at*;generalize HC=N at*;rw[Zpt]
 repeat' first|exact rfl|exact h|exact T|refine Ce (λ_=> ?_) (λ_=> ?_)|refine Gc ?_ λ_ _=> ?_
theorem Z85 (G J L O D:Int) {E:Int} (S:i64 E):(NT [I G,I J,I L,I O,I D,I E]).isSome=true:=by
 show(YK FP HC [I G,I J,I L,I O,I D,I E]).isSome=true;have h:=Q8e S;have T:=Qvh D;generalize FP=M at*;generalize HC=N at*;rw[Zts]
 repeat' first|exact rfl|exact h|exact T|refine Ce (λ_=> ?_) (λ_=> ?_)|refine Gc ?_ λ_ _=> ?_
structure Plan3 (a b c : Int) : Prop where
 a:1<=a/\a<=65536
 b:2<=b/\b<=65536
 c:1<=c/\c<=16777216
abbrev DK (m0 m1 m3 m4 v:Int):List AC:=[I (V (m0+v)),I v,I (V (v-m1)),I m0,I m3,I m4]
theorem Nc (m0 m1 m2 m3 m4 m5 v:Int):J6 [I m0,I m1,I m2,I m3,I m4,I m5,I v]=some (DK m0 m1 m3 m4 v):=by
 show Wk [I m0,I m1,I m2,I m3,I m4,I m5,I v]=some (DK m0 m1 m3 m4 v);rw[Z57]
theorem Dl (a:AC) (l:List AC):nth .vD (a::l) 0=a:=rfl
theorem E3 (a:AC) (l:List AC) (n:Nat):nth .vD (a::l) (n+1)=nth .vD l n:=rfl
theorem Ef (n:Int):Af (.int .i64 n)=n:=rfl
theorem Z9n {x:Ax3} (G:∀u,(M (pxt p x t [I u])).isSome=true) (O:0<=t.length/\t.length<=900000000000000) (D E:Int) (S:E-D<=1000000000000):
  (YL M (Am (Qow M)) (pxt p x t [I D,I E])).isSome=true:=by
 rw[Zu1];have J:0<=mx 0 (mn D t.length)/\mx 0 (mn D t.length)<=t.length/\mx 0 (mn E t.length)-mx 0 (mn D t.length)<=1000000000000/\mx 0 (mn E t.length)<=t.length:=by
  unfold mx mn
  (repeat' split)<;>omega
 obtain⟨T,U,V,X⟩:=J;generalize mx 0 (mn D t.length)=f at*;generalize mx 0 (mn E t.length)=e at*;refine Gc (G _) λo _=> ?_;refine Out.is (p:=λ_=>True) ?_;refine .bind (p:=λo=>o.1=1) ?_ λo g=>by rw[g];exact .some trivial
 show Out _ (Am _ (.vC kPt []::I e::I f::pxt p x t [I (gA o 0),I (gA o 1),I (gA o 2)]));generalize gA o 0=w0;generalize gA o 1=L;generalize gA o 2=N;refine BZ (λs:Rw×Int×Int×Int×Int=> .vC kPt s.1::I e::I s.2.1::pxt p x t [I s.2.2.1,I s.2.2.2.1,I s.2.2.2.2]) (λs=>f<=s.2.1/\s.2.1<=t.length/\(s.1.length:Int)<=3*(s.2.1-f)) (λs=>(e-s.2.1).toNat) _ ?_ ([],f,w0,L,N) (by simp;omega);rintro⟨v,u,Y,a1,a2⟩ ⟨q1,q2,q3⟩;dsimp only at*;rw[Ybi];try dsimp only[Pq]
 rw[Ae (x:=u+1)];refine .cond (λc=> ?_) (λ_=> .some (.inr ⟨by simp,rfl⟩));have c:=A0 c;refine .ibind (G _) λo _=> ?_
 repeat' first
  |(refine .cond (λ_=> ?_) λc=>by rw[BM (by simp;omega)]at c;cases c)
  |refine .cond (λ_=> ?_) (λ_=> ?_)
 all_goals refine Out.some (Or.inl ⟨rfl,(_,u+1,_,_,_),rfl,by simp;omega,by show(e-(u+1)).toNat<(e-u).toNat;omega⟩)
theorem Ya7 {x:Ax3} (h:Fix p x t) (D E:Int) (G:E-D<=1000000000000):(Kx (pxt p x t [I D,I E])).isSome=true:=
 Z9n (λu=>by rw[KI h u];rfl) h.t.q.len D E G
def BK (k b:Int):Int:=if b<=0 then 0 else(b-1)/k*b-k*((b-1)/k*((b-1)/k+1)/2)
def CZ (j k v a:Int):Prop:= -j<=a/\a<=j/\BK k (-a)<=v/\v<=16777216-BK k a/\(v=0->a<=k)
instance (j k v a:Int):Decidable (CZ j k v a):=by unfold CZ;infer_instance
theorem Q7w (G:2<=k/\k<=65536) (hb:0<b/\b<=1048576):
  0<=(b-1)/k/\(b-1)/k<=524288/\k*((b-1)/k)<=b-1/\0<=(b-1)/k*b/\(b-1)/k*b<=549755813888/\0<=(b-1)/k*((b-1)/k+1)/\(b-1)/k*((b-1)/k+1)<=274878431232:=by
 have D:0<=(b-1)/k:=Int.ediv_nonneg (by omega) (by omega);have I:k*((b-1)/k)<=b-1:=Int.mul_ediv_self_le (by omega);have J:2*((b-1)/k)<=k*((b-1)/k):=fu G.1 D;have E:(b-1)/k<=524288:=by omega
 have L:(b-1)/k*b<=524288*1048576:=f6 E hb.2 (by omega) (by omega);have M:(b-1)/k*((b-1)/k+1)<=524288*524289:=f6 E (by omega) (by omega) (by omega);exact⟨D,E,I,gq D (by omega),by omega,gq D (by omega),by omega⟩
theorem Je (h:b<=0):BK k b=0:=by simp[BK,h]
theorem Ww (h:b<=k):BK k b=0:=by
 unfold BK;split
 ·rfl
 ·rw[Int.ediv_eq_zero_of_lt (by omega) (by omega)];simp
theorem Znb (m:Int):m*(m+1)/2=(m-1)*m/2+m:=by
 have:m*(m+1)=(m-1)*m+m*2:=by
  rw[Int.sub_mul,Int.mul_add,Int.mul_one,jp];omega
 rw[this,Int.add_mul_ediv_right _ _ (by omega)]
theorem QL (D:0<k) (h:k<b):BK k b=(b-k)+BK k (b-k):=by
 have e1:(b-1)/k=(b-k-1)/k+1:=by
  have:b-1=(b-k-1)+k*1:=by omega
  rw[this,Int.add_mul_ediv_left _ _ (by omega)]
 unfold BK;rw[ab,ab,e1];generalize(b-k-1)/k=m;rw[Znb (m+1)];have e2:m+1-1=m:=by omega
 rw[e2,Int.mul_add k,j0 m 1 b,Int.mul_sub m b k,Int.mul_add k m 1,j9 k m];omega
theorem Qu4 {k:Int} (D:0<k):∀(n:Nat) (b:Int),b<=n->0<=BK k b
 |0,b,h=>by rw[Je (by omega)];omega
 |n+1,b,h=>by
  by_cases hb:b<=k
  ·rw[Ww hb];omega
  ·rw[QL D (by omega)];have:=Qu4 D n (b-k) (by omega);omega
theorem Ij (D:0<k):0<=BK k b:=Qu4 D b.toNat b (by omega)
theorem Qun {k:Int} (D:0<k):∀(n:Nat) (b:Int),b<=n->BK k b<=BK k (b+1)
 |0,b,h=>by rw[Je (by omega)];exact Ij D
 |n+1,b,h=>by
  by_cases hb:b<=k
  ·rw[Ww hb];exact Ij D
  ·rw[QL D (b:=b) (by omega),QL D (b:=b+1) (by omega)];have:=Qun D n (b-k) (by omega);have e:b+1-k=b-k+1:=by omega
   rw[e];omega
theorem Qw7 {k:Int} (D:0<k):∀(n:Nat) (b:Int),BK k b<=BK k (b+n)
 |0,b=>by simp
 |n+1,b=>by
  have E:=Qw7 D n b;have G:=Qun D (b+n).toNat (b+n) (by omega);have e:b+((n+1:Nat):Int)=b+n+1:=by omega
  rw[e];omega
theorem Z8o {k b c:Int} (D:0<k) (h:b<=c):BK k b<=BK k c:=by
 have:=Qw7 D (c-b).toNat b;have e:b+((c-b).toNat:Int)=c:=by omega
 rwa [e]at this
theorem Qz0 (D:2<=k/\k<=65536) (hb:b<=1048576):BK k b<=549755813888:=by
 unfold BK;split
 ·omega
 ·have p:=Q7w (k:=k) (b:=b) D ⟨by omega,hb⟩;generalize(b-1)/k=m at p⊢;obtain⟨E,G,I,J,L,M,N⟩:=p;have O:0<=k*(m*(m+1)/2):=gq (by omega) (by omega);omega
def bs (k v:Int):Nat->Int->Int->Int
 |0,low,_=>low
 |n+1,low,aY=>if low<aY then
   if BK k (aY-(aY-low)/2)<=v-(aY-(aY-low)/2)then bs k v n (aY-(aY-low)/2) aY else bs k v n low (aY-(aY-low)/2-1)
  else low
def AH (j k v a:Int):Int:= -(bs k v 20 (-a-k) (min (k-a) j))
theorem Qoz (k v:Int):∀(n:Nat) (low aY:Int),low<=bs k v n low aY/\bs k v n low aY<=max low aY
 |0,low,aY=>by simp only[bs];omega
 |n+1,low,aY=>by
  unfold bs;split
  ·split
   ·have:=Qoz k v n (aY-(aY-low)/2) aY;omega
   ·have:=Qoz k v n low (aY-(aY-low)/2-1);omega
  ·omega
theorem Qon (k v:Int):∀(n:Nat) (low aY:Int),low<=aY->aY-low<2^n->BK k low<=v-low->
  BK k (bs k v n low aY)<=v-bs k v n low aY/\low<=bs k v n low aY/\bs k v n low aY<=aY/\(bs k v n low aY=aY\/v-(bs k v n low aY+1)<BK k (bs k v n low aY+1))
 |0,low,aY,G,J,E=>by
  simp only[bs];have:aY-low<1:=by simpa using J
  exact⟨E,by omega,G, .inl (by omega)⟩
 |n+1,low,aY,G,J,E=>by
  have L:(2:Int)^(n+1)=2*2^n:=by rw[Int.pow_succ];omega
  unfold bs;by_cases D:low<aY
  ·rw[aa D];by_cases I:BK k (aY-(aY-low)/2)<=v-(aY-(aY-low)/2)
   ·rw[aa I];obtain⟨a,b,c,d⟩:=Qon k v n (aY-(aY-low)/2) aY (by omega) (by omega) I;exact⟨a,by omega,c,d⟩
   ·rw[ab I];obtain⟨a,b,c,d⟩:=Qon k v n low (aY-(aY-low)/2-1) (by omega) (by omega) E;refine⟨a,b,by omega, .inr ?_⟩;rcases d with d|d
    ·have e:bs k v n low (aY-(aY-low)/2-1)+1=aY-(aY-low)/2:=by omega
     rw[e];omega
    ·exact d
  ·rw[ab D];exact⟨E,by omega,G, .inl (by omega)⟩
theorem TZ (L:Plan3 j k r) (M:CZ j k v a) {B:Int} (N:B=bs k v 20 (-a-k) (min (k-a) j)):
  BK k B<=v-B/\ -a-k<=B/\B<=k-a/\B<=j/\(B=min (k-a) j\/v-(B+1)<BK k (B+1))/\0<=v:=by
 obtain⟨⟨U,V⟩,⟨X,Y⟩,p5,p6⟩:=L;obtain⟨h1,h2,O,h4,h5⟩:=M;have E:0<k:=by omega
 have l0:=Ij (b:= -a) E;have D:BK k (-a-k)<=v-(-a-k):=by
  by_cases S:k< -a
  ·rw[QL E S]at O;omega
  ·rw[Je (by omega)];omega
 obtain⟨G,I,T,J⟩:=Qon k v 20 (-a-k) (min (k-a) j) (by omega) (by simp;omega) D;rw[<-N]at G I T J;exact⟨G,I,by omega,by omega,J,by omega⟩
theorem closed (J:Plan3 j k r) (L:CZ j k v a):
  CZ j k (v+AH j k v a) (AH j k v a)/\AH j k v a-a<=k/\a-AH j k v a<=k/\(0<a\/(v=0/\AH j k v a=0)\/AH j k v a<0):=by
 obtain⟨B,M⟩:∃B,B=bs k v 20 (-a-k) (min (k-a) j):=⟨_,rfl⟩;have hb:AH j k v a= -B:=by unfold AH;rw[M]
 obtain⟨Y,q2,q3,q4,D,q6⟩:=TZ J L M;rw[hb];obtain⟨⟨p1,p2⟩,⟨p3,p4⟩,p5,p6⟩:=J;obtain⟨h1,h2,h3,h4,h5⟩:=L;have I:0<k:=by omega
 have top:B+1<=0->B=min (k-a) j:=by
  intro h;rcases D with D|D
  ·exact D
  ·rw[Je h]at D;omega
 have S: -a<=B\/0<=B:=by
  by_cases E:B+1<=0
  ·have:=top E;omega
  ·right;omega
 have G:a<=0->0<=B:=λN=>by
  by_cases E:B+1<=0
  ·have:=top E;omega
  ·omega
 have la:=Ij (b:=a) I;have T: -j<=B:=by
  by_cases E:B+1<=0
  ·have:=top E;omega
  ·omega
 have e1: -(-B)=B:=by omega
 refine⟨⟨by omega,by omega,by rw[e1];omega,?_,?_⟩,by omega,by omega,?_⟩
 ·by_cases E:0<=B
  ·rw[Je (b:= -B) (by omega)];omega
  ·have ht:=top (by omega);have U:B=k-a:=by omega
   have e2: -B=a-k:=by omega
   have hs:=QL (k:=k) (b:=a) I (by omega);rw[e2];omega
 ·intro O;omega
 ·by_cases N:0<a
  ·exact .inl N
  ·right;have V:=G (by omega);by_cases O:v=0
   ·left;have:=Ij (b:=B) I;exact⟨O,by omega⟩
   ·right;by_cases X:B=0
    ·rcases D with D|D
     ·omega
     ·rw[X,Ww (k:=k) (b:=0+1) (by omega)]at D;omega
    ·omega
def BS (j k:Int):Nat->Int->Int->List Int×Bool
 |0,v,_=>([],decide (v<=0))
 |n+1,v,a=>if v<=0 then([],true)else((v+AH j k v a)::(BS j k n (v+AH j k v a) (AH j k v a)).1,(BS j k n (v+AH j k v a) (AH j k v a)).2)
theorem Zdy (j k:Int):∀(n:Nat) (v a:Int),(BS j k n v a).2=true->BS j k (n+1) v a=BS j k n v a
 |0,v,a,h=>by
  have h:v<=0:=of_decide_eq_true h;unfold BS;rw[aa h];show([],true)=([],decide (v<=0));rw[al h]
 |n+1,v,a,h=>by
  unfold BS at h⊢;by_cases c:v<=0
  ·rw[aa c,aa c]
  ·rw[ab c]at h;rw[ab c,ab c,Zdy j k n _ _ h]
theorem DH (D:Plan3 j k r) (E:CZ j k v a): -65536<=a/\a<=65536/\0<=v/\v<=16777216:=by
 obtain⟨G,I,J,L,-⟩:=E;have M:=D.a;have N:=D.b
 have O:=Ij (k:=k) (b:=a) (by omega);have S:=Ij (k:=k) (b:= -a) (by omega);omega
end Go.Bm
noncomputable section
namespace Go.Bm
theorem Zf2 {a k c:Int} (D:2<=k/\k<=65536) {d:Int} (J:d<=1048576):Hg [I a,I k,I c,I d]=some [I (BK k d)]:=by
 show Vl _=_;rw[Qfg];by_cases h:d<=0
 ·rw[BX (al h),Je h]
 ·rw[BG (am h),BG (am (by omega)),BG (am (by omega))];obtain⟨L,M,N,O,S,E,T⟩:=Q7w D (show 0<d/\d<=1048576 by omega);rw[Ae (x:=d-1),ap (show 0<=d-1 by omega)];unfold BK;rw[ab h];have U:0<=k*((d-1)/k*((d-1)/k+1)/2):=gq (by omega) (by omega);have G:k*((d-1)/k*((d-1)/k+1)/2)<=65536*274878431232:=f6 D.2 (by omega) (by omega) (by omega);generalize V:(d-1)/k=q at*;rw[Ae (x:=q),Ae (x:=q*d),Ae (x:=q+1),Ae (x:=q*(q+1)),ap E];generalize q*(q+1)=y at*;generalize q*d=z at*;rw[Ae (x:=y/2),Ae (x:=k*(y/2)),Ae]
theorem Zmb {a k c:Int} (J:Plan3 a k c) (L:∀{d:Int},d<=1048576->M [I a,I k,I c,I d]=some [I (BK k d)]) (v x:Int):Rj M [I a,I k,I c,I v,I x]=some [B (decide (CZ a k v x))]:=by
 have O:=J.a;have N:=J.b
 rw[ZM,Ae (x:=0-a)];refine eC (λh=> ?_) λh=> ?_
 ·have h:x<0-a:=A0 h;rw[am (λq=>by have:=q.1;omega)]
 have h: ¬x<0-a:=AU h;refine eC (λE=> ?_) λE=> ?_
 ·have E:x>a:=A0 E;rw[am (λq=>by have:=q.2.1;omega)]
 have E: ¬x>a:=AU E;have S:=Qz0 (b:= -x) N (by omega);have T:=Qz0 (b:=x) N (by omega);have U:=Ij (k:=k) (b:=x) (by omega);have fin: ¬(v=0/\x>k)->((M [I a,I k,I c,I (V (0-x))]).bind λo=>bif decide (v>=gA o 0)then(M [I a,I k,I c,I x]).bind λo2=>some [B (decide (v<=V (16777216-gA o2 0)))]else some [B false])=some [B (decide (CZ a k v x))]:=λX=>by
  rw[Ae (x:=0-x),show(0:Int)-x= -x by omega];refine eB (L (by omega)) (eC (λq=> ?_) λq=> ?_)
  ·have q:v>=BK k (-x):=A0 q;refine eB (L (by omega)) ?_;show some [B (decide (v<=V (16777216-BK k x)))]=_;rw[Ae];have e:(v<=16777216-BK k x)↔CZ a k v x:=⟨λe=>⟨by omega,by omega,q,e,λz=>by omega⟩,λe=>e.2.2.2.1⟩;rw[decide_eq_decide.2 e]
  ·have q: ¬v>=BK k (-x):=AU q;rw[am (λw=>q w.2.2.1)]
 refine eC (λD=>eC (λG=> ?_) λG=> ?_) λD=> ?_
 ·have D:v=0:=eq_of_beq D;have G:x>k:=A0 G;rw[am (λq=>by have:=q.2.2.2.2 D;omega)]
 ·exact fin λw=>AU G w.2
 ·exact fin λw=>by rw[beT w.1]at D;cases D
theorem Zyw {a k c:Int} (D:Plan3 a k c) (v x:Int):G6 [I a,I k,I c,I v,I x]=some [B (decide (CZ a k v x))]:=Zmb D (λE=>Zf2 D.b E) v x
theorem Zio:∀(n:Nat) {low aY:Int},¬low<aY->bs k v n low aY=low
 |0,_,_,_=>rfl
 |n+1,_,_,h=>by unfold bs;rw[ab h]
theorem Z6a {M MV:Fn} {a k c v:Int} (J:∀{d:Int},d<=1048576->M [I a,I k,I c,I d]=some [I (BK k d)]) (N: -1099511627776<=v/\v<=1099511627776):∀(n:Nat) (low aY:Int),aY-low<2^n-> -262144<=low->aY<=262144->low<=262144-> -262145<=aY->
  Am (NH M MV) [I v,I low,I aY,I a,I k,I c]=some (1,[I (bs k v n low aY)]):=by
 have D:∀(n:Nat) {low aY:Int},¬low<aY->Am (NH M MV) [I v,I low,I aY,I a,I k,I c]=some (1,[I (bs k v n low aY)]):=λn low aY h=>by
  rw[Zio n h];refine Bg ?_ (by simp);rw[YD,BG (am h)]
 intro n;induction n with
 |zero=>
  intro low aY h _ _ _ _;have h:aY-low<1:=by simpa using h
  exact D 0 (by omega)
 |succ n G=>
  intro low aY h O S T U;have L:(2:Int)^(n+1)=2*2^n:=by rw[Int.pow_succ];omega
  rw[L]at h;by_cases cc:low<aY
  ·have e1:V (aY-V ((V (aY-low)).tdiv 2))=aY-(aY-low)/2:=by
    rw[Ae (x:=aY-low),ap (show 0<=aY-low by omega),Ae (x:=(aY-low)/2),Ae]
   have e2:V (v-(aY-(aY-low)/2))=v-(aY-(aY-low)/2):=Ae;have e3:V (aY-(aY-low)/2-1)=aY-(aY-low)/2-1:=Ae;have E:=YD M MV v low aY a k c;rw[BX (al cc),e1,e2,e3,J (by omega)]at E;unfold bs;rw[aa cc];by_cases q:BK k (aY-(aY-low)/2)<=v-(aY-(aY-low)/2)
   ·rw[aa q];rw[BE (E.trans (eB rfl (eT (al (show v-(aY-(aY-low)/2)>=BK k (aY-(aY-low)/2)from q)) rfl)))];exact G _ _ (by omega) (by omega) (by omega) (by omega) (by omega)
   ·rw[ab q];rw[BE (E.trans (eB rfl (eF (am (show¬v-(aY-(aY-low)/2)>=BK k (aY-(aY-low)/2)from q)) rfl)))];exact G _ _ (by omega) (by omega) (by omega) (by omega) (by omega)
  ·exact D (n+1) cc
theorem Zji {a k c v x:Int} (D:Plan3 a k c) (E:CZ a k v x) (G:∀{d:Int},d<=1048576->M [I a,I k,I c,I d]=some [I (BK k d)]) (J:Z [I a,I k,I c]=some [B true]):
  T9 M Z (Am (NH M Z)) [I a,I k,I c,I v,I x]=some [I (AH a k v x)]:=by
 have L:=DH D E;have N:=D.a;have O:=D.b
 rw[Zdf];have m1:mx x v=max x v:=by unfold mx;split<;>omega
 have m2:mn x v=min x v:=by unfold mn;split<;>omega
 rw[m1,m2];refine eB J (eF rfl (eF (am (by omega)) (eF (am (by omega)) ?_)));have m3:mn (V (k-x)) a=min (k-x) a:=by rw[Ae (x:=k-x)];unfold mn;split<;>omega
 rw[m3,Ae (x:=0-x),Ae (x:=0-x-k),show(0:Int)-x-k= -x-k by omega];refine eB (Z6a (MV:=Z) G (by omega) 20 (-x-k) (min (k-x) a) (by simp;omega) (by omega) (by omega) (by omega) (by omega)) (eT rfl ?_);have hb:=Qoz k v 20 (-x-k) (min (k-x) a);show some [I (V (0-bs k v 20 (-x-k) (min (k-x) a)))]=_;unfold AH;rw[Ae,Int.zero_sub]
theorem Q2n {a k c:Int} (D:Plan3 a k c):FO [I a,I k,I c]=some [B true]:=by
 rw[Rp,al];exact⟨D.a.1,D.a.2,D.b.1,D.b.2,D.c.1,D.c.2⟩
theorem Qvb {a k c v x:Int} (D:Plan3 a k c) (E:CZ a k v x):FX [I a,I k,I c,I v,I x]=some [I (AH a k v x)]:=
 Zji D E (λG=>Zf2 D.b G) (Q2n D)
def AJ (a k v x:Int):List Int×Bool:=if CZ a k v x/\(BS a k 4096 v x).2=true then((BS a k 4096 v x).1,true)else([],false)
theorem Zm8 {D MR MV:Fn} {a k c:Int} (G:Plan3 a k c) (O:∀{v x:Int},CZ a k v x->D [I a,I k,I c,I v,I x]=some [I (AH a k v x)]):∀(n:Nat) (pre:List Int) (v x:Int),pre.length+n=4096->CZ a k v x->
  Am (IV D MR MV) [.vC Aa (pre.map Ai),I v,I x,I a,I k,I c]=if(BS a k n v x).2=true then some (2,[.vC Aa ((pre++(BS a k n v x).1).map Ai)])else some (1,[B false]):=by
 have fin:∀(n:Nat) (pre:List Int) (v x:Int),v<=0->Am (IV D MR MV) [.vC Aa (pre.map Ai),I v,I x,I a,I k,I c]=if(BS a k n v x).2=true then some (2,[.vC Aa ((pre++(BS a k n v x).1).map Ai)])else some (1,[B false]):=λn pre v x h=>by
  have e:BS a k n v x=([],true):=by
   cases n with
   |zero=>show([],decide (v<=0))=([],true);rw[al h]
   |succ n=>unfold BS;rw[aa h]
  rw[e,aa rfl];refine Bg ?_ (by simp);rw[Rv,BG (am (by omega)),jv]
 intro n;induction n with
 |zero=>
  intro pre v x S E;by_cases h:v<=0
  ·exact fin 0 pre v x h
  ·have e:BS a k 0 v x=([],false):=by show([],decide (v<=0))=([],false);rw[am h]
   rw[e,ab (by simp)];refine Bg ?_ (by simp);rw[Rv,BX (al (by omega)),BX (beT (by rw[ac];omega))]
 |succ n T=>
  intro pre v x S E;by_cases h:v<=0
  ·exact fin (n+1) pre v x h
  ·have L:=closed G E;have U:=DH G E;have M:=DH G L.1;have N:=Rv D MR MV (pre.map Ai) v x a k c;rw[BX (al (by omega)),BG (beF (by rw[ac];omega)),O E]at N;have X:V (v+AH a k v x)=v+AH a k v x:=Ae;have J:IV D MR MV [.vC Aa (pre.map Ai),I v,I x,I a,I k,I c]=some (0,[.vC Aa ((pre++[v+AH a k v x]).map Ai),I (v+AH a k v x),I (AH a k v x),I a,I k,I c]):=by
    refine N.trans (eB rfl ?_);show cond ((List.length (pre.map Ai++[[I (V (v+AH a k v x))]])*8).ble 140737488355328) (some (0,[AC.vC Aa (pre.map Ai++[[I (V (v+AH a k v x))]]),I (V (v+AH a k v x)),I (AH a k v x),I a,I k,I c])) none=_;rw[X,BM (by simp;omega),bn];rfl
   rw[BE J,T (pre++[v+AH a k v x]) _ _ (by simp;omega) L.1];have e:BS a k (n+1) v x=((v+AH a k v x)::(BS a k n (v+AH a k v x) (AH a k v x)).1,(BS a k n (v+AH a k v x) (AH a k v x)).2):=by
    show(if v<=0 then _ else _)=_;rw[ab h]
   rw[e];simp only[dk,ay,az]
theorem Z4v {a k c:Int} (E:Plan3 a k c) (G:∀{v x:Int},CZ a k v x->M [I a,I k,I c,I v,I x]=some [I (AH a k v x)]) (J:W [I a,I k,I c]=some [B true])
  (L:∀v x,Z [I a,I k,I c,I v,I x]=some [B (decide (CZ a k v x))]) (v x:Int):
  RE M Z W (Am (IV M Z W)) [I a,I k,I c,I v,I x]=some [.vC Aa ((AJ a k v x).1.map Ai),B (AJ a k v x).2]:=by
 rw[Xe];refine eB J (eF rfl (eB (L v x) ?_));unfold AJ;refine eC (λh=> ?_) λh=> ?_
 ·have h: ¬CZ a k v x:=by
   intro q;have h:(!decide (CZ a k v x))=true:=h;rw[al q]at h;cases h
  rw[ab (λw=>h w.1)];rfl
 ·have h:CZ a k v x:=by
   have h:(!decide (CZ a k v x))=false:=h;by_cases q:CZ a k v x
   ·exact q
   ·rw[am q]at h;cases h
  have D:=Zm8 (MR:=Z) (MV:=W) E G 4096 [] v x (by simp) h;by_cases q:(BS a k 4096 v x).2=true
  ·rw[aa q]at D;rw[aa ⟨h,q⟩];exact eB D rfl
  ·rw[ab q]at D;rw[ab (λw=>q w.2)];exact eB D rfl
theorem Zer {a k c:Int} (D:Plan3 a k c) (v x:Int):K9 [I a,I k,I c,I v,I x]=some [.vC Aa ((AJ a k v x).1.map Ai),B (AJ a k v x).2]:=
 Z4v D (λE=>Qvb D E) (Q2n D) (Zyw D) v x
def Bn (u:Int):List Int->List Int
 |[]=>[]
 |v::l=>(u+v)::Bn (u+v) l
def BH (u:Int):List Int->Int
 |[]=>u
 |v::l=>BH (u+v) l
theorem Q1m (v:Int):∀(u:Int) (l:List Int),Bn u (l++[v])=Bn u l++[BH u l+v]
 |_,[]=>rfl
 |u,w::l=>by simp only[ay,Bn,BH,Q1m v (u+w) l]
theorem Qui (v:Int):∀(u:Int) (l:List Int),BH u (l++[v])=BH u l+v
 |_,[]=>rfl
 |u,w::l=>by simp only[ay,BH,Qui v (u+w) l]
theorem Ir:∀(u:Int) (l:List Int),(Bn u l).length=l.length
 |_,[]=>rfl
 |u,w::l=>by simp[Bn,Ir (u+w) l]
theorem Tz:∀(u:Int) (l:List Int),l≠[]->(Bn u l)[(Bn u l).length-1]? =some (BH u l)
 |u,[v],_=>rfl
 |u,v::w::l,_=>by
  have h:=Tz (u+v) (w::l) (by simp);rw[Ir]at h⊢;simpa [Bn,BH]using h
theorem V9 {N:Int}:∀(u:Int) (l:List Int),(∀v∈l,0<=v/\v<=N)->u<=BH u l/\BH u l<=u+l.length*N
 |u,[],_=>by simp[BH]
 |u,v::l,h=>by
  have E:=h v (by simp);have G:=V9 (N:=N) (u+v) l λw D=>h w (by simp[D]);simp only[BH,bh];have e:((l.length+1:Nat):Int)*N=l.length*N+N:=by
   rw[ii,j0];simp
  rw[e];omega
theorem Q4m {a k c:Int} (D:Plan3 a k c):∀(n:Nat) (v x:Int),CZ a k v x->(BS a k n v x).1.length<=n/\∀w∈(BS a k n v x).1,0<=w/\w<=16777216
 |0,v,x,_=>⟨by simp[BS],λw h=>by simp[BS]at h⟩
 |n+1,v,x,h=>by
  have G:=closed D h;have J:=DH D G.1;have I:=Q4m D n _ _ G.1;unfold BS;by_cases q:v<=0
  ·rw[aa q];exact⟨by simp,λw h=>by cases h⟩
  ·rw[ab q];refine⟨by simp only[bh];omega,λw E=> ?_⟩;rcases ao.1 E with rfl|E
   ·omega
   ·exact I.2 w E
theorem LQ {a k c:Int} (D:Plan3 a k c) (v x:Int):(AJ a k v x).1.length<=4096/\∀w∈(AJ a k v x).1,0<=w/\w<=16777216:=by
 unfold AJ;split
 ·rename_i h;exact Q4m D 4096 v x h.1
 ·exact⟨by simp,λw h=>by cases h⟩
theorem Z7z {α:Type} (l:List α) (x y:α) (r:List α):(l++x::r).set l.length y=l++y::r:=by
 rw[List.set_append_right _ _ (cx _)];simp
theorem Z0b (Y: -1000000000000000<=u/\u<=1000000000000000) (hl:L.length<=4096) (D:∀v∈L,0<=v/\v<=16777216):
  Am (Il M) [.vC Aa (List.replicate L.length [I 0]),I u, .vC Aa (L.map Ai),I L.length,I 0]=some (1,[.vC Aa ((Bn u L).map Ai)]):=by
 have key:Out (λo=>o=(1,[.vC Aa ((Bn u L).map Ai)])) (Am (Il M) [.vC Aa ((Bn u (L.take 0)).map Ai++List.replicate (L.length-0) [I 0]),I (BH u (L.take 0)), .vC Aa (L.map Ai),I L.length,I ((0:Nat):Int)]):=by
  refine BZ (λi:Nat=>[.vC Aa ((Bn u (L.take i)).map Ai++List.replicate (L.length-i) [I 0]),I (BH u (L.take i)), .vC Aa (L.map Ai),I L.length,I (i:Int)]) (λi=>i<=L.length) (λi=>L.length-i) _ ?_ 0 (by simp);intro i E;rw[Qgx];refine .cond (λc=> ?_) λc=> ?_
  ·have c:(i:Int)<(L.length:Int):=A0 c;have E:i<L.length:=by omega
   refine .cond (λ_=> ?_) λe=>(inB (by omega) (by rw[ac];exact c) e).elim;refine .cond (λ_=> ?_) λe=>(inB (by omega) (by simp[Ir];omega) e).elim;have J:nth [] (L.map Ai) (i:Int).toNat=Ai L[i]:=by
    rw[aj,HH [] _ i (by rw[ac];exact E),gj]
   have O:=V9 (N:=16777216) u (L.take i) λv G=>D v (dx G);rw[List.length_take_of_le (by omega)]at O;have G:=D _ (bf E);have S:L.take (i+1)=L.take i++[L[i]]:=by
    rw[fo,ag E];rfl
   rw[J];show Out _ (some (0,[AC.vC Aa (((Bn u (L.take i)).map Ai++List.replicate (L.length-i) [I 0]).set (i:Int).toNat [I (V (BH u (L.take i)+L[i]))]),I (V (BH u (L.take i)+L[i])), .vC Aa (L.map Ai),I L.length,I (V ((i:Int)+1))]));rw[Ae (x:=BH u (L.take i)+L[i]),Ae (x:=(i:Int)+1),aj];refine .some (.inl ⟨rfl,i+1,?_,by omega,by omega⟩);have T:((Bn u (L.take i)).map Ai).length=i:=by rw[ac,Ir,List.length_take_of_le (by omega)]
   have U:L.length-i=(L.length-(i+1))+1:=by omega
   rw[S,Q1m,Qui,U,jo,bn];have:=Z7z ((Bn u (L.take i)).map Ai) [I 0] [I (BH u (L.take i)+L[i])] (List.replicate (L.length-(i+1)) [I 0]);rw[T]at this;rw[this];simp;rfl
  ·have c: ¬(i:Int)<(L.length:Int):=AU c;refine .some (.inr ⟨by simp,?_⟩);rw[ip (by omega),show L.length-i=0 by omega];simp
 obtain⟨o,X,rfl⟩:=key;exact X
theorem Zuj {a k c v x:Int} (D:M [I a,I k,I c,I v,I x]=some [.vC Aa ((AJ a k v x).1.map Ai),B (AJ a k v x).2]) (hb:(AJ a k v x).1.length<=4096/\∀w∈(AJ a k v x).1,0<=w/\w<=16777216)
  {u:Int} (E: -1000000000000000<=u/\u<=1000000000000000) (G J L:Int) (N:(AJ a k v x).2=false->(AJ a k v x).1=[]):
  PX M (Am (Il M)) [I a,I k,I c,I u,I v,I x,I G,I J,I L]=some [.vC Aa ((Bn u (AJ a k v x).1).map Ai),B (AJ a k v x).2]:=by
 rw[Um];generalize AJ a k v x=z at*;refine eB D (eC (λh=> ?_) λh=> ?_)
 ·have h:z.2=false:=by simpa [bA,nth,CU]using h
  rw[h,N h];rfl
 ·have h:z.2=true:=by simpa [bA,nth,CU]using h
  refine eT (al rfl) (eT ?_ ?_)
  ·show(decide (0<=((z.1.map Ai).length:Int))&&decide (((z.1.map Ai).length:Int)*8<=140737488355328))=true;rw[ac,al (show(0:Int)<=(z.1.length:Int) by omega),al (show(z.1.length:Int)*8<=140737488355328 by omega)];rfl
  ·have O:=Z0b (M:=M) E hb.1 hb.2;refine co (ik (λq=>Option.bind q _) (show Am (Il M) [.vC Aa (List.replicate ((z.1.map Ai).length:Int).toNat [I 0]),I u, .vC Aa (z.1.map Ai),I (z.1.map Ai).length,I 0]=some (1,[.vC Aa ((Bn u z.1).map Ai)])from by rw[ac,aj];exact O)) ?_;rw[h];rfl
theorem Qrn {a k c:Int} (D:Plan3 a k c) {u:Int} (L: -1000000000000000<=u/\u<=1000000000000000) (v x E G J:Int):
  Fc [I a,I k,I c,I u,I v,I x,I E,I G,I J]=some [.vC Aa ((Bn u (AJ a k v x).1).map Ai),B (AJ a k v x).2]:=
 Zuj (Zer D v x) (LQ D v x) L E G J λh=>by
  unfold AJ at h⊢;split at h
  ·cases h
  ·rename_i q;rw[ab q]
end Go.Bm
