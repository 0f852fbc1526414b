/- laid together -/
import Derived.Test.YtnnpdlgenmnekaaGreatDoorPrAtF
import Derived.Test.YtnnpdlgenmnekaaGreatDoorMx3
import Derived.Lib.ItoaNum
set_option linter.unusedVariables false
set_option linter.unusedSimpArgs false
set_option maxRecDepth 100000
open Go.IntKind (wrap)
variable {i A y q R J:Nat} {a k b v u r d j:Int} {p:Go.Bm.Pth} {M Z W T S P O:Go.Bm.Fn} {t:Go.Bm.Trk} {l:Go.Bm.Rw} {Q:Int->Go.Bm.Pt->Prop} {N:Go.Bm.Lp} {g:Go.Bm.Sgm} {H G o:Go.Bm.Pt}
namespace Go.Bm
open Classical
theorem Zru {α:Type} (d x:α) (l:List α):nth d (x::l) 40=nth d l 39:=by simp[nth]
theorem Zw9 {α:Type} (d x:α) (l:List α):nth d (x::l) 41=nth d l 40:=by simp[nth]
theorem Z45 {α:Type} (d x:α) (l:List α):nth d (x::l) 42=nth d l 41:=by simp[nth]
theorem Zp4 {α:Type} (d x:α) (l:List α):nth d (x::l) 43=nth d l 42:=by simp[nth]
theorem Z11 {α:Type} (d x:α) (l:List α):nth d (x::l) 44=nth d l 43:=by simp[nth]
theorem Zkl {α:Type} (d x:α) (l:List α):nth d (x::l) 45=nth d l 44:=by simp[nth]
theorem Zs1 {α:Type} (d x:α) (l:List α):nth d (x::l) 46=nth d l 45:=by simp[nth]
theorem Zqs {α:Type} (d x:α) (l:List α):nth d (x::l) 47=nth d l 46:=by simp[nth]
theorem Zoi {α:Type} (d x:α) (l:List α):nth d (x::l) 48=nth d l 47:=by simp[nth]
theorem Zyy {α:Type} (d x:α) (l:List α):nth d (x::l) 49=nth d l 48:=by simp[nth]
theorem Z33 {α:Type} (d x:α) (l:List α):nth d (x::l) 50=nth d l 49:=by simp[nth]
theorem Zuz {α:Type} (d x:α) (l:List α):nth d (x::l) 51=nth d l 50:=by simp[nth]
theorem Z51 {α:Type} (d x:α) (l:List α):nth d (x::l) 52=nth d l 51:=by simp[nth]
theorem Z50 {α:Type} (d x:α) (l:List α):nth d (x::l) 53=nth d l 52:=by simp[nth]
theorem Z3d {α:Type} (d x:α) (l:List α):nth d (x::l) 54=nth d l 53:=by simp[nth]
theorem Z59 {α:Type} (d x:α) (l:List α):nth d (x::l) 55=nth d l 54:=by simp[nth]
attribute [go_sem] Zru Zw9 Z45 Zp4 Z11 Zkl Zs1 Zqs Zoi Zyy Z33 Zuz Z51 Z50 Z3d Z59
theorem J4 (a b:Int):mn a b=min a b:=by unfold mn;rw[Int.min_def];split<;>split<;>omega
theorem NM (a b:Int):mx a b=max a b:=by unfold mx;rw[Int.max_def];split<;>split<;>omega
def Tp (now a b mv:Int):Int:=if b>a then mv else if b<a then-mv else now
def DW (now a b:Pt) (mv:Int):Pt:=⟨Tp now.x a.x b.x mv,Tp now.y a.y b.y mv,Tp now.z a.z b.z mv⟩
def slk (was aT n v:Int):Int:=if was=aT then v else max v n
def CV (x:Ax3) (was aT:Pt):Int:=slk was.z aT.z x.c.bB (slk was.y aT.y x.b.bB (slk was.x aT.x x.a.bB 0))
def pc0:Pce:=⟨0,0,0,0,⟨0,0,0⟩,⟨0,0,0⟩⟩
def Bd (l:List Pce):Pce:=l.getD (l.length-1) pc0
def Fz (t:Trk) (c:Pce):Trk:=
 if t.aE≠[]/\c.bC≠0/\(Bd t.aE).bC=c.bC/\(Bd t.aE).aT=c.aT then
  {t with aE:=t.aE.set (t.aE.length-1) {Bd t.aE with aR:=(Bd t.aE).aR+c.aR},length:=t.length+c.aR}
 else{t with aE:=t.aE++[{c with at_:=t.length}],length:=t.length+c.aR}
def Az (l:List Sgm) (i:Nat):Int:=AX (l.take i)
def Ct (x:Ax3) (mv:Int) (a b:Pt) (s aR:Int) (D:Trk×Pt):Trk×Pt:=
 (Fz (if CV x D.2 (DW D.2 a b mv) > 0 then Fz D.1 ⟨0, CV x D.2 (DW D.2 a b mv), s, 0, D.2, DW D.2 a b mv⟩ else D.1)
  ⟨0,aR,s,mv,DW D.2 a b mv,DW D.2 a b mv⟩,DW D.2 a b mv)
def Iz (p:Pth) (x:Ax3) (mv lo D:Int) (i:Nat) (s:Trk×Pt):Trk×Pt:=
 if max (Az p.aF i) lo<min (Az p.aF (i+1)) D then
  Ct x mv (EV p.aQ p.aF i) (sgA p.aF i).to (if mv<0 then min (Az p.aF (i+1)) D else max (Az p.aF i) lo) (min (Az p.aF (i+1)) D-max (Az p.aF i) lo) s
 else s
def Em (n:Nat) (mv:Int) (j:Nat):Nat:=if mv<0 then n-1-j else j
def Cz (p:Pth) (x:Ax3) (mv lo D:Int) (G:Trk×Pt):Nat->Trk×Pt
 |0=>G
 |j+1=>Iz p x mv lo D (Em p.aF.length mv j) (Cz p x mv lo D G j)
def B7 (n D:Int):Int:=max 0 (min n D)
def Ez (p:Pth) (x:Ax3) (d:Pt) (from_ to:Int):Trk:=
 let n:=AX p.aF
 let f:=B7 from_ n
 let t:=B7 to n
 (Cz p x (if f>t then-1 else 1) (min f t) (max f t) (⟨[],0,f,d⟩,d) p.aF.length).1
structure Ax3OK (x : Ax3) : Prop where
 a:0<=x.a.bB/\x.a.bB<=1000
 b:0<=x.b.bB/\x.b.bB<=1000
 c:0<=x.c.bB/\x.c.bB<=1000
theorem S1 {x:Ax3} (h:Ax3OK x) (a b:Pt):0<=CV x a b/\CV x a b<=1000:=by
 obtain⟨D,G,I⟩:=h;unfold CV slk
 (repeat' split)<;>omega
structure TB (t : Trk) (n m : Int) : Prop where
 count:(t.aE.length:Int)<=n
 len:0<=t.length/\t.length<=m
 each:∀c∈t.aE,0<=c.aR/\c.aR<=t.length
theorem Q1h {l:List Pce} (h:l≠[]):Bd l∈l:=by
 have G:0<l.length:=by cases l with
  |nil=>exact absurd rfl h
  |cons _ _=>simp
 have D:l.length-1<l.length:=by omega
 unfold Bd;rw[fc,al D,Option.getD_some];exact cg _
theorem Qqo {n m:Int} (h:TB t n m) {c:Pce} {k:Int} (I:0<=c.aR/\c.aR<=k):TB (Fz t c) (n+1) (m+k):=by
 obtain⟨L,M,G⟩:=h;unfold Fz;by_cases g:t.aE≠[]/\c.bC≠0/\(Bd t.aE).bC=c.bC/\(Bd t.aE).aT=c.aT
 ·rw[ab g];refine⟨by simp only[iz];omega,by simp only;omega,?_⟩;intro q D;rcases f7 D with D|rfl
  ·have:=G q D;simp only;omega
  ·have:=G _ (Q1h g.1);simp only;omega
 ·rw[aa g];refine⟨by simp only[ap,bm,da];omega,by simp only;omega,?_⟩;intro q D;rcases bn.1 D with D|D
  ·have:=G q D;simp only;omega
  ·rw[du]at D;subst D;simp only;omega
theorem Q37 (t:Trk) (c:Pce):(Fz t c).aQ=t.aQ/\(Fz t c).aT=t.aT:=by
 unfold Fz;split<;>exact⟨rfl,rfl⟩
theorem Td (l:List Sgm):Az l 0=0:=by unfold Az;rw[List.take_zero];rfl
theorem P9 {l:List Sgm} (h:i<l.length):Az l (i+1)=Az l i+(sgA l i).len:=by
 unfold Az;rw[i6,al h,Option.toList_some,Qes,Od h]
theorem Q7v (l:List Sgm):Az l l.length=AX l:=by unfold Az;rw[ip]
theorem Qkg {l:List Sgm} (h:SegOK l):∀i,i<=l.length->0<=Az l i/\Az l i<=i*268435456
 |0,_=>by rw[Td];simp
 |i+1,D=>by
  have:=Qkg h i (by omega);have:=h.seg _ (HR (show i<l.length by omega));rw[P9 (by omega)];omega
theorem Zg5 {x:Ax3} {mv lo hi:Int} {s:Trk×Pt} {n m:Int} (I:Ax3OK x) (L:SegOK p.aF) (D:i<p.aF.length) (h:TB s.1 n m):TB (Iz p x mv lo hi i s).1 (n+2) (m+268436456):=by
 have M:=L.seg _ (HR D);have e:=P9 D;unfold Iz;by_cases c:max (Az p.aF i) lo<min (Az p.aF (i+1)) hi
 ·rw[ab c];unfold Ct;have N:=S1 I s.2 (DW s.2 (EV p.aQ p.aF i) (sgA p.aF i).to mv);have e1:n+2=n+1+1:=by omega
  have e2:m+268436456=m+1000+268435456:=by omega
  rw[e1,e2];refine Qqo ?_ (by simp only;omega);by_cases G:CV x s.2 (DW s.2 (EV p.aQ p.aF i) (sgA p.aF i).to mv)>0
  ·rw[ab G];exact Qqo h (by simp only;omega)
  ·rw[aa G];exact⟨by have:=h.count;omega,by have:=h.len;omega,h.each⟩
 ·rw[aa c];exact⟨by have:=h.count;omega,by have:=h.len;omega,h.each⟩
theorem W9 {n j:Nat} (mv:Int) (h:j<n):Em n mv j<n:=by unfold Em;split<;>omega
theorem Yo {p:Pth} {x:Ax3} {mv lo hi f:Int} {d:Pt} (D:Ax3OK x) (G:SegOK p.aF):∀j,j<=p.aF.length->TB (Cz p x mv lo hi (⟨[],0,f,d⟩,d) j).1 (j*2) (j*268436456)
 |0,_=>⟨by simp[Cz],by simp[Cz],by simp[Cz]⟩
 |j+1,I=>by
  have h:=Zg5 (mv:=mv) (lo:=lo) (hi:=hi) D G (W9 mv (show j<p.aF.length by omega)) (Yo (mv:=mv) (lo:=lo) (hi:=hi) (f:=f) (d:=d) D G j (by omega));rw[Cz];have e1:((j+1:Nat):Int)*2=j*2+2:=by omega
  have e2:((j+1:Nat):Int)*268436456=j*268436456+268436456:=by omega
  rw[e1,e2];exact h
theorem Q8f {x:Ax3} (s:Trk×Pt):(Iz p x a k b i s).1.aQ=s.1.aQ/\(Iz p x a k b i s).1.aT=s.1.aT:=by
 unfold Iz;by_cases c:max (Az p.aF i) k<min (Az p.aF (i+1)) b
 ·rw[ab c];unfold Ct;simp only[Q37];by_cases D:CV x s.2 (DW s.2 (EV p.aQ p.aF i) (sgA p.aF i).to a)>0
  ·rw[ab D];simp only[Q37];exact⟨trivial,trivial⟩
  ·rw[aa D];exact⟨rfl,rfl⟩
 ·rw[aa c];exact⟨rfl,rfl⟩
def Fu (x:Ax3) (mv:Int) (Q:Int->Pt->Prop):Int->Int->Pt->List Pce->Prop
 |_,_,_,[]=>True
 |at_,s,d,c::l=>c.at_=at_/\c.s=s/\1<=c.aR/\((c.bC=mv/\c.was=c.aT/\CV x d c.aT=0/\∀k,0<=k->k<c.aR->Q (s+mv*k) c.aT)\/(c.bC=0/\c.was=d/\c.aR=CV x d c.aT))/\Fu x mv Q (at_+c.aR) (s+c.bC*c.aR) c.aT l
def EF:Int->List Pce->Int
 |a,[]=>a
 |a,c::l=>EF (a+c.aR) l
def GT:Int->List Pce->Int
 |s,[]=>s
 |s,c::l=>GT (s+c.bC*c.aR) l
def Iv:Pt->List Pce->Pt
 |d,[]=>d
 |_,c::l=>Iv c.aT l
theorem SL (c:Pce):∀(a:Int) (l:List Pce),EF a (l++[c])=EF a l+c.aR
 |_,[]=>rfl
 |_,k::l=>SL c _ l
theorem SS (c:Pce):∀(s:Int) (l:List Pce),GT s (l++[c])=GT s l+c.bC*c.aR
 |_,[]=>rfl
 |_,k::l=>SS c _ l
theorem Ts (c:Pce):∀(d:Pt) (l:List Pce),Iv d (l++[c])=c.aT
 |_,[]=>rfl
 |_,k::l=>Ts c _ l
theorem Tk {x:Ax3} {mv:Int} {Q:Int->Pt->Prop} {c:Pce}:∀{at_ s:Int} {d:Pt} {l:List Pce},
  Fu x mv Q at_ s d (l++[c])↔Fu x mv Q at_ s d l/\c.at_=EF at_ l/\c.s=GT s l/\1<=c.aR/\((c.bC=mv/\c.was=c.aT/\CV x (Iv d l) c.aT=0/\∀k,0<=k->k<c.aR->Q (GT s l+mv*k) c.aT)\/(c.bC=0/\c.was=Iv d l/\c.aR=CV x (Iv d l) c.aT))
 |at_,s,d,[]=>by
  simp only[bc,Fu,EF,GT,Iv,jd,true_and]
 |at_,s,d,k::l=>by
  simp only[az,Fu,EF,GT,Iv];rw[Tk];constructor
  ·rintro⟨D,G,I,L,M,N⟩;exact⟨⟨D,G,I,L,M⟩,N⟩
  ·rintro⟨⟨D,G,I,L,M⟩,N⟩;exact⟨D,G,I,L,M,N⟩
theorem Zew {l:List Pce} (h:l≠[]) (v:Pce):l.set (l.length-1) v=l.dropLast++[v]:=by
 have e:=List.dropLast_concat_getLast h;have D:l.length-1=l.dropLast.length:=by rw[List.length_dropLast]
 conv=>lhs;arg 1;rw[<-e]
 rw[D,List.set_append_right _ _ (co _),iw];rfl
theorem Zef {l:List Pce} (h:l≠[]):l.dropLast++[Bd l]=l:=by
 have e:=List.dropLast_concat_getLast h;have I:0<l.length:=by
  cases l with
  |nil=>exact absurd rfl h
  |cons _ _=>simp
 have D:l.length-1<l.length:=by omega
 have G:Bd l=l.getLast h:=by
  unfold Bd;rw[fc,al D,Option.getD_some,List.getLast_eq_getElem]
 rw[G];exact e
structure TC (x : Ax3) (mv : Int) (Q : Int -> Pt -> Prop) (t : Trk) (s : Int) (d : Pt) : Prop where
 ch:Fu x mv Q 0 t.aQ t.aT t.aE
 len:EF 0 t.aE=t.length
 s:GT t.aQ t.aE=s
 d:Iv t.aT t.aE=d
theorem Qjm {x:Ax3} {s:Int} (hm:a≠0) (h:TC x a Q t s H) {c:Pce} (hs:c.s=s) (hu:1<=c.aR)
  (G:(c.bC=a/\c.was=c.aT/\CV x H c.aT=0/\∀k,0<=k->k<c.aR->Q (s+a*k) c.aT)\/(c.bC=0/\c.was=H/\c.aR=CV x H c.aT)):TC x a Q (Fz t c) (s+c.bC*c.aR) c.aT:=by
 obtain⟨M,N,D,O⟩:=h;unfold Fz;by_cases g:t.aE≠[]/\c.bC≠0/\(Bd t.aE).bC=c.bC/\(Bd t.aE).aT=c.aT
 ·rw[ab g];obtain⟨g1,g2,X,Y⟩:=g;have e:=Zef g1;rw[Zew g1];rw[<-e]at M N D O;rw[Tk]at M;rw[SL]at N;rw[SS]at D;rw[Ts]at O;generalize t.aE.dropLast=I at*;generalize Bd t.aE=L at*;obtain⟨k0,k1,k2,k4,S⟩:=M
  replace G:=G.resolve_right λh=>g2 h.1
  replace S:=S.resolve_right λh=>g2 (X▸h.1)
  obtain⟨c1,c2,-,c3⟩:=G;obtain⟨q1,q2,q4,q3⟩:=S;refine⟨?_,?_,?_,?_⟩
  ·show Fu x a Q 0 t.aQ t.aT (I++[_]);rw[Tk];refine⟨k0,k1,k2,by simp only;omega, .inl ⟨q1,q2,q4,?_⟩⟩;intro k T U;simp only at U;by_cases V:k<L.aR
   ·exact q3 k T V
   ·have:=c3 (k-L.aR) (by omega) (by omega);rw[<-D,q1,<-Y]at this;have ea:GT t.aQ I+a*L.aR+a*(k-L.aR)=GT t.aQ I+a*k:=by rw[Int.mul_sub];omega
    rw[ea]at this;exact this
  ·show EF 0 (I++[_])=t.length+c.aR;rw[SL];simp only;omega
  ·show GT t.aQ (I++[_])=s+c.bC*c.aR;rw[SS];simp only;rw[X]at D⊢;rw[Int.mul_add];omega
  ·show Iv t.aT (I++[_])=c.aT;rw[Ts];exact Y
 ·rw[aa g];refine⟨?_,?_,?_,?_⟩
  ·show Fu x a Q 0 t.aQ t.aT (t.aE++[_]);rw[Tk];refine⟨M,N.symm,by rw[D];exact hs,hu,?_⟩;rw[D,O];exact G
  ·show EF 0 (t.aE++[_])=t.length+c.aR;rw[SL,N]
  ·show GT t.aQ (t.aE++[_])=s+c.bC*c.aR;rw[SS,D]
  ·show Iv t.aT (t.aE++[_])=c.aT;rw[Ts]
theorem Zhz (x:Ax3) (d:Pt):CV x d d=0:=by unfold CV slk;simp
theorem Qwb {x:Ax3} {s aR:Int} {d a b:Pt} (G:v≠0) (N:∀w d,0<=CV x w d) (h:TC x v Q t s d) (I:1<=aR) (L:∀k,0<=k->k<aR->Q (s+v*k) (DW d a b v)):
  TC x v Q (Ct x v a b s aR (t,d)).1 (s+v*aR) (DW d a b v):=by
 unfold Ct;simp only;generalize DW d a b v=D at*;by_cases c:CV x d D>0
 ·rw[ab c];have M:=Qjm G h (c:=⟨0,CV x d D,s,0,d,D⟩) rfl (by simp only;omega) (.inr ⟨rfl,rfl,rfl⟩);simp only[Int.zero_mul,jl]at M;exact Qjm G M (c:=⟨0,aR,s,v,D,D⟩) rfl I (.inl ⟨rfl,rfl,Zhz x D,L⟩)
 ·rw[aa c];have:=N d D;exact Qjm G h (c:=⟨0,aR,s,v,D,D⟩) rfl I (.inl ⟨rfl,rfl,by simp only;omega,L⟩)
def J2 (l:List Sgm) (mv lo D:Int) (j:Nat):Int:=if mv<0 then min (max (Az l (l.length-j)) lo) D else min (max (Az l j) lo) D
def Qum (p:Pth) (mv:Int) (Q:Int->Pt->Prop):Prop:=∀i,i<p.aF.length->∀(d:Pt) (s:Int),Az p.aF i<=s->s<=Az p.aF (i+1)->Az p.aF i<=s+mv->s+mv<=Az p.aF (i+1)->Q s (DW d (EV p.aQ p.aF i) (sgA p.aF i).to mv)
theorem Q7i {p:Pth} {x:Ax3} {mv lo hi f:Int} {d:Pt} {Q:Int->Pt->Prop} (S:mv=1\/mv= -1) (M:Ax3OK x) (T:SegOK p.aF) (N:0<=lo/\lo<=hi/\hi<=AX p.aF) (hf:(mv=1/\f=lo)\/(mv= -1/\f=hi)) (U:Qum p mv Q):
  ∀j,j<=p.aF.length->TC x mv Q (Cz p x mv lo hi (⟨[],0,f,d⟩,d) j).1 (J2 p.aF mv lo hi j) (Cz p x mv lo hi (⟨[],0,f,d⟩,d) j).2
 |0,_=>by
  have X:J2 p.aF mv lo hi 0=f:=by
   unfold J2;have:=Q7v p.aF;rcases hf with⟨rfl,rfl⟩|⟨rfl,rfl⟩
   ·rw[aa,Td];omega
   ·rw[ab,Nat.sub_zero,this];omega
  rw[X];exact⟨trivial,rfl,rfl,rfl⟩
 |j+1,hj=>by
  have G:=Q7i S M T N hf U (f:=f) (d:=d) j (by omega);have L:=W9 mv (show j<p.aF.length by omega);have hg:=T.seg _ (HR L);have O:=P9 L;have V:=U _ L;rw[Cz];unfold Iz;have D:(mv=1/\Em p.aF.length mv j=j)\/(mv= -1/\Em p.aF.length mv j=p.aF.length-1-j):=by
   unfold Em;rcases S with rfl|rfl
   ·exact .inl ⟨rfl,aa⟩
   ·exact .inr ⟨rfl,ab⟩
  have I:J2 p.aF mv lo hi j=(if mv<0 then min (max (Az p.aF (Em p.aF.length mv j+1)) lo) hi else min (max (Az p.aF (Em p.aF.length mv j)) lo) hi)/\
    J2 p.aF mv lo hi (j+1)=(if mv<0 then min (max (Az p.aF (Em p.aF.length mv j)) lo) hi else min (max (Az p.aF (Em p.aF.length mv j+1)) lo) hi):=by
   unfold J2;rcases D with⟨rfl,e⟩|⟨rfl,e⟩
   ·rw[e,aa,aa,aa,aa];exact⟨rfl,rfl⟩
   ·rw[e,ab,ab,ab,ab,show p.aF.length-1-j+1=p.aF.length-j by omega,show p.aF.length-(j+1)=p.aF.length-1-j by omega];exact⟨rfl,rfl⟩
  rw[I.1]at G;rw[I.2];generalize Em p.aF.length mv j=i at*;generalize Cz p x mv lo hi (⟨[],0,f,d⟩,d) j=w at*;obtain⟨t,dn⟩:=w;simp only at G⊢;by_cases c:max (Az p.aF i) lo<min (Az p.aF (i+1)) hi
  ·rw[ab c];rcases D with⟨rfl,-⟩|⟨rfl,-⟩
   ·rw[aa]at G⊢;rw[aa];have e1:min (max (Az p.aF i) lo) hi=max (Az p.aF i) lo:=by omega
    rw[e1]at G;have:=Qwb (a:=EV p.aQ p.aF i) (b:=(sgA p.aF i).to) (aR:=min (Az p.aF (i+1)) hi-max (Az p.aF i) lo) (by omega) (λw d=>(S1 M w d).1) G (by omega) (λk Y h1=>V dn _ (by omega) (by omega) (by omega) (by omega));have e2:max (Az p.aF i) lo+1*(min (Az p.aF (i+1)) hi-max (Az p.aF i) lo)=min (max (Az p.aF (i+1)) lo) hi:=by omega
    rw[e2]at this;exact this
   ·rw[ab]at G⊢;rw[ab];have e1:min (max (Az p.aF (i+1)) lo) hi=min (Az p.aF (i+1)) hi:=by omega
    rw[e1]at G;have:=Qwb (a:=EV p.aQ p.aF i) (b:=(sgA p.aF i).to) (aR:=min (Az p.aF (i+1)) hi-max (Az p.aF i) lo) (by omega) (λw d=>(S1 M w d).1) G (by omega) (λk Y h1=>V dn _ (by omega) (by omega) (by omega) (by omega));have e2:min (Az p.aF (i+1)) hi+ -1*(min (Az p.aF (i+1)) hi-max (Az p.aF i) lo)=min (max (Az p.aF i) lo) hi:=by omega
    rw[e2]at this;exact this
  ·rw[aa c];have e:(if mv<0 then min (max (Az p.aF (i+1)) lo) hi else min (max (Az p.aF i) lo) hi)=(if mv<0 then min (max (Az p.aF i) lo) hi else min (max (Az p.aF (i+1)) lo) hi):=by
    split<;>omega
   rw[<-e];exact G
theorem Z3i {l:List Pce} (h:l≠[]):nth [] (l.map AS) (l.length-1)=AS (Bd l):=by
 have G:0<l.length:=by cases l with
  |nil=>exact absurd rfl h
  |cons _ _=>simp
 unfold Bd;have D:l.length-1<l.length:=by omega
 rw[IR _ _ _ _ D,fc,al D,Option.getD_some]
theorem Q9v:H=G↔H.x=G.x/\H.y=G.y/\H.z=G.z:=DU
theorem Zxx {c:Pce} {n m k:Int} (h:TB t n m) (hn:n<=10000000) (hm:m<=1000000000000000000) (hk:k<=1000000000000000000) (hc:0<=c.aR/\c.aR<=k):
  U6 [.vC As (t.aE.map AS),I c.at_,I c.aR,I c.s,I c.bC,I c.was.x,I c.was.y,I c.was.z,I c.aT.x,I c.aT.y,I c.aT.z,I t.length,I t.aQ,I t.aT.x,I t.aT.y,I t.aT.z]=some (Br (Fz t c)):=by
 obtain⟨h1,h2,X⟩:=h;have U:V (t.length+c.aR)=t.length+c.aR:=Ae;have D:((t.aE.map AS++[[I t.length,I c.aR,I c.s,I c.bC,I c.was.x,I c.was.y,I c.was.z,I c.aT.x,I c.aT.y,I c.aT.z]]).length*80).ble 140737488355328=true:=by
  rw[Nat.ble_eq,ap,ah];simp only[bm,da];omega
 have L:(t.aE.map AS++[[I t.length,I c.aR,I c.s,I c.bC,I c.was.x,I c.was.y,I c.was.z,I c.aT.x,I c.aT.y,I c.aT.z]]).length*80<=140737488355328:=ay D;have G:some [AC.vC As (t.aE.map AS++[[I t.length,I c.aR,I c.s,I c.bC,I c.was.x,I c.was.y,I c.was.z,I c.aT.x,I c.aT.y,I c.aT.z]]),I (t.length+c.aR),I t.aQ,I t.aT.x,I t.aT.y,I t.aT.z]=
   some (Br {t with aE:=t.aE++[{c with at_:=t.length}],length:=t.length+c.aR}):=by
  simp only[Br,bv,ba,dp]
 by_cases M:t.aE=[]
 ·have Y: ¬(t.aE≠[]/\c.bC≠0/\(Bd t.aE).bC=c.bC/\(Bd t.aE).aT=c.aT):=λg=>g.1 M;unfold Fz;rw[aa Y,<-G];rw[Q9n,ah,AZ (by rw[M];simp),By D,U]
 ·have hp:0<t.aE.length:=by
   cases hh:t.aE with
   |nil=>exact absurd hh M
   |cons _ _=>simp
  have e1:V ((t.aE.length:Int)-1)=((t.aE.length-1:Nat):Int):=by rw[Ae];omega
  have S:(0:Int)<=((t.aE.length-1:Nat):Int)/\((t.aE.length-1:Nat):Int)<(t.aE.length:Int):=by omega
  have hl:=X _ (Q1h M);have T:V ((Bd t.aE).aR+c.aR)=(Bd t.aE).aR+c.aR:=Ae;have N:some [AC.vC As ((t.aE.map AS).set (t.aE.length-1) [I (Bd t.aE).at_,I ((Bd t.aE).aR+c.aR),I (Bd t.aE).s,I (Bd t.aE).bC,I (Bd t.aE).was.x,I (Bd t.aE).was.y,I (Bd t.aE).was.z,I (Bd t.aE).aT.x,I (Bd t.aE).aT.y,I (Bd t.aE).aT.z]),I (t.length+c.aR),I t.aQ,I t.aT.x,I t.aT.y,I t.aT.z]=
   some (Br {t with aE:=t.aE.set (t.aE.length-1) {Bd t.aE with aR:=(Bd t.aE).aR+c.aR},length:=t.length+c.aR}):=by
   simp only[Br,List.map_set]
  have hr:=Z3i M;have main : ∀ R, R = (if c.bC ≠ 0 then if (Bd t.aE).bC = c.bC then if (Bd t.aE).aT.x = c.aT.x /\ (Bd t.aE).aT.y = c.aT.y /\ (Bd t.aE).aT.z = c.aT.z then
    some (Br {t with aE:=t.aE.set (t.aE.length-1) {Bd t.aE with aR:=(Bd t.aE).aR+c.aR},length:=t.length+c.aR})
    else some (Br {t with aE:=t.aE++[{c with at_:=t.length}],length:=t.length+c.aR})else some (Br {t with aE:=t.aE++[{c with at_:=t.length}],length:=t.length+c.aR})else some (Br {t with aE:=t.aE++[{c with at_:=t.length}],length:=t.length+c.aR}))->R=some (Br (Fz t c)):=by
   intro R hR;rw[hR];unfold Fz;by_cases g1:c.bC≠0
   ·by_cases g2:(Bd t.aE).bC=c.bC
    ·by_cases O:(Bd t.aE).aT.x=c.aT.x/\(Bd t.aE).aT.y=c.aT.y/\(Bd t.aE).aT.z=c.aT.z
     ·rw[ab g1,ab g2,ab O,ab ⟨M,g1,g2,Q9v.2 O⟩]
     ·rw[ab g1,ab g2,aa O,aa λg=>O (Q9v.1 g.2.2.2)]
    ·rw[ab g1,aa g2,aa λg=>g2 g.2.2.1]
   ·rw[aa g1,aa λg=>g1 g.2.1]
  refine main _ ?_;rw[<-G,<-N];rw[Q9n,ah,e1,ak,hr];simp only[go_sem,U,T,ab S,ab L];rw[ab];simp only[jd]
theorem Ziz (x:Ax3) (w d:Pt):MJ (AE x++[I w.x,I w.y,I w.z,I d.x,I d.y,I d.z])=some [I (CV x w d)]:=by
 have he:=Zd4 x.a.step x.a.aS x.a.bD x.a.bE x.a.low x.a.aY x.a.bB x.a.aV x.a.aO (x.a.aW.map Aq) x.b.step x.b.aS x.b.bD x.b.bE x.b.low x.b.aY x.b.bB x.b.aV x.b.aO (x.b.aW.map Aq) x.c.step x.c.aS x.c.bD x.c.bE x.c.low x.c.aY x.c.bB x.c.aV x.c.aO (x.c.aW.map Aq) w.x w.y w.z d.x d.y d.z;unfold MJ;refine dh he ?_;unfold CV slk;simp only[go_sem,NM]
 (repeat' split)<;>first|rfl|(exfalso;omega)
theorem Ybl (n a b:Pt) {mv:Int} (D:mv=1\/mv= -1):NV [I n.x,I n.y,I n.z,I a.x,I a.y,I a.z,I b.x,I b.y,I b.z,I mv]=some (ptR (DW n a b mv)):=by
 unfold NV;rw[Zf9];have e:V (0-mv)= -mv:=by rw[Ae];omega
 unfold DW Tp;simp only[go_sem,e]
 (repeat' split)<;>first|rfl|(exfalso;omega)
theorem Vg {n D:Int}:G9 [I n,I D]=some [I (B7 n D)]:=by
 unfold G9;rw[Zq3];simp only[J4,NM];rfl
theorem Zcw {x:Ax3} {s aR:Int} {n m k:Int} (U:Ax3OK x) (h:TB t n m) (Y:n<=9000000) (hm:m<=900000000000000000) (hk:k<=900000000000000000) (S:0<=aR/\aR<=k)
  (V:Z [I o.x,I o.y,I o.z,I H.x,I H.y,I H.z,I G.x,I G.y,I G.z,I v]=some (ptR (DW o H G v))) (X:∀w d:Pt,M (AE x++[I w.x,I w.y,I w.z,I d.x,I d.y,I d.z])=some [I (CV x w d)])
  (O : ∀ {t : Trk} {c : Pce} {n m k : Int}, TB t n m -> n <= 10000000 -> m <= 1000000000000000000 -> k <= 1000000000000000000 -> (0 <= c.aR /\ c.aR <= k) ->
   W [.vC As (t.aE.map AS),I c.at_,I c.aR,I c.s,I c.bC,I c.was.x,I c.was.y,I c.was.z,I c.aT.x,I c.aT.y,I c.aT.z,I t.length,I t.aQ,I t.aT.x,I t.aT.y,I t.aT.z]=some (Br (Fz t c))):
  Qpe M Z W (.vC As (t.aE.map AS)::I H.x::I H.y::I H.z::I G.x::I G.y::I G.z::I s::I aR::I o.x::I o.y::I o.z::I v::(AE x++[I t.length,I t.aQ,I t.aT.x,I t.aT.y,I t.aT.z]))=
   some (.vC As ((Ct x v H G s aR (t, o)).1.aE.map AS) :: I (Ct x v H G s aR (t, o)).2.x :: I (Ct x v H G s aR (t, o)).2.y :: I (Ct x v H G s aR (t, o)).2.z :: I v :: (AE x ++
    [I (Ct x v H G s aR (t,o)).1.length,I (Ct x v H G s aR (t,o)).1.aQ,I (Ct x v H G s aR (t,o)).1.aT.x,I (Ct x v H G s aR (t,o)).1.aT.y,I (Ct x v H G s aR (t,o)).1.aT.z])):=by
 have he:=Z1z M Z W (t.aE.map AS) H.x H.y H.z G.x G.y G.z s aR o.x o.y o.z v x.a.step x.a.aS x.a.bD x.a.bE x.a.low x.a.aY x.a.bB x.a.aV x.a.aO (x.a.aW.map Aq) x.b.step x.b.aS x.b.bD x.b.bE x.b.low x.b.aY x.b.bB x.b.aV x.b.aO (x.b.aW.map Aq) x.c.step x.c.aS x.c.bD x.c.bE x.c.low x.c.aY x.c.bB x.c.aV x.c.aO (x.c.aW.map Aq) t.length t.aQ t.aT.x t.aT.y t.aT.z;refine dh he ?_;have hs:=S1 U o (DW o H G v);have L:=X o (DW o H G v);simp only[AE,az,bc]at L⊢;unfold Ct;simp only;generalize DW o H G v=D at*;simp only[V,go_sem,L];by_cases c:CV x o D>0
 ·have T:=O (c:=⟨0,CV x o D,s,0,o,D⟩) h (by omega) (by omega) (k:=1000) (by omega) (by simp only;omega);have hb:=Qqo (k:=1000) h (c:=⟨0,CV x o D,s,0,o,D⟩) (by simp only;omega);have N:=O (c:=⟨0,aR,s,v,D,D⟩) hb (by omega) (by omega) (k:=k) (by omega) S;simp only at T N;rw[ab c,ab c];simp only[T,Br,go_sem,N]
 ·have N:=O (c:=⟨0,aR,s,v,D,D⟩) h (by omega) (by omega) (k:=k) (by omega) S;simp only at N;rw[aa c,aa c];simp only[N,Br,go_sem]
theorem Zvl {x:Ax3} {s aR:Int} {n m k:Int} (D:v=1\/v= -1) (L:Ax3OK x) (h:TB t n m) (M:n<=9000000) (N:m<=900000000000000000) (O:k<=900000000000000000) (S:0<=aR/\aR<=k):
  FA (.vC As (t.aE.map AS)::I H.x::I H.y::I H.z::I G.x::I G.y::I G.z::I s::I aR::I o.x::I o.y::I o.z::I v::(AE x++[I t.length,I t.aQ,I t.aT.x,I t.aT.y,I t.aT.z]))=
   some (.vC As ((Ct x v H G s aR (t, o)).1.aE.map AS) :: I (Ct x v H G s aR (t, o)).2.x :: I (Ct x v H G s aR (t, o)).2.y :: I (Ct x v H G s aR (t, o)).2.z :: I v :: (AE x ++
    [I (Ct x v H G s aR (t,o)).1.length,I (Ct x v H G s aR (t,o)).1.aQ,I (Ct x v H G s aR (t,o)).1.aT.x,I (Ct x v H G s aR (t,o)).1.aT.y,I (Ct x v H G s aR (t,o)).1.aT.z])):=
 Zcw L h M N O S (Ybl o H G D) (Ziz x) λT U V X Y=>Zxx T U V X Y
def Fa (l:List Sgm) (j:Nat):Rw:=(List.range j).map λi=>[I (Az l i)]
theorem Sy (l:List Sgm) (j:Nat):(Fa l j).length=j:=by simp[Fa]
theorem Zll (l:List Sgm) (j:Nat):Fa l (j+1)=Fa l j++[[I (Az l j)]]:=by unfold Fa;rw[List.range_succ,bv];rfl
theorem Z66 {l:List Sgm} {n i:Nat} (h:i<n):nth [] (Fa l n) i=[I (Az l i)]:=by
 have D:i<(Fa l n).length:=by rw[Sy];exact h
 rw[FC [] _ i D];simp[Fa]
abbrev QP (p:Pth) (x:Ax3) (lo D mv:Int) (t:Trk) (now:Pt) (at_:Int) (G:Rw) (j:Nat):List AC:=
 [.vC Aa G, .vC As (t.aE.map AS),I lo,I D,I mv,I at_, .vC Aj (p.aF.map Ay),I p.aF.length,I j,I p.aQ.x,I p.aQ.y,I p.aQ.z, .vC Aj (p.aF.map Ay), .vC AF (p.aD.map At),I now.x,I now.y,I now.z,I mv,I x.a.step,I x.a.aS,I x.a.bD,I x.a.bE,I x.a.low,I x.a.aY,I x.a.bB,I x.a.aV,I x.a.aO, .vC Aa (x.a.aW.map Aq),I x.b.step,I x.b.aS,I x.b.bD,I x.b.bE,I x.b.low,I x.b.aY,I x.b.bB,I x.b.aV,I x.b.aO, .vC Aa (x.b.aW.map Aq),I x.c.step,I x.c.aS,I x.c.bD,I x.c.bE,I x.c.low,I x.c.aY,I x.c.bB,I x.c.aV,I x.c.aO, .vC Aa (x.c.aW.map Aq),I t.length,I t.aQ,I t.aT.x,I t.aT.y,I t.aT.z]
theorem Q24 {M:Fn} {p:Pth} {x:Ax3} {lo hi mv:Int} {t:Trk} {now:Pt} (h:SegOK p.aF):∀(k j:Nat),j+k=p.aF.length->
  Am (Ug M) (QP p x lo hi mv t now (Az p.aF j) (Fa p.aF j) j)=some (1,[.vC Aa (Fa p.aF p.aF.length), .vC As (t.aE.map AS),I lo,I hi,I mv,I p.aQ.x,I p.aQ.y,I p.aQ.z, .vC Aj (p.aF.map Ay), .vC AF (p.aD.map At),I now.x,I now.y,I now.z,I mv,I x.a.step,I x.a.aS,I x.a.bD,I x.a.bE,I x.a.low,I x.a.aY,I x.a.bB,I x.a.aV,I x.a.aO, .vC Aa (x.a.aW.map Aq),I x.b.step,I x.b.aS,I x.b.bD,I x.b.bE,I x.b.low,I x.b.aY,I x.b.bB,I x.b.aV,I x.b.aO, .vC Aa (x.b.aW.map Aq),I x.c.step,I x.c.aS,I x.c.bD,I x.c.bE,I x.c.low,I x.c.aY,I x.c.bB,I x.c.aV,I x.c.aO, .vC Aa (x.c.aW.map Aq),I t.length,I t.aQ,I t.aT.x,I t.aT.y,I t.aT.z])
 |0,j,S=>by
  have G:j=p.aF.length:=by omega
  refine A1 (o:=(1,_)) ?_ (by simp);rw[Qza,AZ (by omega),G]
 |k+1,j,S=>by
  have D:j<p.aF.length:=by omega
  have N:=h.count;have O:=Qkg h j (by omega);have T:=h.seg _ (HR D);have L:Ug M (QP p x lo hi mv t now (Az p.aF j) (Fa p.aF j) j)=some (0,QP p x lo hi mv t now (Az p.aF (j+1)) (Fa p.aF (j+1)) (j+1)):=by
   have hle:(Fa p.aF j++[[I (Az p.aF j)]]).length*8<=140737488355328:=by rw[ap,Sy];simp only[bm,da];omega
   have e1:V ((j:Int)+1)=((j+1:Nat):Int):=by rw[Ae];omega
   rw[Qza];simp only[go_sem,ah,ak,KQ D,ab hle,e1,Zll];rw[ab,ab,Ae (x:=Az p.aF j+(sgA p.aF j).len),P9 D]
  rw[Bc L];exact Q24 h k (j+1) (by omega)
abbrev Pn (p:Pth) (x:Ax3) (lo D mv:Int) (t:Trk) (now:Pt) (j:Nat):List AC:=
 [.vC Aa (Fa p.aF p.aF.length), .vC As (t.aE.map AS),I lo,I D,I mv,I p.aF.length,I j,I p.aQ.x,I p.aQ.y,I p.aQ.z, .vC Aj (p.aF.map Ay), .vC AF (p.aD.map At),I now.x,I now.y,I now.z,I mv,I x.a.step,I x.a.aS,I x.a.bD,I x.a.bE,I x.a.low,I x.a.aY,I x.a.bB,I x.a.aV,I x.a.aO, .vC Aa (x.a.aW.map Aq),I x.b.step,I x.b.aS,I x.b.bD,I x.b.bE,I x.b.low,I x.b.aY,I x.b.bB,I x.b.aV,I x.b.aO, .vC Aa (x.b.aW.map Aq),I x.c.step,I x.c.aS,I x.c.bD,I x.c.bE,I x.c.low,I x.c.aY,I x.c.bB,I x.c.aV,I x.c.aO, .vC Aa (x.c.aW.map Aq),I t.length,I t.aQ,I t.aT.x,I t.aT.y,I t.aT.z]
abbrev FM (x:Ax3) (mv:Int) (t:Trk) (now:Pt):List AC:=[.vC As (t.aE.map AS),I now.x,I now.y,I now.z,I mv,I x.a.step,I x.a.aS,I x.a.bD,I x.a.bE,I x.a.low,I x.a.aY,I x.a.bB,I x.a.aV,I x.a.aO, .vC Aa (x.a.aW.map Aq),I x.b.step,I x.b.aS,I x.b.bD,I x.b.bE,I x.b.low,I x.b.aY,I x.b.bB,I x.b.aV,I x.b.aO, .vC Aa (x.b.aW.map Aq),I x.c.step,I x.c.aS,I x.c.bD,I x.c.bE,I x.c.low,I x.c.aY,I x.c.bB,I x.c.aV,I x.c.aO, .vC Aa (x.c.aW.map Aq),I t.length,I t.aQ,I t.aT.x,I t.aT.y,I t.aT.z]
theorem Zzd {MV:Fn} {x:Ax3} {lo hi mv:Int} {now:Pt} {n m:Int} {j:Nat} (hv:mv=1\/mv= -1) (hp:GoodPath p) (hx:Ax3OK x) (h:TB t n m) (hn:n<=9000000) (hm:m<=900000000000000000)
  (hj:j<p.aF.length)
  (hV:∀{a b:Pt} {s aR:Int},(0<=aR/\aR<=268435456)->MV [.vC As (t.aE.map AS),I a.x,I a.y,I a.z,I b.x,I b.y,I b.z,I s,I aR,I now.x,I now.y,I now.z,I mv,I x.a.step,I x.a.aS,I x.a.bD,I x.a.bE,I x.a.low,I x.a.aY,I x.a.bB,I x.a.aV,I x.a.aO, .vC Aa (x.a.aW.map Aq),I x.b.step,I x.b.aS,I x.b.bD,I x.b.bE,I x.b.low,I x.b.aY,I x.b.bB,I x.b.aV,I x.b.aO, .vC Aa (x.b.aW.map Aq),I x.c.step,I x.c.aS,I x.c.bD,I x.c.bE,I x.c.low,I x.c.aY,I x.c.bB,I x.c.aV,I x.c.aO, .vC Aa (x.c.aW.map Aq),I t.length,I t.aQ,I t.aT.x,I t.aT.y,I t.aT.z]=some (FM x mv (Ct x mv a b s aR (t,now)).1 (Ct x mv a b s aR (t,now)).2)):
  UF MV N (Pn p x lo hi mv t now j)=some (0,Pn p x lo hi mv (Iz p x mv lo hi (Em p.aF.length mv j) (t,now)).1 (Iz p x mv lo hi (Em p.aF.length mv j) (t,now)).2 (j+1)):=by
 have S:=hp.ok;have a1:=S.count;have M:=W9 mv hj;have G:(mv=1/\Em p.aF.length mv j=j)\/(mv= -1/\Em p.aF.length mv j=p.aF.length-1-j):=by
  unfold Em;rcases hv with rfl|rfl
  ·exact .inl ⟨rfl,aa⟩
  ·exact .inr ⟨rfl,ab⟩
 obtain⟨i,a0⟩:∃i,Em p.aF.length mv j=i:=⟨_,rfl⟩;rw[a0]at M G⊢;have L:i<p.aF.length:=M;have hg:=S.seg _ (HR L);have hr:=KQ L;have hb:=Z66 (l:=p.aF) L;have a2:=Qkg S i (by omega);have T:=P9 L;have U:(0:Int)<=(i:Nat)/\(i:Int)<(p.aF.length:Int):=by omega
 have O:(j:Int)<(p.aF.length:Int):=by omega
 have e1:V ((j:Int)+1)=((j+1:Nat):Int):=by rw[Ae];omega
 have hI:V (V ((p.aF.length:Int)-1)-(j:Int))=((p.aF.length-1-j:Nat):Int):=by rw[Ae (x:=(p.aF.length:Int)-1),Ae];omega
 have hw:V (Az p.aF i+(sgA p.aF i).len)=Az p.aF (i+1):=by rw[T,Ae]
 have X:max (Az p.aF i) lo<min (Az p.aF (i+1)) hi->V (min (Az p.aF (i+1)) hi-max (Az p.aF i) lo)=min (Az p.aF (i+1)) hi-max (Az p.aF i) lo:=λ_=>Ae;have hd:max (Az p.aF i) lo<min (Az p.aF (i+1)) hi->0<=min (Az p.aF (i+1)) hi-max (Az p.aF i) lo/\min (Az p.aF (i+1)) hi-max (Az p.aF i) lo<=268435456:=λ_=>by omega
 have Y:i≠0->V ((i:Int)-1)=((i-1:Nat):Int)/\((0:Int)<=((i-1:Nat):Int)/\((i-1:Nat):Int)<(p.aF.length:Int))/\nth [] (p.aF.map Ay) (i-1)=Ay (sgA p.aF (i-1))/\EV p.aQ p.aF i=(sgA p.aF (i-1)).to:=by
  intro h0;refine⟨by rw[Ae];omega,by omega,KQ (by omega),?_⟩;obtain⟨q,rfl⟩:∃q,i=q+1:=⟨i-1,by omega⟩;exact TL (by omega)
 unfold Iz;rw[Q76];rcases G with⟨rfl,rfl⟩|⟨rfl,ei⟩
 ·simp only[go_sem,ah,Sy,ak,hr,hb,ab U,ab O,NM,J4,hw,e1];rw[aa];by_cases c:max (Az p.aF i) lo<min (Az p.aF (i+1)) hi
  ·rw[aa,ab c,X c];by_cases c0:i=0
   ·rw[aa];have D:=hV (a:=p.aQ) (b:=(sgA p.aF i).to) (s:=max (Az p.aF i) lo) (hd c);subst c0;rw[JI];rw[aa,D];simp only[FM,go_sem];rfl
   ·obtain⟨k1,k2,k3,k4⟩:=Y c0;rw[ab,k1];have D:=hV (a:=(sgA p.aF (i-1)).to) (b:=(sgA p.aF i).to) (s:=max (Az p.aF i) lo) (hd c);rw[k4];simp only[ak,k3,go_sem,ab k2];rw[aa,D];simp only[FM,go_sem];rfl
  ·rw[ab,aa c]
 ·rw[<-ei]at hI;simp only[go_sem,ah,Sy,hI,ak,hr,hb,ab U,ab O,NM,J4,hw,e1];rw[ab];by_cases c:max (Az p.aF i) lo<min (Az p.aF (i+1)) hi
  ·rw[aa,ab c,X c];by_cases c0:i=0
   ·rw[aa];have D:=hV (a:=p.aQ) (b:=(sgA p.aF i).to) (s:=min (Az p.aF (i+1)) hi) (hd c);subst c0;rw[JI];rw[ab,D];simp only[FM,go_sem];rfl
   ·obtain⟨k1,k2,k3,k4⟩:=Y c0;rw[ab,k1];have D:=hV (a:=(sgA p.aF (i-1)).to) (b:=(sgA p.aF i).to) (s:=min (Az p.aF (i+1)) hi) (hd c);rw[k4];simp only[ak,k3,go_sem,ab k2];rw[ab,D];simp only[FM,go_sem];rfl
  ·rw[ab,aa c]
def pcA (l:List Pce) (i:Nat):Pce:=l.getD i pc0
def eI (l:List Pce) (i:Nat):Int:=(pcA l i).at_+(pcA l i).aR
def fI:List Pce->Int->Nat
 |[],_=>0
 |c::l,u=>if u<=c.at_+c.aR then 0 else fI l u+1
theorem H5 (c:Pce) (l:List Pce) (i:Nat):pcA (c::l) (i+1)=pcA l i:=by unfold pcA;simp
theorem KU (c:Pce) (l:List Pce):pcA (c::l) 0=c:=by unfold pcA;simp
theorem Tw {l:List Pce} (h:i<l.length):nth [] (l.map AS) i=AS (pcA l i):=by
 have e:pcA l i=l[i]:=by unfold pcA;simp[h]
 rw[e];exact IR _ _ _ _ h
theorem Uc:∀{l:List Pce} {u:Int} {j:Nat},j<l.length->u<=eI l j->fI l u<=j
 |c::l,u,0,_,h=>by
  unfold eI at h;rw[KU]at h;unfold fI;rw[ab h];exact co _
 |c::l,u,j+1,G,h=>by
  unfold fI;by_cases D:u<=c.at_+c.aR
  ·rw[ab D];omega
  ·rw[aa D];have:fI l u<=j:=Uc (by simpa using G) (by unfold eI at h⊢;rw[H5]at h;exact h);omega
theorem Q3v:∀{l:List Pce} {u:Int},fI l u<l.length->u<=eI l (fI l u)
 |[],_,h=>by simp at h
 |c::l,u,h=>by
  unfold fI at h⊢;by_cases D:u<=c.at_+c.aR
  ·rw[ab D];unfold eI;rw[KU];exact D
  ·rw[aa D]at h⊢;have:=Q3v (l:=l) (u:=u) (by simpa using h);unfold eI at this⊢;rw[H5];exact this
structure TQ (t : Trk) : Prop where
 count:t.aE.length<=10000000
 len:0<=t.length/\t.length<=900000000000000
 pos:∀i,i<t.aE.length->0<=(pcA t.aE i).at_/\1<=(pcA t.aE i).aR/\eI t.aE i<=t.length
 mono:∀i j,i<=j->j<t.aE.length->eI t.aE i<=eI t.aE j
 last:t.aE≠[]->eI t.aE (t.aE.length-1)=t.length
 aQ:0<=t.aQ/\t.aQ<=263886834032640
 s:∀i,i<t.aE.length-> -900000000000000<=(pcA t.aE i).s/\(pcA t.aE i).s<=2000000000000000
 bC:∀i,i<t.aE.length->(pcA t.aE i).bC=0\/(pcA t.aE i).bC=1\/(pcA t.aE i).bC= -1
def clT (t:Trk) (u:Int):Int:=B7 u t.length
theorem QO (h:TQ t) (u:Int):0<=clT t u/\clT t u<=t.length:=by have:=h.len;unfold clT B7;omega
def iT (t:Trk) (u:Int):Nat:=fI t.aE (clT t u)
theorem OJ (h:TQ t) (u:Int) (D:t.aE≠[]):iT t u<t.aE.length:=by
 have I:0<t.aE.length:=by
  cases G:t.aE with
  |nil=>exact absurd G D
  |cons _ _=>simp
 have:=Uc (l:=t.aE) (u:=clT t u) (j:=t.aE.length-1) (by omega) (by rw[h.last D];exact(QO h u).2);unfold iT;omega
def BK (t:Trk) (u:Int):Int:=if t.aE=[]then t.aQ else(pcA t.aE (iT t u)).s+(pcA t.aE (iT t u)).bC*(clT t u-(pcA t.aE (iT t u)).at_)
def Zdf (t:Trk) (u:Int):Prop:=t.aE≠[]/\(pcA t.aE (iT t u)).bC=0/\(pcA t.aE (iT t u)).at_<clT t u/\clT t u<eI t.aE (iT t u)
theorem ZG {t:Trk} (h:TQ t) {u:Int} (D:fI t.aE u<t.aE.length):∀(k lo D:Nat),D-lo<=k->lo<=fI t.aE u->fI t.aE u<=D->D<t.aE.length->
  Am Sv [I u,I lo,I D, .vC As (t.aE.map AS),I t.length,I t.aQ,I t.aT.x,I t.aT.y,I t.aT.z]=some (1,[I (fI t.aE u)])
 |k,lo,D,hk,T,U,X=>by
  have S:=h.count;have hl:=h.len;by_cases c:lo<D
  ·have em:V ((V ((lo:Int)+D)).tdiv 2)=(((lo+D)/2:Nat):Int):=by
    rw[Ae (x:=(lo:Int)+D),bp (by omega),Ae];omega
   have Y:lo<=(lo+D)/2/\(lo+D)/2<D:=by omega
   generalize(lo+D)/2=m at*;have G:m<t.aE.length:=by omega
   have M:=h.pos m G;have O:(0:Int)<=(m:Int)/\(m:Int)<(t.aE.length:Int):=by omega
   have hw:V ((pcA t.aE m).at_+(pcA t.aE m).aR)=eI t.aE m:=by unfold eI at M⊢;exact Ae
   have L:Sv [I u,I lo,I D, .vC As (t.aE.map AS),I t.length,I t.aQ,I t.aT.x,I t.aT.y,I t.aT.z]=if u<=eI t.aE m then some (0,[I u,I lo,I m, .vC As (t.aE.map AS),I t.length,I t.aQ,I t.aT.x,I t.aT.y,I t.aT.z])else some (0,[I u,I (m+1:Nat),I D, .vC As (t.aE.map AS),I t.length,I t.aQ,I t.aT.x,I t.aT.y,I t.aT.z]):=by
    rw[Qdb,em];simp only[go_sem,ah,ak,Tw G,ab O,hw,Ae (x:=(m:Int)+1)];rw[ab];rfl
   by_cases N:u<=eI t.aE m
   ·rw[ab N]at L;rw[Bc L];cases k with
    |zero=>omega
    |succ k=>exact ZG h (by omega) k lo m (by omega) T (Uc G N) G
   ·rw[aa N]at L;rw[Bc L];have a0:m<fI t.aE u:=by
     by_cases c3:fI t.aE u<=m
     ·exact absurd (jz (Q3v (by omega)) (h.mono _ _ c3 G)) N
     ·omega
    cases k with
    |zero=>omega
    |succ k=>exact ZG h (by omega) k (m+1) D (by omega) (by omega) U X
  ·refine A1 (o:=(1,_)) ?_ (by simp);rw[Qdb,AZ (by omega),show fI t.aE u=D by omega]
theorem Qx9 (h:TQ t) (u:Int):IT (Br t++[I (clT t u)])=some [I (if t.aE=[]then-1 else(iT t u:Int))]:=by
 have he:=Z9p L7 (t.aE.map AS) t.length t.aQ t.aT.x t.aT.y t.aT.z (clT t u);unfold IT;refine dh he ?_;rw[ah];have L:=h.count;by_cases c:t.aE=[]
 ·have D:L7 [I (clT t u),I 0,I (-1), .vC As (t.aE.map AS),I t.length,I t.aQ,I t.aT.x,I t.aT.y,I t.aT.z]=some (1,[I (-1)]):=by
   refine A1 (o:=(1,_)) ?_ (by simp);rw[Qdb,AZ (by omega)]
  have e1:V ((t.aE.length:Int)-1)= -1:=by rw[c];rfl
  rw[ab c,e1];generalize L7=N at*;simp only[D,go_sem]
 ·have S:0<t.aE.length:=by
   cases O:t.aE with
   |nil=>exact absurd O c
   |cons _ _=>simp
  have M:=OJ h u c;have D:=ZG h (u:=clT t u) M t.aE.length 0 (t.aE.length-1) (by omega) (by omega) (by unfold iT at M;omega) (by omega);have G:L7 [I (clT t u),I 0,I (t.aE.length-1:Nat), .vC As (t.aE.map AS),I t.length,I t.aQ,I t.aT.x,I t.aT.y,I t.aT.z]=some (1,[I (iT t u:Int)]):=D;have e1:V ((t.aE.length:Int)-1)=((t.aE.length-1:Nat):Int):=by rw[Ae];omega
  rw[aa c,e1];generalize L7=N at*;simp only[G,go_sem]
theorem Zuf (h:TQ t) (u:Int) (D:t.aE≠[]):
  V ((pcA t.aE (iT t u)).s+V ((pcA t.aE (iT t u)).bC*V (clT t u-(pcA t.aE (iT t u)).at_)))=BK t u:=by
 have I:=OJ h u D;have L:=h.pos _ I;have M:=h.s _ I;have G:=h.bC _ I;have N:=QO h u;have O:=h.len;unfold BK eI at*;rw[aa D,Ae (x:=clT t u-_)];generalize pcA t.aE (iT t u)=c at*;have hb:(-900000000000000<=c.bC*(clT t u-c.at_)/\c.bC*(clT t u-c.at_)<=900000000000000):=by
  rcases G with G|G|G<;>rw[G]<;>omega
 rw[Ae (x:=c.bC*_),Ae]
theorem Zen (h:TQ t) {u:Int} (L:Z [I u,I t.length]=some [I (clT t u)]) (D:M (Br t++[I (clT t u)])=some [I (if t.aE=[]then-1 else(iT t u:Int))]):Ql2 M Z (Br t++[I u])=some [I (BK t u)]:=by
 have he:=Zsl M Z (t.aE.map AS) t.length t.aQ t.aT.x t.aT.y t.aT.z u;refine dh he ?_;simp only[Br,az,bc]at D;by_cases c:t.aE=[]
 ·rw[ab c]at D;simp only[L,D,go_sem];rw[ab];unfold BK;rw[ab c]
 ·have O:=OJ h u c;have N:=h.count;have G:(0:Int)<=(iT t u:Int)/\(iT t u:Int)<(t.aE.length:Int):=by omega
  rw[aa c]at D;simp only[L,D,go_sem,ah,ab G,ak,Tw O,Zuf h u c];rw[aa]
theorem UU (h:TQ t) (u:Int):ED (Br t++[I u])=some [I (BK t u)]:=Zen h Vg (Qx9 h u)
def HT (D:Int) (l:List Int):Prop:=(∀v∈l,-4096<=v/\v<=4096)/\∀i,i+1<l.length-> -D<=4*(l.getD (i+1) 0-l.getD i 0)/\4*(l.getD (i+1) 0-l.getD i 0)<=D
structure AxOK (a : Axs) : Prop where
 step:4<=a.step/\a.step<=64
 bB:0<=a.bB/\a.bB<=6
 aV: -200<=a.aV/\a.aV<=200
 aO:a.aW≠[]->4<=a.aO/\a.aO<=123
 aW:HT a.aO a.aW
 count:a.aW.length<=4
 lim:1<=a.aS/\a.aS<=1000/\2<=a.bD/\a.bD<=1000/\4<=a.bE/\a.bE<=1000/\a.low= -16777216/\a.aY=16777216
theorem R8 {l m:List Int} (h:i<l.length):(l++m).getD i 0=l.getD i 0:=by simp[fc,j0 h]
theorem Znt (l m:List Int) (v:Int):(l++v::m).getD l.length 0=v:=by simp[fc]
theorem Zx9 {G v w:Int} {l:List Int} (h:HT G (l++[v])) (I: -4096<=w/\w<=4096) (L: -G<=4*(w-v)/\4*(w-v)<=G):HT G (l++[v]++[w]):=by
 refine⟨?_,?_⟩
 ·intro x D;rcases bn.1 D with D|D
  ·exact h.1 x D
  ·rw[du]at D;subst D;exact I
 ·intro i M;simp only[ap,bm,da]at M;by_cases c:i+1<(l++[v]).length
  ·have:=h.2 i c;have c':i<(l++[v]).length:=by omega
   rw[R8 c,R8 c'];exact this
  ·simp only[ap,bm,da]at c;have e:i=l.length:=by omega
   subst e;have g1:(l++[v]++[w]).getD (l.length+1) 0=w:=by
    simp
   have g2:(l++[v]++[w]).getD l.length 0=v:=by
    rw[fa];exact Znt l ([]++[w]) v
   rw[g1,g2];exact L
theorem Zzz {l:List Int} (h:HT a (l++[v])):HT a l:=by
 refine⟨λx D=>h.1 x (by simp[D]),λi G=> ?_⟩;have:=h.2 i (by simp;omega);rw[R8 G,R8 (by omega)]at this;exact this
theorem Zqb (G: -4096<=v/\v<=4096):HT a ([]++[v]):=⟨λx D=>by simp at D;subst D;exact G,λi I=>by simp at I⟩
theorem Z3m (h:0<=v/\v<6):∃x,Af (nth .vD (nth [] [[I 8],[I 4],[I 5],[I 16],[I 23],[I 64]] v.toNat) 0)=x/\4<=x/\x<=64:=by
 have D:v=0\/v=1\/v=2\/v=3\/v=4\/v=5:=by omega
 rcases D with rfl|rfl|rfl|rfl|rfl|rfl<;>exact⟨_,rfl,by decide⟩
theorem Qmp (h:0<=v/\v<5):∃x y z,Af (nth .vD (nth [] [[I 40],[I 1],[I 3],[I 9],[I 1000]] v.toNat) 0)=x/\Af (nth .vD (nth [] [[I 20],[I 2],[I 3],[I 5],[I 1000]] v.toNat) 0)=y/\Af (nth .vD (nth [] [[I 30],[I 4],[I 5],[I 8],[I 1000]] v.toNat) 0)=z/\1<=x/\x<=1000/\2<=y/\y<=1000/\4<=z/\z<=1000:=by
 have D:v=0\/v=1\/v=2\/v=3\/v=4:=by omega
 rcases D with rfl|rfl|rfl|rfl|rfl<;>exact⟨_,_,_,rfl,rfl,rfl,by decide⟩
theorem Zvg (h:0<=v/\v<4):∃x,Af (nth .vD (nth [] [[I 0],[I 1],[I 3],[I 6]] v.toNat) 0)=x/\0<=x/\x<=6:=by
 have D:v=0\/v=1\/v=2\/v=3:=by omega
 rcases D with rfl|rfl|rfl|rfl<;>exact⟨_,rfl,by decide⟩
abbrev axS (l:Rw) (D:List Int) (n v:Int) (j:Nat) (a:Axs) (k:Nat):List AC:=
 [.vC Aa [], .vC Aa (D.map Aq),I n,I v,I j,I 0,I 0,I 0,I 0,I 0,I 0,I 0,I 0,I 0,I a.step,I a.aS,I a.bD,I a.bE,I a.low,I a.aY,I a.bB,I a.aV,I a.aO, .vC Aa l,I k]
theorem Zb9 {MN:Fn} {l:Rw} (N:GH l MN) {a:Axs} (L:4<=a.aO/\a.aO<=123):∀(r j:Nat) (D:List Int) (v:Int) (k:Nat),j+r<=4->D.length=j->HT a.aO (D++[v])->
  ∃(G:List Int) (k':Nat),Am (RP MN) (axS l D (j+r:Nat) v j a k)=some (1,[.vC Aa [], .vC Aa (G.map Aq),I 0,I 0,I 0,I 0,I 0,I 0,I 0,I 0,I 0,I a.step,I a.aS,I a.bD,I a.bE,I a.low,I a.aY,I a.bB,I a.aV,I a.aO, .vC Aa l,I k'])/\G.length=j+r/\HT a.aO G
 |0,j,D,v,k,_,O,h=>by
  refine⟨D,k,A1 (o:=(1,_)) ?_ (by simp),by omega,Zzz h⟩;rw[Q6u,AZ (by omega)]
 |r+1,j,D,v,k,hj,O,h=>by
  have hv:=h.1 v (by simp);have T:V (a.aO.tdiv 4)=a.aO/4:=by rw[bp (by omega),Ae]
  have U:V (V (2*(a.aO/4))+1)=2*(a.aO/4)+1:=by rw[Ae (x:=2*(a.aO/4)),Ae]
  obtain⟨w,S,X,w0,w1,-⟩:=N k (n:=2*(a.aO/4)+1) (by omega);have Y:V (V (v+w)-a.aO/4)=v+w-a.aO/4:=by rw[Ae (x:=v+w),Ae]
  have hle:(D.map Aq++[[I v]]).length*8<=140737488355328:=by rw[ap,ah];simp only[bm,da];omega
  have M:RP MN (axS l D (j+(r+1):Nat) v j a k)=some (0,axS l (D++[v]) (j+1+r:Nat) (min (max (v+w-a.aO/4) (-4096)) 4096) (j+1) a S):=by
   rw[Q6u];simp only[go_sem,ab hle,T,U,X,Y,J4,NM];rw[ab,Ae (x:=(j:Int)+1),show j+(r+1)=j+1+r by omega];simp only[axS,bv,ba,dp,Aq,ii,iv]
  rw[Bc M];obtain⟨p',k',h1,h2,h3⟩:=Zb9 N L r (j+1) (D++[v]) (min (max (v+w-a.aO/4) (-4096)) 4096) S (by omega) (by simp[O]) (Zx9 h (by omega) (by omega));exact⟨p',k',h1,by omega,h3⟩
theorem Zkx (G:GH l M)
  (hL:∀{a:Axs} {n:Nat} {v:Int} {k:Nat},(4<=a.aO/\a.aO<=123)->n<=4->HT a.aO ([]++[v])->∃(D:List Int) (k':Nat),N (axS l [] n v 0 a k)=some (1,[.vC Aa [], .vC Aa (D.map Aq),I 0,I 0,I 0,I 0,I 0,I 0,I 0,I 0,I 0,I a.step,I a.aS,I a.bD,I a.bE,I a.low,I a.aY,I a.bB,I a.aV,I a.aO, .vC Aa l,I k'])/\D.length=n/\HT a.aO D) (k:Nat):
  ∃(a:Axs) (k':Nat),Vw M N [.vC Aa l,I k]=some (Bl a++[.vC Aa l,I k'])/\AxOK a:=by
 obtain⟨v1,k1,h1,a1,b1,-⟩:=G k (n:=6) (by omega);obtain⟨v2,k2,h2,a2,b2,-⟩:=G k1 (n:=4) (by omega);obtain⟨v3,k3,h3,a3,b3,-⟩:=G k2 (n:=5) (by omega);obtain⟨v4,k4,h4,a4,b4,-⟩:=G k3 (n:=5) (by omega);obtain⟨v5,k5,h5,a5,b5,-⟩:=G k4 (n:=5) (by omega);obtain⟨L,k6,h6,a6,b6,-⟩:=G k5 (n:=5) (by omega);obtain⟨Y,k7,h7,a7,b7,-⟩:=G k6 (n:=400) (by omega);obtain⟨v8,k8,h8,a8,b8,-⟩:=G k7 (n:=120) (by omega);obtain⟨v9,k9,h9,a9,b9,-⟩:=G k8 (n:=9) (by omega);obtain⟨O,e1,s1⟩:=Z3m ⟨a1,b1⟩;obtain⟨S,e2,s2⟩:=Zvg ⟨a2,b2⟩;have i1:(0:Int)<=v1/\v1<(([[I 8],[I 4],[I 5],[I 16],[I 23],[I 64]]:Rw).length:Int):=⟨a1,by simp;omega⟩;have i2:(0:Int)<=v2/\v2<(([[I 0],[I 1],[I 3],[I 6]]:Rw).length:Int):=⟨a2,by simp;omega⟩;have i3:(0:Int)<=v3/\v3<(([[I 40],[I 1],[I 3],[I 9],[I 1000]]:Rw).length:Int):=⟨a3,by simp;omega⟩;have i4:(0:Int)<=v4/\v4<(([[I 20],[I 2],[I 3],[I 5],[I 1000]]:Rw).length:Int):=⟨a4,by simp;omega⟩;have i5:(0:Int)<=v5/\v5<(([[I 30],[I 4],[I 5],[I 8],[I 1000]]:Rw).length:Int):=⟨a5,by simp;omega⟩;obtain⟨T,_,_,a0,-,-,s3,t3,-⟩:=Qmp ⟨a3,b3⟩;obtain⟨_,U,_,-,b0,-,-,-,s4,t4,-⟩:=Qmp ⟨a4,b4⟩;obtain⟨_,_,V,-,-,c0,-,-,-,-,s5,t5⟩:=Qmp ⟨a5,b5⟩;have main : ∀ R, R = (if L = 0 then some [I O, I T, I U, I V, I (-16777216), I 16777216, I S, I 0, I 0, .vC Aa [], .vC Aa l, I k6] else
   (N (axS l [] L.toNat (v9-4) 0 ⟨O,T,U,V,-16777216,16777216,S,Y-200,4+v8,[]⟩ k9)).bind λo=>if o.1=1 then some [I (Af (nth .vD o.2 11)),I (Af (nth .vD o.2 12)),I (Af (nth .vD o.2 13)),I (Af (nth .vD o.2 14)),I (Af (nth .vD o.2 15)),I (Af (nth .vD o.2 16)),I (Af (nth .vD o.2 17)),I (Af (nth .vD o.2 18)),I (Af (nth .vD o.2 19)), .vC Aa (Bq (nth .vD o.2 1)), .vC Aa (Bq (nth .vD o.2 20)),I (Af (nth .vD o.2 21))]else none)->
   ∃(a:Axs) (k':Nat),R=some (Bl a++[.vC Aa l,I k'])/\AxOK a:=by
  intro R X;by_cases c:L=0
  ·rw[ab c]at X;refine⟨⟨O,T,U,V,-16777216,16777216,S,0,0,[]⟩,k6,X,?_⟩;exact⟨s1,s2,by simp,λh=>absurd rfl h,⟨by simp,by simp⟩,by simp,⟨s3,t3,s4,t4,s5,t5,rfl,rfl⟩⟩
  ·rw[aa c]at X;obtain⟨c1,k',g1,g2,g3⟩:=hL (a:=⟨O,T,U,V,-16777216,16777216,S,Y-200,4+v8,[]⟩) (n:=L.toNat) (v:=v9-4) (k:=k9) (by simp only;omega) (by omega) (Zqb (by omega));rw[g1]at X;refine⟨⟨O,T,U,V,-16777216,16777216,S,Y-200,4+v8,c1⟩,k',?_,?_⟩
   ·rw[X];simp only[go_sem];try rfl
   ·exact⟨s1,s2,by simp only;omega,λ_=>by simp only;omega,g3,by simp only;omega,⟨s3,t3,s4,t4,s5,t5,rfl,rfl⟩⟩
 refine main _ ?_;rw[Zfy];simp only[go_sem,h1,h2,h3,h4,h5,h6,ab i1,ab i2,ab i3,ab i4,ab i5,e1,e2,a0,b0,c0];by_cases c:L=0
 ·rw[ab c,ab c]
 ·rw[aa c,aa c];simp only[h7,h8,h9,go_sem,Ae (x:=v9-4),Ae (x:=Y-200),Ae (x:=4+v8)];have e:((L.toNat:Nat):Int)=L:=by omega
  simp only[axS,e,dp];rfl
theorem Qq4 (D:Src l) (k:Nat):∃(a:Axs) (k':Nat),Mx [.vC Aa l,I k]=some (Bl a++[.vC Aa l,I k'])/\AxOK a:=by
 refine Zkx (N:=Qo8) (Hg D) (fun{a n v k} M T O=> ?_) k;obtain⟨p,k',G,L,S⟩:=Zb9 (MN:=BE) (Hg D) M n 0 [] v k (by omega) rfl O;rw[dy]at G L;exact⟨p,k',G,L,S⟩
structure Ax3M (x : Ax3) : Prop where
 a:AxOK x.a
 b:AxOK x.b
 c:AxOK x.c
theorem Ax3M.ok {x:Ax3} (h:Ax3M x):Ax3OK x:=⟨by have:=h.a.bB;omega,by have:=h.b.bB;omega,by have:=h.c.bB;omega⟩
theorem Zzg (G:Src l):∃x:Ax3,N_ [.vC Aa l]=some (AE x)/\Ax3M x:=by
 obtain⟨a,L,O,g1⟩:=Qq4 G 0;obtain⟨b,S,M,g2⟩:=Qq4 G L;obtain⟨c,V,N,T⟩:=Qq4 G S;refine⟨⟨a,b,c⟩,?_,g1,g2,T⟩;have hf:=Ql l;unfold N_;generalize Mx=U at*;generalize Cu=X at*;rw[Z9u];have D:U [.vC Aa l,I 0]=some (Bl a++[.vC Aa l,I L]):=O;simp only[Bl,az,bc]at D M N;simp only[go_sem,hf,D,M,N]
theorem Z09 {x:Ax3} {mv lo hi f:Int} {d:Pt} (j:Nat):(Cz p x mv lo hi (⟨[],0,f,d⟩,d) j).1.aQ=f/\(Cz p x mv lo hi (⟨[],0,f,d⟩,d) j).1.aT=d:=by
 induction j with
 |zero=>exact⟨rfl,rfl⟩
 |succ j D=>rw[Cz,(Q8f _).1,(Q8f _).2];exact D
theorem Zam {p:Pth} {x:Ax3} {lo D mv f:Int} {d:Pt} (M:mv=1\/mv= -1) (G:GoodPath p) (I:Ax3OK x):∀(k j:Nat),j+k=p.aF.length->∀w,w=Cz p x mv lo D (⟨[],0,f,d⟩,d) j->
  Am (UF FA Oj) (Pn p x lo D mv w.1 w.2 j)=some (1,FM x mv (Cz p x mv lo D (⟨[],0,f,d⟩,d) p.aF.length).1 (Cz p x mv lo D (⟨[],0,f,d⟩,d) p.aF.length).2)
 |0,j,U,w,L=>by
  have O:j=p.aF.length:=by omega
  refine A1 (o:=(1,_)) ?_ (by simp);rw[Q76,AZ (by omega),L,O]
 |k+1,j,U,w,L=>by
  have T:=G.count;have hb:=Yo (mv:=mv) (lo:=lo) (hi:=D) (f:=f) (d:=d) I G.ok j (by omega);rw[<-L]at hb;have S:=Zzd (MV:=FA) (N:=Oj) (lo:=lo) (hi:=D) (now:=w.2) (j:=j) M G I hb (by omega) (by omega) (by omega) (fun{a b s aR} V=>Zvl M I hb (by omega) (by omega) (k:=268435456) (by omega) V);rw[Bc S];exact Zam M G I k (j+1) (by omega) _ (by rw[Cz,<-L])
theorem Zdo {MV:Fn} {N4 N10:Lp} {x:Ax3} {lo D mv f:Int}
  (L:N4 (QP p x lo D mv ⟨[],0,f,H⟩ H 0 [] 0)=some (1,[.vC Aa (Fa p.aF p.aF.length), .vC As [],I lo,I D,I mv,I p.aQ.x,I p.aQ.y,I p.aQ.z, .vC Aj (p.aF.map Ay), .vC AF (p.aD.map At),I H.x,I H.y,I H.z,I mv,I x.a.step,I x.a.aS,I x.a.bD,I x.a.bE,I x.a.low,I x.a.aY,I x.a.bB,I x.a.aV,I x.a.aO, .vC Aa (x.a.aW.map Aq),I x.b.step,I x.b.aS,I x.b.bD,I x.b.bE,I x.b.low,I x.b.aY,I x.b.bB,I x.b.aV,I x.b.aO, .vC Aa (x.b.aW.map Aq),I x.c.step,I x.c.aS,I x.c.bD,I x.c.bE,I x.c.low,I x.c.aY,I x.c.bB,I x.c.aV,I x.c.aO, .vC Aa (x.c.aW.map Aq),I 0,I f,I H.x,I H.y,I H.z]))
  (G:N10 (Pn p x lo D mv ⟨[],0,f,H⟩ H 0)=some (1,FM x mv (Cz p x mv lo D (⟨[],0,f,H⟩,H) p.aF.length).1 (Cz p x mv lo D (⟨[],0,f,H⟩,H) p.aF.length).2)):
  Qc0 MV N4 N10 [.vC As [],I p.aQ.x,I p.aQ.y,I p.aQ.z, .vC Aj (p.aF.map Ay), .vC AF (p.aD.map At),I lo,I D,I mv,I H.x,I H.y,I H.z,I mv,I x.a.step,I x.a.aS,I x.a.bD,I x.a.bE,I x.a.low,I x.a.aY,I x.a.bB,I x.a.aV,I x.a.aO, .vC Aa (x.a.aW.map Aq),I x.b.step,I x.b.aS,I x.b.bD,I x.b.bE,I x.b.low,I x.b.aY,I x.b.bB,I x.b.aV,I x.b.aO, .vC Aa (x.b.aW.map Aq),I x.c.step,I x.c.aS,I x.c.bD,I x.c.bE,I x.c.low,I x.c.aY,I x.c.bB,I x.c.aV,I x.c.aO, .vC Aa (x.c.aW.map Aq),I 0,I f,I H.x,I H.y,I H.z]=some (FM x mv (Cz p x mv lo D (⟨[],0,f,H⟩,H) p.aF.length).1 (Cz p x mv lo D (⟨[],0,f,H⟩,H) p.aF.length).2):=by
 rw[Zqx];simp only[QP,dp,iv]at L;simp only[Pn,FM,dp,iv]at G;simp only[go_sem,ah,L,G]
theorem Zem {x:Ax3} {lo D mv f:Int} (L:mv=1\/mv= -1) (G:GoodPath p) (N:Ax3OK x):
  PA [.vC As [],I p.aQ.x,I p.aQ.y,I p.aQ.z, .vC Aj (p.aF.map Ay), .vC AF (p.aD.map At),I lo,I D,I mv,I H.x,I H.y,I H.z,I mv,I x.a.step,I x.a.aS,I x.a.bD,I x.a.bE,I x.a.low,I x.a.aY,I x.a.bB,I x.a.aV,I x.a.aO, .vC Aa (x.a.aW.map Aq),I x.b.step,I x.b.aS,I x.b.bD,I x.b.bE,I x.b.low,I x.b.aY,I x.b.bB,I x.b.aV,I x.b.aO, .vC Aa (x.b.aW.map Aq),I x.c.step,I x.c.aS,I x.c.bD,I x.c.bE,I x.c.low,I x.c.aY,I x.c.bB,I x.c.aV,I x.c.aO, .vC Aa (x.c.aW.map Aq),I 0,I f,I H.x,I H.y,I H.z]=some (FM x mv (Cz p x mv lo D (⟨[],0,f,H⟩,H) p.aF.length).1 (Cz p x mv lo D (⟨[],0,f,H⟩,H) p.aF.length).2):=by
 refine Zdo (MV:=FA) (N4:=Oj) (N10:=Qfn) ?_ (Zam L G N p.aF.length 0 (by omega) _ rfl);have h:=Q24 (M:=FA) (x:=x) (lo:=lo) (hi:=D) (mv:=mv) (t:=⟨[],0,f,H⟩) (now:=H) G.ok p.aF.length 0 (by omega);rw[Td]at h;exact h
theorem Z87 {x:Ax3} (D:S (Bu p)=some [I (AX p.aF)]) (L:∀n h:Int,T [I n,I h]=some [I (B7 n h)])
  (G:∀{lo hi mv f:Int},(mv=1\/mv= -1)->M [.vC As [],I p.aQ.x,I p.aQ.y,I p.aQ.z, .vC Aj (p.aF.map Ay), .vC AF (p.aD.map At),I lo,I hi,I mv,I H.x,I H.y,I H.z,I mv,I x.a.step,I x.a.aS,I x.a.bD,I x.a.bE,I x.a.low,I x.a.aY,I x.a.bB,I x.a.aV,I x.a.aO, .vC Aa (x.a.aW.map Aq),I x.b.step,I x.b.aS,I x.b.bD,I x.b.bE,I x.b.low,I x.b.aY,I x.b.bB,I x.b.aV,I x.b.aO, .vC Aa (x.b.aW.map Aq),I x.c.step,I x.c.aS,I x.c.bD,I x.c.bE,I x.c.low,I x.c.aY,I x.c.bB,I x.c.aV,I x.c.aO, .vC Aa (x.c.aW.map Aq),I 0,I f,I H.x,I H.y,I H.z]=some (FM x mv (Cz p x mv lo hi (⟨[],0,f,H⟩,H) p.aF.length).1 (Cz p x mv lo hi (⟨[],0,f,H⟩,H) p.aF.length).2)):
  Qf2 M Z W T S (Bu p++AE x++[I H.x,I H.y,I H.z,I a,I k])=some (Br (Ez p x H a k)):=by
 have he:=Zhb M Z W T S p.aQ.x p.aQ.y p.aQ.z (p.aF.map Ay) (p.aD.map At) x.a.step x.a.aS x.a.bD x.a.bE x.a.low x.a.aY x.a.bB x.a.aV x.a.aO (x.a.aW.map Aq) x.b.step x.b.aS x.b.bD x.b.bE x.b.low x.b.aY x.b.bB x.b.aV x.b.aO (x.b.aW.map Aq) x.c.step x.c.aS x.c.bD x.c.bE x.c.low x.c.aY x.c.bB x.c.aV x.c.aO (x.c.aW.map Aq) H.x H.y H.z a k;refine dh he ?_;unfold Ez;simp only[Bu]at D;simp only[D,L,go_sem,J4,NM];generalize B7 a (AX p.aF)=f at*;generalize B7 k (AX p.aF)=t at*;by_cases c:t<f
 ·have h:=G (lo:=min f t) (hi:=max f t) (mv:= -1) (f:=f) (.inr rfl);simp only[FM]at h;simp only[h,go_sem,c,dq]
 ·have h:=G (lo:=min f t) (hi:=max f t) (mv:=1) (f:=f) (.inl rfl);simp only[FM]at h;simp only[h,go_sem,c,gq]
theorem Z3s {x:Ax3} {d:Pt} {from_ to:Int} (D:GoodPath p) (G:Ax3OK x):Pr (Bu p++AE x++[I d.x,I d.y,I d.z,I from_,I to])=some (Br (Ez p x d from_ to)):=
 Z87 (Q7h D.ok) (λ_ _=>Vg) λL=>Zem L D G
theorem Ybe {x:Ax3} (d:Pt) (a b:Int) (D:GoodPath p) (G:Ax3OK x):(Ez p x d a b).aE.length<=10000000/\0<=(Ez p x d a b).length/\(Ez p x d a b).length<=900000000000000:=by
 have I:=D.count;have h:=Yo (mv:=if B7 a (AX p.aF)>B7 b (AX p.aF)then-1 else 1) (lo:=min (B7 a (AX p.aF)) (B7 b (AX p.aF))) (hi:=max (B7 a (AX p.aF)) (B7 b (AX p.aF))) (f:=B7 a (AX p.aF)) (d:=d) G D.ok p.aF.length (co _);obtain⟨L,M,-⟩:=h;unfold Ez;simp only;refine⟨by omega,by omega,by omega⟩
theorem Qtg {x:Ax3} {mv:Int} {Q:Int->Pt->Prop}:∀{a s:Int} {d:Pt} {l:List Pce},Fu x mv Q a s d l->a<=EF a l
 |a,_,_,[],_=>dt _
 |a,s,d,c::l,h=>by
  obtain⟨-,-,G,-,D⟩:=h;have:=Qtg D;unfold EF;omega
theorem Re {x:Ax3} {mv:Int} {Q:Int->Pt->Prop} (I:mv=1\/mv= -1):∀{a s:Int} {d:Pt} {l:List Pce},Fu x mv Q a s d l->∀i,i<l.length->
  a<=(pcA l i).at_/\1<=(pcA l i).aR/\eI l i<=EF a l/\(s-((pcA l i).at_-a)<=(pcA l i).s/\(pcA l i).s<=s+((pcA l i).at_-a))/\((pcA l i).bC=0\/(pcA l i).bC=mv)
 |a,s,d,c::l,h,0,_=>by
  obtain⟨N,O,L,D,G⟩:=h;have:=Qtg G;unfold eI;rw[KU];refine⟨by omega,L,by unfold EF;omega,by omega,?_⟩;rcases D with D|D
  ·exact .inr D.1
  ·exact .inl D.1
 |a,s,d,c::l,h,i+1,S=>by
  obtain⟨N,O,L,D,G⟩:=h;have M:=Re I G i (by simpa using S);unfold eI at M⊢;rw[H5];obtain⟨g1,g2,T,V,U⟩:=M;have X:c.bC*c.aR=0\/c.bC*c.aR=c.aR\/c.bC*c.aR= -c.aR:=by
   rcases D with D|D
   ·rw[D.1];rcases I with rfl|rfl<;>omega
   ·rw[D.1];omega
  refine⟨by omega,g2,by unfold EF;exact T,by omega,U⟩
theorem Q10 {x:Ax3} {mv:Int} {Q:Int->Pt->Prop} (L:mv=1\/mv= -1):∀{a s:Int} {d:Pt} {l:List Pce},Fu x mv Q a s d l->∀i j,i<=j->j<l.length->eI l i<=eI l j
 |a,s,d,c::l,h,0,0,_,_=>dt _
 |a,s,d,c::l,h,0,j+1,_,D=>by
  obtain⟨M,N,O,S,G⟩:=h;have:=Re L G j (by simpa using D);unfold eI at*;rw[KU,H5];omega
 |a,s,d,c::l,h,i+1,0,I,_=>by omega
 |a,s,d,c::l,h,i+1,j+1,I,D=>by
  obtain⟨M,N,O,S,G⟩:=h;have:=Q10 L G i j (by omega) (by simpa using D);unfold eI at*;rw[H5,H5];exact this
theorem Qrx {x:Ax3} {mv:Int} {Q:Int->Pt->Prop}:∀{a s:Int} {d:Pt} {l:List Pce},Fu x mv Q a s d l->l≠[]->eI l (l.length-1)=EF a l
 |a,s,d,[c],h,_=>by
  obtain⟨G,-⟩:=h;show eI [c] 0=EF a [c];unfold eI;rw[KU];simp only[EF];omega
 |a,s,d,c::e::l,h,_=>by
  obtain⟨-,-,-,-,D⟩:=h;have:=Qrx D (by simp);have e1:(c::e::l).length-1=((e::l).length-1)+1:=by simp
  rw[e1];unfold eI at*;rw[H5,this];rfl
def mvP (p:Pth) (a b:Int):Int:=if B7 a (AX p.aF)>B7 b (AX p.aF)then-1 else 1
theorem Z5e (p:Pth) (a b:Int):mvP p a b=1\/mvP p a b= -1:=by unfold mvP;split<;>simp
theorem Q4w {x:Ax3} {d:Pt} (I:Ax3OK x) (D:GoodPath p) (L:Qum p (mvP p a b) Q):
  ∃M,TC x (mvP p a b) Q (Ez p x d a b) (B7 b (AX p.aF)) M/\(Ez p x d a b).aQ=B7 a (AX p.aF)/\(Ez p x d a b).aT=d:=by
 have S:=Q6l D;have T:0<=B7 a (AX p.aF)/\B7 a (AX p.aF)<=AX p.aF:=by unfold B7;omega
 have hb:0<=B7 b (AX p.aF)/\B7 b (AX p.aF)<=AX p.aF:=by unfold B7;omega
 have G:=λmv lo N f=>Z09 (p:=p) (x:=x) (mv:=mv) (lo:=lo) (hi:=N) (f:=f) (d:=d) p.aF.length;unfold Ez mvP at*;simp only;generalize B7 a (AX p.aF)=f at*;generalize B7 b (AX p.aF)=t at*;have h:=Q7i (p:=p) (x:=x) (mv:=if f>t then-1 else 1) (lo:=min f t) (hi:=max f t) (f:=f) (d:=d) (Q:=Q) (by split<;>simp) I D.ok (by omega) (by split<;>omega) L p.aF.length (co _);have O:J2 p.aF (if f>t then-1 else 1) (min f t) (max f t) p.aF.length=t:=by
  unfold J2;rw[iw,Td,Q7v];by_cases c:f>t
  ·rw[ab c,ab];omega
  ·rw[aa c,aa];omega
 rw[O]at h;exact⟨_,h,(G _ _ _ _).1,(G _ _ _ _).2⟩
theorem Zzh {x:Ax3} {s:Int} (D:a=1\/a= -1) (h:TC x a Q t s H) (hb:t.aE.length<=10000000/\0<=t.length/\t.length<=900000000000000) (N:0<=t.aQ/\t.aQ<=263886834032640):TQ t:=by
 obtain⟨G,L,-,-⟩:=h;refine⟨hb.1,hb.2,λi I=> ?_,Q10 D G,λM=>by rw[Qrx G M,L],N,λi I=> ?_,λi I=> ?_⟩
 ·have:=Re D G i I;rw[L]at this;exact⟨this.1,this.2.1,this.2.2.1⟩
 ·have:=Re D G i I;rw[L]at this;unfold eI at this;omega
 ·have:=(Re D G i I).2.2.2.2;rcases D with rfl|rfl
  ·rcases this with h|h
   ·exact .inl h
   ·exact .inr (.inl h)
  ·rcases this with h|h
   ·exact .inl h
   ·exact .inr (.inr h)
theorem Zfx {x:Ax3} (d:Pt) (a b:Int) (G:Ax3OK x) (D:GoodPath p):TQ (Ez p x d a b):=by
 have M:=Q6l D;obtain⟨N,I,L,-⟩:=Q4w (d:=d) (a:=a) (b:=b) (Q:=λ_ _=>True) G D (λ_ _ _ _ _ _ _ _=>trivial);exact Zzh (Z5e p a b) I (Ybe d a b D G) (by rw[L];unfold B7;omega)
def Ca (a:Axs) (i:Nat):Int:=a.aW.getD i 0
def Kt (a:Axs) (p:Int):Int:=
 if a.aW=[]then 0
 else if p<=a.aV then Ca a 0
 else if(p-a.aV)/a.aO>=a.aW.length-1 then Ca a (a.aW.length-1)
 else Ca a ((p-a.aV)/a.aO).toNat+Bi ((Ca a (((p-a.aV)/a.aO).toNat+1)-Ca a ((p-a.aV)/a.aO).toNat)*(p-a.aV-(p-a.aV)/a.aO*a.aO)) a.aO
def Ig (a:Axs) (p:Int):Int:=Bi (p+Kt a p) a.step
def okB (p:Int):Prop:= -1000000000<=p/\p<=1000000000
theorem Qy4 {l:List Int} (h:l≠[]):0<l.length:=by
 cases l with
 |nil=>exact absurd rfl h
 |cons _ _=>simp
theorem P4 {a:Axs} (h:AxOK a) {i:Nat} (D:i<a.aW.length): -4096<=Ca a i/\Ca a i<=4096:=by
 have e:Ca a i=a.aW[i]:=by unfold Ca;simp[D]
 rw[e];exact h.aW.1 _ (cg _)
theorem S6 {a:Axs} (D:i<a.aW.length):nth [] (a.aW.map Aq) i=[I (Ca a i)]:=by
 have e:Ca a i=a.aW[i]:=by unfold Ca;simp[D]
 rw[e];exact IR _ _ _ _ D
theorem Q4q {a:Axs} (h:AxOK a) (D:a.aW≠[]) {p:Int} (G: ¬p<=a.aV) (I: ¬(p-a.aV)/a.aO>=a.aW.length-1):
  ∃(i:Nat) (r:Int),((p-a.aV)/a.aO=i)/\i+1<a.aW.length/\0<=r/\r<a.aO/\p-a.aV=i*a.aO+r/\p-a.aV-(p-a.aV)/a.aO*a.aO=r:=by
 have L:=h.aO D;have e0:=Int.mul_ediv_add_emod (p-a.aV) a.aO;have e1:=Int.emod_nonneg (p-a.aV) (show a.aO≠0 by omega);have e2:=Int.emod_lt_of_pos (p-a.aV) (show 0<a.aO by omega);have e3:0<=(p-a.aV)/a.aO:=Int.ediv_nonneg (by omega) (by omega);refine⟨((p-a.aV)/a.aO).toNat,(p-a.aV)%a.aO,by omega,by omega,e1,e2,?_,?_⟩
 ·rw[Int.toNat_of_nonneg e3,jk];omega
 ·rw[jk ((p-a.aV)/a.aO)];omega
theorem Za5 {a:Axs} (h:AxOK a) (D:a.aW≠[]) {i:Nat} (I:i+1<a.aW.length) {r:Int} (G:0<=r/\r<=a.aO):
  (-30<=Ca a (i+1)-Ca a i/\Ca a (i+1)-Ca a i<=30)/\(Bi ((Ca a (i+1)-Ca a i)*r) a.aO).natAbs<=31:=by
 have M:=h.aO D;have N:=h.aW.2 i I;have L: -30<=Ca a (i+1)-Ca a i/\Ca a (i+1)-Ca a i<=30:=by unfold Ca;omega
 refine⟨L,Qec (by omega) ?_⟩;have m1:(Ca a (i+1)-Ca a i)*r<=31*r:=fe (by omega) G.1;have m2: -31*r<=(Ca a (i+1)-Ca a i)*r:=fe (by omega) G.1;have e:((31:Nat):Int)=31:=rfl;rw[e];omega
theorem Q3o {a:Axs} (h:AxOK a) (p:Int): -5000<=Kt a p/\Kt a p<=5000:=by
 unfold Kt;by_cases c:a.aW=[]
 ·rw[ab c];omega
 ·have I:=Qy4 c;rw[aa c];by_cases D:p<=a.aV
  ·rw[ab D];have:=P4 h (show 0<a.aW.length from I);omega
  ·rw[aa D];by_cases G:(p-a.aV)/a.aO>=a.aW.length-1
   ·rw[ab G];have:=P4 h (show a.aW.length-1<a.aW.length by omega);omega
   ·rw[aa G];obtain⟨i,r,e1,e2,e3,M,N,L⟩:=Q4q h c D G;rw[L,e1,ak];have b1:=P4 h (show i<a.aW.length by omega);have b2:=(Za5 h c e2 (r:=r) (by omega)).2;omega
theorem Zp9 {a:Axs} (h:AxOK a) {v:Int} (D:v.natAbs<=1000010000):Kq (Bl a++[I v])=some [I (Bi v a.step)]:=by
 have G:=h.step;have he:=Zf5 a.step a.aS a.bD a.bE a.low a.aY a.bB a.aV a.aO (a.aW.map Aq) v;unfold Kq;refine dh he ?_;rw[Ae (x:=2*v),Ae (x:=2*v+a.step),Ae (x:=2*a.step)];have L:=Int.tmod_add_mul_tdiv (2*v+a.step) (2*a.step);have M:=Int.tmod_lt_of_pos (2*v+a.step) (show 0<2*a.step by omega);have N:=Int.lt_tmod_of_pos (2*v+a.step) (show 0<2*a.step by omega);have O:((2*v+a.step).tdiv (2*a.step)).natAbs<=(2*v+a.step).natAbs:=by rw[Int.natAbs_tdiv];exact ie _ _
 generalize(2*v+a.step).tdiv (2*a.step)=q at*;generalize(2*v+a.step).tmod (2*a.step)=r at*;have e1:2*a.step*q=q*(2*a.step):=jk _ _;rw[AZ (by omega),AZ (by omega),AZ (by omega),AZ (by omega),Ae (x:=q)];by_cases h:r<0
 ·rw[DD h,Ae,Lw (k:=q-1) (by omega)]
  ·rw[Int.sub_mul];omega
  ·rw[Int.sub_add_cancel];omega
 ·rw[AZ h,Lw (k:=q) (by omega)]
  ·omega
  ·rw[js];omega
theorem Zqu {a:Axs} (h:AxOK a) {p:Int} (S:okB p):JS (Bl a++[I p])=some [I (Kt a p)]:=by
 unfold okB at S;have ho:=h.aV;have hc:=h.count;have he:=Zza Bw a.step a.aS a.bD a.bE a.low a.aY a.bB a.aV a.aO (a.aW.map Aq) p;unfold JS;have T:=fun{x y:Int} (hx:x.natAbs<=30) (hy:y.natAbs<=123) (O:4<=a.aO/\a.aO<=123)=>Q7y (a:=x) (b:=y) (c:=a.aO) (by omega) (by omega) (by omega);generalize Bw=M at*;refine dh he ?_;unfold Kt;rw[ah];by_cases c:a.aW=[]
 ·rw[ab c,c];rfl
 ·have U:=Qy4 c;have O:=h.aO c;have e1:V ((a.aW.length:Int)-1)=((a.aW.length-1:Nat):Int):=by rw[Ae];omega
  have e2:V (p-a.aV)=p-a.aV:=Ae;rw[aa c,e2,e1];by_cases L:p<=a.aV
  ·rw[ab L];simp only[go_sem,S6 U];rw[aa,ab,ab]
  ·have e3:V ((p-a.aV).tdiv a.aO)=(p-a.aV)/a.aO:=by
    rw[bp (by omega)];have:=Int.ediv_nonneg (show 0<=p-a.aV by omega) (show 0<=a.aO by omega);have:=Int.ediv_le_self a.aO (show 0<=p-a.aV by omega);exact Ae
   rw[aa L,e3];by_cases N:(p-a.aV)/a.aO>=(a.aW.length:Int)-1
   ·rw[ab N];simp only[go_sem,ak,S6 (show a.aW.length-1<a.aW.length by omega)];rw[aa,aa,aa,aa,ab,ab]
   ·rw[aa N];obtain⟨i,r,g1,g2,g3,g4,g5,X⟩:=Q4q h c L N;obtain⟨n1,n2⟩:=Za5 h c g2 (r:=r) (by omega);have b1:=P4 h (show i<a.aW.length by omega);rw[X,g1]at*;rw[ak];have Y:V ((i:Int)+1)=((i+1:Nat):Int):=by rw[Ae];omega
    have hmul:(i:Int)*a.aO=p-a.aV-r:=by omega
    have w2:V (p-a.aV-V ((i:Int)*a.aO))=r:=by rw[hmul,Ae (x:=p-a.aV-r),Ae];omega
    have D:(0:Int)<=(i:Int)/\(i:Int)<(a.aW.length:Int):=by omega
    have G:(0:Int)<=((i+1:Nat):Int)/\((i+1:Nat):Int)<(a.aW.length:Int):=by omega
    simp only[go_sem,Y,w2,ak,S6 (show i<a.aW.length by omega),S6 g2,ab D,ab G];have b2:=P4 h g2;generalize Ca a (i+1)=y at*;generalize Ca a i=z at*;rw[aa,aa,aa,aa,aa,Ae (x:=y-z),T (by omega) (by omega) O];simp only[go_sem];rw[Ae]
theorem Z6s {a:Axs} (h:AxOK a) {p:Int} (D:okB p):Mj (Bl a++[I p])=some [I (Ig a p)]:=by
 have hb:=Q3o h p;have G:=Zqu h D;unfold okB at D;have L:=Zp9 h (v:=p+Kt a p) (by omega);have he:=Zzu Kq JS a.step a.aS a.bD a.bE a.low a.aY a.bB a.aV a.aO (a.aW.map Aq) p;unfold Mj;generalize Kq=M at*;generalize JS=N at*;refine dh he ?_;simp only[Bl,az,bc]at G L;simp only[G,go_sem,Ae (x:=p+Kt a p),L];rfl
def Il (a:Axs) (d:Int):Int:=if d= -1 then-a.bB else 0
def FV (a:Axs) (bC at_ was aT u:Int):Int:=if bC≠0\/was=aT then Il a aT else if aT= -1 then-min (u-at_) a.bB else min (u-at_) a.bB-a.bB
theorem RU {a:Axs} (hb:0<=a.bB/\a.bB<=1000) (v:Int):Jx (Bl a++[I v])=some [I (Il a v)]:=by
 have he:=Zdl a.step a.aS a.bD a.bE a.low a.aY a.bB a.aV a.aO (a.aW.map Aq) v;unfold Jx;refine dh he ?_;unfold Il;by_cases c:v= -1
 ·rw[By (by simp[c]),ab c,Ae];congr 3;omega
 ·rw[Be (by simp[c]),aa c]
theorem Zvy {a:Axs} {c:Pce} (O:∀v:Int,M (Bl a++[I v])=some [I (Il a v)]) (hb:0<=a.bB/\a.bB<=1000) (X:0<=u-c.at_/\u-c.at_<=2000000000000000):
  PZ M (Bl a++AS c++[I 0,I u])=some [I (FV a c.bC c.at_ c.was.x c.aT.x u)]:=by
 have he:=Qjo M a.step a.aS a.bD a.bE a.low a.aY a.bB a.aV a.aO (a.aW.map Aq) c.at_ c.aR c.s c.bC c.was.x c.was.y c.was.z c.aT.x c.aT.y c.aT.z 0 u;refine dh he ?_;have D:=O c.aT.x;simp only[Bl,az,bc]at D;have e1:V (0+1)=1:=rfl;have e2:V (1+1)=2:=rfl;have S:V (u-c.at_)=u-c.at_:=Ae;have T:V (0-min (u-c.at_) a.bB)= -min (u-c.at_) a.bB:=by rw[Ae];omega
 have U:V (min (u-c.at_) a.bB-a.bB)=min (u-c.at_) a.bB-a.bB:=Ae;unfold FV;simp only[go_sem,e1,e2,J4,S,T,U,Nat.reduceAdd,iv,j7,jr,Int.reduceEq,D];by_cases G:c.bC=0
 ·by_cases L:c.was.x=c.aT.x
  ·simp[G,L]
  ·by_cases N:c.aT.x= -1
   ·simp[G,N,show c.was.x≠-1 from λe=>L (by rw[e,N])]
   ·simp[G,L,N]
 ·simp[G]
theorem Zq8 {a:Axs} {c:Pce} (O:∀v:Int,M (Bl a++[I v])=some [I (Il a v)]) (hb:0<=a.bB/\a.bB<=1000) (X:0<=u-c.at_/\u-c.at_<=2000000000000000):
  PZ M (Bl a++AS c++[I (V (0+1)),I u])=some [I (FV a c.bC c.at_ c.was.y c.aT.y u)]:=by
 have he:=Qjo M a.step a.aS a.bD a.bE a.low a.aY a.bB a.aV a.aO (a.aW.map Aq) c.at_ c.aR c.s c.bC c.was.x c.was.y c.was.z c.aT.x c.aT.y c.aT.z (V (0+1)) u;refine dh he ?_;have D:=O c.aT.y;simp only[Bl,az,bc]at D;have e1:V (0+1)=1:=rfl;have e2:V (1+1)=2:=rfl;have S:V (u-c.at_)=u-c.at_:=Ae;have T:V (0-min (u-c.at_) a.bB)= -min (u-c.at_) a.bB:=by rw[Ae];omega
 have U:V (min (u-c.at_) a.bB-a.bB)=min (u-c.at_) a.bB-a.bB:=Ae;unfold FV;simp only[go_sem,e1,e2,J4,S,T,U,Nat.reduceAdd,iv,j7,jr,Int.reduceEq,D];by_cases G:c.bC=0
 ·by_cases L:c.was.y=c.aT.y
  ·simp[G,L]
  ·by_cases N:c.aT.y= -1
   ·simp[G,N,show c.was.y≠-1 from λe=>L (by rw[e,N])]
   ·simp[G,L,N]
 ·simp[G]
theorem Z2w {a:Axs} {c:Pce} (O:∀v:Int,M (Bl a++[I v])=some [I (Il a v)]) (hb:0<=a.bB/\a.bB<=1000) (X:0<=u-c.at_/\u-c.at_<=2000000000000000):
  PZ M (Bl a++AS c++[I (V (V (0+1)+1)),I u])=some [I (FV a c.bC c.at_ c.was.z c.aT.z u)]:=by
 have he:=Qjo M a.step a.aS a.bD a.bE a.low a.aY a.bB a.aV a.aO (a.aW.map Aq) c.at_ c.aR c.s c.bC c.was.x c.was.y c.was.z c.aT.x c.aT.y c.aT.z (V (V (0+1)+1)) u;refine dh he ?_;have D:=O c.aT.z;simp only[Bl,az,bc]at D;have e1:V (0+1)=1:=rfl;have e2:V (1+1)=2:=rfl;have S:V (u-c.at_)=u-c.at_:=Ae;have T:V (0-min (u-c.at_) a.bB)= -min (u-c.at_) a.bB:=by rw[Ae];omega
 have U:V (min (u-c.at_) a.bB-a.bB)=min (u-c.at_) a.bB-a.bB:=Ae;unfold FV;simp only[go_sem,e1,e2,J4,S,T,U,Nat.reduceAdd,iv,j7,jr,Int.reduceEq,D];by_cases G:c.bC=0
 ·by_cases L:c.was.z=c.aT.z
  ·simp[G,L]
  ·by_cases N:c.aT.z= -1
   ·simp[G,N,show c.was.z≠-1 from λe=>L (by rw[e,N])]
   ·simp[G,L,N]
 ·simp[G]
theorem Znk {a:Axs} (hb:0<=a.bB/\a.bB<=1000) {bC at_ was aT u:Int} (D:0<=u-at_): -1000<=FV a bC at_ was aT u/\FV a bC at_ was aT u<=1000:=by
 unfold FV Il
 (repeat' split)<;>omega
theorem Zo0 (G:bd B26 H) (I:1<=g.len/\g.len<=268435456/\bd B26 g.to) (N:0<=d/\d<=g.len):bd 201326592 (OQ H g d):=by
 have key:∀u v:Int,u.natAbs<=B26->v.natAbs<=B26->(v+Bi ((u-v)*d) g.len).natAbs<=201326592:=by
  intro u v O M;have S:=Ib O M;have T:=Qwe (D:=u-v) (L:=g.len) (d:=d) (by omega) (bz S (by decide)) N;have U:v.natAbs<=67108864:=M;omega
 exact⟨key _ _ I.2.2.1 G.1,key _ _ I.2.2.2.1 G.2.1,key _ _ I.2.2.2.2 G.2.2⟩
theorem Zsf (h:GoodPath p) (s:Int):bd 201326592 (atP p s):=by
 unfold atP;by_cases c:p.aF=[]
 ·rw[c];exact AY h.aQ (by decide)
 ·have D:=h.ok;obtain⟨G,I,L,M⟩:=Qhp (l:=p.aF) (a:=p.aQ) (s:=max s 0) c (λg N=>(D.seg g N).1) (by omega);rw[M];exact Zo0 (Zbo h.aQ D G) (D.seg _ (HR G)) ⟨I,L⟩
theorem XF {a:Axs} (h:AxOK a) {p:Int} (D:okB p):(Ig a p).natAbs<=2000000000:=by
 have hb:=Q3o h p;have G:=h.step;unfold okB at D;unfold Ig;refine Qec (by omega) ?_;have e:((2000000000:Nat):Int)=2000000000:=rfl;rw[e];omega
def shT (a:Axs) (t:Trk) (u:Int) (f:Pt->Int):Int:=if t.aE=[]then Il a (f t.aT)else FV a (pcA t.aE (iT t u)).bC (pcA t.aE (iT t u)).at_ (f (pcA t.aE (iT t u)).was) (f (pcA t.aE (iT t u)).aT) (clT t u)
def SV (p:Pth) (x:Ax3) (s:Int):Pt:=⟨Ig x.a (atP p s).x,Ig x.b (atP p s).y,Ig x.c (atP p s).z⟩
def FI (p:Pth) (x:Ax3) (t:Trk) (u:Int):Pt:=
 ⟨(SV p x (BK t u)).x+shT x.a t u Pt.x,(SV p x (BK t u)).y+shT x.b t u Pt.y,(SV p x (BK t u)).z+shT x.c t u Pt.z⟩
theorem Qt3 (h:TQ t) (G:∀i,i+1<t.aE.length->(pcA t.aE (i+1)).at_=eI t.aE i) (M:t.aE≠[]->(pcA t.aE 0).at_=0) (u:Int) (D:t.aE≠[]):(pcA t.aE (iT t u)).at_<=clT t u/\(0<iT t u->(pcA t.aE (iT t u)).at_<clT t u):=by
 have I:=OJ h u D;have N:=QO h u;by_cases c:iT t u=0
 ·rw[c,M D];exact⟨N.1,λg=>absurd g (by omega)⟩
 ·obtain⟨j,L⟩:∃j,iT t u=j+1:=⟨iT t u-1,by omega⟩;rw[L]at I⊢;rw[G j I];have: ¬clT t u<=eI t.aE j:=by
   intro g;have:=Uc (show j<t.aE.length by omega) g;unfold iT at L;omega
  exact⟨by omega,λ_=>by omega⟩
theorem Z7q (h:TQ t) (u:Int):clT t (clT t u)=clT t u:=by have:=h.len;unfold clT B7;omega
theorem Z0z (h:TQ t) (u:Int):BK t (clT t u)=BK t u:=by unfold BK iT;rw[Z7q h]
theorem Qyv (h:TQ t) (u:Int): -3000000000000000<=BK t u/\BK t u<=3000000000000000:=by
 unfold BK;by_cases c:t.aE=[]
 ·rw[ab c];have:=h.aQ;omega
 ·have G:=OJ h u c;have I:=h.pos _ G;have L:=h.s _ G;have D:=h.bC _ G;have M:=QO h u;have N:=h.len;rw[aa c];unfold eI at I;rcases D with D|D|D<;>rw[D]<;>omega
theorem Z84 (h:GoodPath p) (s:Int):okB (atP p s).x/\okB (atP p s).y/\okB (atP p s).z:=by
 obtain⟨D,G,I⟩:=Zsf h s;unfold okB;omega
structure TH (t : Trk) : Prop where
 q:TQ t
 at0:t.aE≠[]->(pcA t.aE 0).at_=0
 at1:∀i,i+1<t.aE.length->(pcA t.aE (i+1)).at_=eI t.aE i
theorem Qjp {a:Axs} (hb:0<=a.bB/\a.bB<=1000) {t:Trk} (h:TH t) (u:Int) (f:Pt->Int): -1000<=shT a t u f/\shT a t u f<=1000:=by
 unfold shT;by_cases c:t.aE=[]
 ·rw[ab c];unfold Il;split<;>omega
 ·rw[aa c];exact Znk hb (by have:=(Qt3 h.q h.at1 h.at0 u c).1;omega)
theorem Zng {x:Ax3} (hp:GoodPath p) (D:Ax3M x) (G:TH t) (hC:O [I u,I t.length]=some [I (clT t u)]) (hL:P (Br t++[I (clT t u)])=some [I (BK t u)]) (hA:S (Bu p++[I (BK t u)])=some (ptR (atP p (BK t u))))
  (L:T (Br t++[I (clT t u)])=some [I (if t.aE=[]then-1 else(iT t u:Int))]) (hM:∀{a:Axs} {q:Int},AxOK a->okB q->W (Bl a++[I q])=some [I (Ig a q)]) (hD:∀{a:Axs} (v:Int),(0<=a.bB/\a.bB<=1000)->Z (Bl a++[I v])=some [I (Il a v)])
  (h0:∀{a:Axs} {c:Pce} {u:Int},(0<=a.bB/\a.bB<=1000)->(0<=u-c.at_/\u-c.at_<=2000000000000000)->M (Bl a++AS c++[I 0,I u])=some [I (FV a c.bC c.at_ c.was.x c.aT.x u)])
  (h1:∀{a:Axs} {c:Pce} {u:Int},(0<=a.bB/\a.bB<=1000)->(0<=u-c.at_/\u-c.at_<=2000000000000000)->M (Bl a++AS c++[I (V (0+1)),I u])=some [I (FV a c.bC c.at_ c.was.y c.aT.y u)])
  (h2:∀{a:Axs} {c:Pce} {u:Int},(0<=a.bB/\a.bB<=1000)->(0<=u-c.at_/\u-c.at_<=2000000000000000)->M (Bl a++AS c++[I (V (V (0+1)+1)),I u])=some [I (FV a c.bC c.at_ c.was.z c.aT.z u)]):
  Qcc M Z W T S P O (Bu p++AE x++Br t++[I u])=some (ptR (FI p x t u)):=by
 have he:=Z75 M Z W T S P O u p x t;refine dh he ?_;obtain⟨o1,o2,o3⟩:=Z84 hp (BK t u);have m1:=hM D.a o1;have m2:=hM D.b o2;have m3:=hM D.c o3;have b1:=XF D.a o1;have b2:=XF D.b o2;have b3:=XF D.c o3;have s1:=Qjp D.ok.a G u Pt.x;have s2:=Qjp D.ok.b G u Pt.y;have s3:=Qjp D.ok.c G u Pt.z;unfold FI SV;generalize Ig x.a (atP p (BK t u)).x=q1 at*;generalize Ig x.b (atP p (BK t u)).y=q2 at*;generalize Ig x.c (atP p (BK t u)).z=q3 at*;have w1:V (q1+shT x.a t u Pt.x)=q1+shT x.a t u Pt.x:=Ae;have w2:V (q2+shT x.b t u Pt.y)=q2+shT x.b t u Pt.y:=Ae;have w3:V (q3+shT x.c t u Pt.z)=q3+shT x.c t u Pt.z:=Ae;by_cases c:t.aE=[]
 ·have N:=hD t.aT.x D.ok.a;have U:=hD t.aT.y D.ok.b;have X:=hD t.aT.z D.ok.c;unfold shT at*;rw[ab c]at L;simp only[ab c]at w1 w2 w3⊢;simp only[Bu,Br,Bl,az,bc]at hL hA L N U X m1 m2 m3;simp only[hC,hL,hA,L,go_sem,m1,m2,m3,N,U,X,w1,w2,w3];rw[ab,ab,ab]
 ·have hi:=OJ G.q u c;have a1:=G.q.count;have a3:=(Qt3 G.q G.at1 G.at0 u c).1;have a4:=QO G.q u;have hlen:=G.q.len;have a2:=G.q.pos _ hi;have a0:(0:Int)<=(iT t u:Int)/\(iT t u:Int)<(t.aE.length:Int):=by omega
  have Y: ¬((iT t u:Int)<0):=by omega
  have N:=h0 (c:=pcA t.aE (iT t u)) (u:=clT t u) D.ok.a (by omega);have U:=h1 (c:=pcA t.aE (iT t u)) (u:=clT t u) D.ok.b (by omega);have X:=h2 (c:=pcA t.aE (iT t u)) (u:=clT t u) D.ok.c (by omega);unfold shT at*;rw[aa c]at L;simp only[aa c]at w1 w2 w3⊢;simp only[Bu,Br,Bl,AS,az,bc]at hL hA L N U X m1 m2 m3;simp only[hC,hL,hA,L,go_sem,m1,m2,m3,ah,ab a0,ak,Tw hi,aa Y,N,U,X,w1,w2,w3]
theorem Z8h {x:Ax3} (M:GoodPath p) (N:Ax3M x) (D:TH t) (u:Int):El (Bu p++AE x++Br t++[I u])=some (ptR (FI p x t u)):=by
 have T:=Qyv D.q u;have G:=UU D.q (clT t u);rw[Z0z D.q]at G;exact Zng M N D Vg G (Z5p M (by unfold i64;omega)) (Qx9 D.q u) (λO S=>Z6s O S) (λv hb=>RU hb v) (λhb L=>Zvy (RU hb) hb L) (λhb L=>Zq8 (RU hb) hb L) (λhb L=>Z2w (RU hb) hb L)
theorem Qw7 {x:Ax3} {a s:Int} {l:List Pce} (h:Fu x k Q a s H l) (D:l≠[]):(pcA l 0).at_=a:=by
 cases l with
 |nil=>exact absurd rfl D
 |cons c l=>rw[KU];exact h.1
theorem Qu2 {x:Ax3} {mv:Int} {Q:Int->Pt->Prop}:∀{a s:Int} {d:Pt} {l:List Pce},Fu x mv Q a s d l->∀i,i+1<l.length->(pcA l (i+1)).at_=eI l i
 |a,s,d,[],h,i,D=>by simp at D
 |a,s,d,c::l,h,0,D=>by
  obtain⟨I,L,M,N,G⟩:=h;unfold eI;rw[H5,KU,Qw7 G (λe=>by rw[e]at D;simp at D),I]
 |a,s,d,c::l,h,i+1,D=>by
  obtain⟨I,L,M,N,G⟩:=h;have:=Qu2 G i (by simpa using D);unfold eI at*;rw[H5,H5];exact this
theorem Zm4 {x:Ax3} (d:Pt) (a b:Int) (D:Ax3OK x) (G:GoodPath p):TH (Ez p x d a b):=by
 obtain⟨L,I,M,-⟩:=Q4w (d:=d) (a:=a) (b:=b) (Q:=λ_ _=>True) D G (λ_ _ _ _ _ _ _ _=>trivial);exact⟨Zfx d a b D G,Qw7 I.ch,Qu2 I.ch⟩
def wF (z:Int):List Pce->Int
 |[]=> -1
 |c::l=>if c.bC≠0/\0<=(z-c.s)*c.bC/\(z-c.s)*c.bC<=c.aR then c.at_+(z-c.s)*c.bC else wF z l
def I6 (t:Trk) (z:Int):Int:=if z=t.aQ then 0 else wF z t.aE
theorem Qt5 {t:Trk} (h:TQ t) {z:Int} (X:i64 z):∀(k j:Nat),j+k=t.aE.length->wF z (t.aE.drop j)= -1/\Am Rm [I z, .vC As (t.aE.map AS),I t.aE.length,I j]=some (2,[])\/
  Am Rm [I z, .vC As (t.aE.map AS),I t.aE.length,I j]=some (1,[I (wF z (t.aE.drop j))])
 |0,j,hj=>by
  left;rw[ff (by omega)];refine⟨rfl,A1 (o:=(2,_)) ?_ (by simp)⟩;rw[Quv,AZ (by omega)]
 |k+1,j,hj=>by
  have D:j<t.aE.length:=by omega
  have Y:=h.count;have T:(0:Int)<=(j:Int)/\(j:Int)<(t.aE.length:Int):=by omega
  have O:=h.pos j D;have hl:=h.len;have hs:=h.s j D;have a0:=h.bC j D;have e:t.aE.drop j=pcA t.aE j::t.aE.drop (j+1):=by
   have e1:pcA t.aE j=t.aE[j]:=by unfold pcA;simp[D]
   rw[e1];exact Ox _ _ D
  have M:Rm [I z, .vC As (t.aE.map AS),I t.aE.length,I j]=if(pcA t.aE j).bC≠0/\0<=(z-(pcA t.aE j).s)*(pcA t.aE j).bC/\(z-(pcA t.aE j).s)*(pcA t.aE j).bC<=(pcA t.aE j).aR then
    some (1,[I ((pcA t.aE j).at_+(z-(pcA t.aE j).s)*(pcA t.aE j).bC)])else some (0,[I z, .vC As (t.aE.map AS),I t.aE.length,I (j+1:Nat)]):=by
   rw[Quv];simp only[go_sem,ah,ak,Tw D,ab T,Ae (x:=(j:Int)+1)];rw[ab];unfold eI at O;unfold i64 at X;generalize pcA t.aE j=c at*;have L:∀y:Int,-9223372036854775808-2000000000000000<=y->y<=9223372036854775807+2000000000000000->(V y=y/\ -9223372036854775808<=y/\y<=9223372036854775807)\/(V y=y+18446744073709551616/\y< -9223372036854775808)\/(V y=y-18446744073709551616/\y>9223372036854775807):=by
    intro y y1 y2;have hw:=Zpi y;unfold i64 at hw;by_cases N: -9223372036854775808<=y/\y<=9223372036854775807
    ·exact .inl ⟨Ae N,N⟩
    ·have:=Qap y;omega
   by_cases U:c.bC=0
   ·have S: ¬(c.bC≠0/\0<=(z-c.s)*c.bC/\(z-c.s)*c.bC<=c.aR):=λg=>g.1 U;rw[aa,aa S];rfl
   ·rw[ab U];have G:c.bC=1\/c.bC= -1:=by omega
    have a1:=L (z-c.s) (by omega) (by omega);have a3:V (V (z-c.s)*c.bC)=(z-c.s)*c.bC\/((V (V (z-c.s)*c.bC)<0\/V (V (z-c.s)*c.bC)>1000000000000000)/\((z-c.s)*c.bC<0\/(z-c.s)*c.bC>1000000000000000)):=by
     generalize V (z-c.s)=y at*;have a2:=L (y*c.bC) (by rcases G with G|G<;>rw[G]<;>omega) (by rcases G with G|G<;>rw[G]<;>omega);rcases G with G|G<;>rw[G]at a2⊢<;>omega
    generalize V (V (z-c.s)*c.bC)=n at*;by_cases N:0<=(z-c.s)*c.bC/\(z-c.s)*c.bC<=c.aR
    ·have en:n=(z-c.s)*c.bC:=by omega
     have S:c.bC≠0/\0<=(z-c.s)*c.bC/\(z-c.s)*c.bC<=c.aR:=⟨U,N⟩;rw[ab S,en,ab N.1,ab N.2,Ae]
    ·have S: ¬(c.bC≠0/\0<=(z-c.s)*c.bC/\(z-c.s)*c.bC<=c.aR):=λg=>N g.2;rw[aa S];by_cases c2:0<=n
     ·rw[ab c2,aa];rfl
     ·rw[aa c2];rfl
  rw[e];by_cases c:(pcA t.aE j).bC≠0/\0<=(z-(pcA t.aE j).s)*(pcA t.aE j).bC/\(z-(pcA t.aE j).s)*(pcA t.aE j).bC<=(pcA t.aE j).aR
  ·rw[ab c]at M;right;rw[A1 M (by simp)];unfold wF;rw[ab c]
  ·rw[aa c]at M;rw[Bc M];unfold wF;rw[aa c];exact Qt5 h X k (j+1) (by omega)
theorem Zg2 (h:TQ t) {z:Int} (M:i64 z):Nh (Br t++[I z])=some [I (I6 t z)]:=by
 have he:=Yaf Li (t.aE.map AS) t.length t.aQ t.aT.x t.aT.y t.aT.z z;unfold Nh;refine dh he ?_;unfold I6;rw[ah];by_cases c:z=t.aQ
 ·rw[ab c,By (by simp[c])]
 ·rw[aa c,Be (by simp[c])];rcases Qt5 h M t.aE.length 0 (by omega)with⟨L,G⟩|G
  ·rw[fo]at L;have D:Li [I z, .vC As (t.aE.map AS),I t.aE.length,I 0]=some (2,[]):=G;generalize Li=N at*;rw[L];simp only[D,go_sem];rfl
  ·rw[fo]at G;have D:Li [I z, .vC As (t.aE.map AS),I t.aE.length,I 0]=some (1,[I (wF z t.aE)]):=G;generalize Li=N at*;simp only[D,go_sem]
end Go.Bm
namespace Go.Bm
theorem Zjv (l:Rw) (h:l.length<=100000):Out (λo=>(wA o 0).length<=l.length) (Rn [.vC Aa l]):=by
 show Out _ (XM (Am Qqq) [.vC Aa l]);rw[Zn5];refine .bind (p:=λo=>o.1=1/\(wA o.2 0).length<=l.length) ?_ λo g=>by rw[g.1];exact .some g.2
 refine C1 (λs:Rw×Nat=>[.vC Aa s.1, .vC Aa l,I (s.2:Int)]) (λs=>1<=s.2/\s.2<=l.length+1/\s.1.length+1<=s.2) (λs=>l.length+1-s.2) _ ?_ ([],1) (by simp);rintro⟨v,i⟩ ⟨g1,g2,D⟩;dsimp only at*;rw[Z0b];rw[Ae (x:=(i:Int)-1),Ae (x:=(i:Int)+1)];refine .cond (λc=> ?_) (λc=> ?_)
 ·have c:=BC c;refine .cond (λ_=> ?_) λc=>by simp at c;omega
  refine .cond (λ_=> ?_) λc=>by simp at c;omega
  refine .cond (λ_=> ?_) λc=>by rw[Cg (by simp;omega)]at c;cases c
  exact .some (.inl ⟨rfl,(_,i+1),rfl,by simp;omega,by simp;omega⟩)
 ·have c:=BB c;exact .some (.inr ⟨by simp,rfl,by show v.length<=l.length;omega⟩)
theorem Zw6 (l:Rw) (n:Int) (h:l.length<=100000):(P3 [.vC Aa l,I n]).isSome=true:=by
 show(U3 (Am Vv) [.vC Aa l,I n]).isSome=true;rw[Zfk];refine Out.is (p:=λ_=>True) ?_;refine .bind (p:=λo=>o.1=1\/o.1=2) ?_ λo g=>by rcases g with g|g<;>rw[g]<;>exact .some trivial
 refine C1 (λs:Nat=>[I n, .vC Aa l,I (l.length:Int),I (s:Int)]) (λs=>s<=l.length) (λs=>l.length-s) _ ?_ 0 (by simp);intro i g;rw[Zxw];rw[Ae (x:=(i:Int)+1)];refine .cond (λc=> ?_) (λc=> ?_)
 ·have c:=BC c;refine .cond (λ_=> ?_) λc=>by simp at c;omega
  refine .cond (λ_=> .some (.inr ⟨by simp, .inl rfl⟩)) λ_=> .cond (λ_=> .some (.inr ⟨by simp, .inl rfl⟩)) λ_=> ?_;exact .some (.inl ⟨rfl,i+1,rfl,by omega,by omega⟩)
 ·exact .some (.inr ⟨by simp, .inr rfl⟩)
theorem Z7c (D:∀l:Rw,l.length<=100000->Out (λo=>(wA o 0).length<=l.length) (Z [.vC Aa l])) (hB:∀(l:Rw) n,l.length<=100000->(M [.vC Aa l,I n]).isSome=true)
  (G L N O S T U V X:Int) (Y l:Rw) (h:l.length<=100000):(Qcl M Z [I G,I L,I N,I O,I S,I T,I U,I V,I X, .vC Aa Y, .vC Aa l]).isSome=true:=by
 rw[Ybd];obtain⟨a,ha,ga⟩:=D l h;rw[ha];simp only[af];generalize wA a 0=la at*;obtain⟨b,hb,gb⟩:=D la (by omega);rw[hb];simp only[af];generalize wA b 0=lb at*;obtain⟨c,hc,gc⟩:=D lb (by omega);rw[hc];simp only[af];generalize wA c 0=lc at*;refine Fd (hB _ _ (by omega)) λ_ _=>BQ (λ_=>rfl) λ_=>Fd (hB _ _ (by omega)) λ_ _=>BQ (λ_=>rfl) λ_=>Fd (hB _ _ (by omega)) λ_ _=>BQ (λ_=>rfl) λ_=>rfl
theorem Z5u (D G L M N O S T U:Int) (V l:Rw) (h:l.length<=100000):(Me [I D,I G,I L,I M,I N,I O,I S,I T,I U, .vC Aa V, .vC Aa l]).isSome=true:=Z7c Zjv Zw6 D G L M N O S T U V l h
theorem Zrc {x:Ax3} (O:0<=k/\k<=2) {l out:Rw} (N:out.length=l.length) (S:l.length<=100000):
  Out (λo=>o.1=1/\∃v:Rw,o.2= .vC Aa v:: .vC kPt l::I k::I k::AE x/\v.length=l.length) (Am (LK M) (.vC Aa out:: .vC kPt l::I k::I k::I (l.length:Int)::I 0::AE x)):=by
 refine C1 (λs:Rw×Nat=> .vC Aa s.1:: .vC kPt l::I k::I k::I (l.length:Int)::I (s.2:Int)::AE x) (λs=>s.1.length=l.length/\s.2<=l.length) (λs=>l.length-s.2) _ ?_ (out,0) ⟨N,by simp⟩;rintro⟨v,i⟩ ⟨g1,g2⟩;dsimp only at*;rw[Zqc];rw[Ae (x:=(i:Int)+1)];refine .cond (λc=> ?_) (λc=> ?_)
 ·have c:=BC c;refine .cond (λ_=> ?_) λc=>by simp at c;omega
  refine .cond (λ_=> ?_) λD=> .cond (λ_=> ?_) λG=> .cond (λ_=> ?_) λL=> ?_
  ·refine .cond (λ_=> ?_) λc=>by simp at c;omega
   exact .some (.inl ⟨rfl,(_,i+1),rfl,by simp;omega,by simp;omega⟩)
  ·refine .cond (λ_=> ?_) λc=>by simp at c;omega
   exact .some (.inl ⟨rfl,(_,i+1),rfl,by simp;omega,by simp;omega⟩)
  ·refine .cond (λ_=> ?_) λc=>by simp at c;omega
   exact .some (.inl ⟨rfl,(_,i+1),rfl,by simp;omega,by simp;omega⟩)
  ·have D:=BB D;have G:=BB G;have L:=BB L
   simp at D G L;omega
 ·exact .some (.inr ⟨by simp,rfl,v,rfl,g1⟩)
theorem Zi5 (hM:∀(D G L N O S T U X:Int) (Y l:Rw),l.length<=100000->(M [I D,I G,I L,I N,I O,I S,I T,I U,I X, .vC Aa Y, .vC Aa l]).isSome=true) (x:Ax3) {l:Rw} (h1:l.length<=100000):
  (S0 M (Am (LK M)) (Am (SC M (Am (LK M)))) (AE x++[.vC kPt l])).isSome=true:=by
 show(S0 M (Am (LK M)) (Am (SC M (Am (LK M)))) [I x.a.step,I x.a.aS,I x.a.bD,I x.a.bE,I x.a.low,I x.a.aY,I x.a.bB,I x.a.aV,I x.a.aO, .vC Aa (x.a.aW.map Aq),I x.b.step,I x.b.aS,I x.b.bD,I x.b.bE,I x.b.low,I x.b.aY,I x.b.bB,I x.b.aV,I x.b.aO, .vC Aa (x.b.aW.map Aq),I x.c.step,I x.c.aS,I x.c.bD,I x.c.bE,I x.c.low,I x.c.aY,I x.c.bB,I x.c.aV,I x.c.aO, .vC Aa (x.c.aW.map Aq), .vC kPt l]).isSome=true;rw[Zji];refine Out.is (p:=λ_=>True) ?_;refine .bind (p:=λo=>o.1=1\/o.1=2) ?_ λo g=>by rcases g with g|g<;>rw[g]<;>exact .some trivial
 refine C1 (λs:Nat=> .vC kPt l::I (s:Int)::AE x) (λs=>s<=3) (λs=>3-s) _ ?_ 0 (by omega);intro k hk;rw[Zma];refine .cond (λc=> ?_) (λc=> ?_)
 ·have c:=BC c;refine .cond (λ_=> ?_) λc=>by simp at c
  refine .cond (λ_=> ?_) λc=>by simp at c;omega
  refine .bind (Zrc (M:=M) (x:=x) (k:=(k:Int)) (by omega) (by simp) h1) λo g=> ?_;obtain⟨g1,v,g2,g3⟩:=g;obtain⟨o1,o2⟩:=o;subst g1;subst g2;refine .cond (λ_=> ?_) λc=>by simp at c
  have e:V ((k:Int)+1)=((k+1:Nat):Int):=by rw[Ae];rfl
  have hw:∀(D G L N O S T U X:Int) (Y:Rw),(M [I D,I G,I L,I N,I O,I S,I T,I U,I X, .vC Aa Y, .vC Aa v]).isSome=true:=λD G L N O S T U X Y=>hM D G L N O S T U X Y v (by omega);refine .cond (λ_=> ?_) λc0=> .cond (λ_=> ?_) λc1=> .cond (λ_=> ?_) λc2=> ?_
  ·refine .ibind (hw _ _ _ _ _ _ _ _ _ _) λ_ _=> .cond (λ_=> .some (.inr ⟨by simp, .inl rfl⟩)) λ_=> .some (.inl ⟨rfl,k+1,?_,by omega,by omega⟩);simp only[gA,wA,bA,jA,nth,Af,Bq,e]
  ·refine .ibind (hw _ _ _ _ _ _ _ _ _ _) λ_ _=> .cond (λ_=> .some (.inr ⟨by simp, .inl rfl⟩)) λ_=> .some (.inl ⟨rfl,k+1,?_,by omega,by omega⟩);simp only[gA,wA,bA,jA,nth,Af,Bq,e]
  ·refine .ibind (hw _ _ _ _ _ _ _ _ _ _) λ_ _=> .cond (λ_=> .some (.inr ⟨by simp, .inl rfl⟩)) λ_=> .some (.inl ⟨rfl,k+1,?_,by omega,by omega⟩);simp only[gA,wA,bA,jA,nth,Af,Bq,e]
  ·have c0:=BB c0;have c1:=BB c1;have c2:=BB c2
   simp[gA,wA,bA,jA,nth,Af]at c0 c1 c2;omega
 ·exact .some (.inr ⟨by simp, .inr rfl⟩)
theorem Zpp (x:Ax3) {l:Rw} (D:l.length<=100000):(Nd (AE x++[.vC kPt l])).isSome=true:=Zi5 Z5u x D
theorem Zab (u:Int):(ID [I u]).isSome=true:=by
 show(Qnz [I u]).isSome=true;rw[Z7t];exact BQ (λ_=>rfl) λ_=>rfl
structure Fix (p : Pth) (x : Ax3) (t : Trk) : Prop where
 p:GoodPath p
 x:Ax3M x
 t:TH t
theorem Sp {x:Ax3} (h:Fix p x t) (u:Int):El (pxt p x t [I u])=some (ptR (FI p x t u)):=Z8h h.p h.x h.t u
theorem Z4o {x:Ax3} (L:∀{l:Rw},l.length<=100000->(M (AE x++[.vC kPt l])).isSome=true) (N:∀u,(Z (pxt p x t [I u])).isSome=true) (O:∀u,(W [I u]).isSome=true) {way:Rw} (S:way.length<=100000):
  (Qfg M Z W (Am (Zk M Z W)) (pxt p x t [.vC Aa way])).isSome=true:=by
 rw[Zj7];refine Out.is (p:=λ_=>True) ?_;refine .bind (p:=λo=>o.1=1\/o.1=2) ?_ λo g=>by rcases g with g|g<;>rw[g]<;>exact .some trivial
 refine C1 (λs:Rw×Nat=> .vC kPt s.1:: .vC Aa way::I (way.length:Int)::I (s.2:Int)::pxt p x t []) (λs=>s.1.length<=4/\s.2<=way.length) (λs=>way.length-s.2) _ ?_ ([],0) (by simp);rintro⟨v,i⟩ ⟨g1,g2⟩;dsimp only at g1 g2;rw[Z0d];try dsimp only[D]
 rw[Ae (x:=(i:Int)+1)];refine .cond (λc=> ?_) (λc=> ?_)
 ·have c:=BC c;refine .cond (λ_=> ?_) λc=>by simp at c;omega
  refine .ibind (O _) λa _=> .ibind (N _) λb _=> ?_;refine .cond (λ_=> ?_) λc=>by rw[Cg (by simp;omega)]at c;cases c
  generalize [jA b 0,jA b 1,jA b 2]=q;refine .cond (λ_=> ?_) λG=> ?_
  ·refine .cond (λ_=> ?_) λc=>by simp at c;omega
   refine .cond (λ_=> ?_) λc=>by rw[Cg (by simp)]at c;cases c
   refine .ibind (L (l:=List.drop (Int.toNat 1) (v++[q])) (by simp;omega)) λ_ _=> .cond (λ_=> .some (.inr ⟨by simp, .inl rfl⟩)) λ_=> ?_;exact .some (.inl ⟨rfl,(_,i+1),rfl,by simp;omega,by simp;omega⟩)
  ·have G:=BB G;simp at G;refine .ibind (L (l:=v++[q]) (by simp;omega)) λ_ _=> .cond (λ_=> .some (.inr ⟨by simp, .inl rfl⟩)) λ_=> ?_;exact .some (.inl ⟨rfl,(_,i+1),rfl,by simp;omega,by simp;omega⟩)
 ·exact .some (.inr ⟨by simp, .inr rfl⟩)
theorem Zky {x:Ax3} (h:Fix p x t) {way:Rw} (D:way.length<=100000):(QB (pxt p x t [.vC Aa way])).isSome=true:=
 Z4o (Zpp x) (λu=>by rw[Sp h u];rfl) Zab D
theorem Zcu (O S:Int) (T b1 b2:Bool) (U V X Y x9 D G L M N:Int):(QF [I O,I S,B T,B b1,B b2,I U,I V,I X,I Y,I x9,I D,I G,I L,I M,I N]).isSome=true:=by
 show(Qka [I O,I S,B T,B b1,B b2,I U,I V,I X,I Y,I x9,I D,I G,I L,I M,I N]).isSome=true;rw[Z36]
 repeat' first|exact rfl|refine BQ (λ_=> ?_) (λ_=> ?_)
theorem Qoz {x:Ax3} (h:Fix p x t) (u:Int):i64 (BK t u):=by
 have:=Qyv h.t.q u;unfold i64;omega
theorem Z_:∀(l:List Sgm) (s:Int),l≠[]->(Bf l s).1<l.length
 |[],_,h=>absurd rfl h
 |[g],s,_=>by unfold Bf;split<;>simp
 |g::h::l,s,_=>by
  by_cases c:s<g.len
  ·rw[Bf,ab c];simp
  ·rw[Q9q c];have:=Z_ (h::l) (s-g.len) (by simp);simp at this⊢;omega
theorem Z3f {x:Ax3} (h:Fix p x t) {s:Int} (D:i64 s):∃i v:Int,Ey (Bu p++[I s])=some [I i,I v]/\(i= -1\/0<=i/\i<p.aF.length)/\(p.aF≠[]->0<=i):=by
 rw[Vb (h.p.ok) D];by_cases c:p.aF=[]
 ·rw[ab c];exact⟨-1,0,rfl, .inl rfl,λh=>absurd c h⟩
 ·rw[aa c];have:=Z_ p.aF (max s 0) c;exact⟨_,_,rfl, .inr ⟨by omega,by omega⟩,λ_=>by omega⟩
theorem Z6w (X:∀(Y x1:Int) (D b1 b2:Bool) (x5 x6 x7 x8 x9 G L N O S:Int),(M [I Y,I x1,B D,B b1,B b2,I x5,I x6,I x7,I x8,I x9,I G,I L,I N,I O,I S]).isSome=true)
  (hF:∀s,i64 s->∃i v:Int,Z (Bu p++[I s])=some [I i,I v]/\(i= -1\/0<=i/\i<p.aF.length)/\(p.aF≠[]->0<=i)) (hP:∀u,∃s,W (Br t++[I u])=some [I s]/\i64 s) (hU:∀u,(T [I u]).isSome=true) (U:p.aF≠[])
  (a b c o0 o1:Int) (D b1 b2:Bool) (u:Int):
  (Qi1 M Z W T (EL p t [I a,I b,I c,I o0,I o1,B D,B b1,B b2,I u])).isSome=true:=by
 rw[Zoe];refine Fd (hU _) λq _=> ?_;obtain⟨s,h1,h2⟩:=hP (gA q 0);rw[h1];simp only[af];obtain⟨i,v,g1,g2,V⟩:=hF s h2;simp only[gA,wA,bA,jA,nth,Af];rw[g1];simp only[af,gA,wA,bA,jA,nth,Af];have V:=V U;refine BQ (λ_=>Fd (X _ _ _ _ _ _ _ _ _ _ _ _ _ _ _) λ_ _=>rfl) λc=> ?_;simp at c;have:=c (aj V);omega
theorem Zm2 {x:Ax3} (h:Fix p x t) (D:p.aF≠[]) (a b c o0 o1:Int) (G b1 b2:Bool) (u:Int):
  (Np (EL p t [I a,I b,I c,I o0,I o1,B G,B b1,B b2,I u])).isSome=true:=
 Z6w Zcu (λ_ L=>Z3f h L) (λu=>⟨_,UU h.t.q u,Qoz h u⟩) Zab D a b c o0 o1 G b1 b2 u
theorem Zq4 {a b c o0 o1:Int} {L b1 b2:Bool} (D:p.aF≠[]->∀u,(M (EL p t [I a,I b,I c,I o0,I o1,B L,B b1,B b2,I u])).isSome=true)
  (S:∀a b c T U V X Y x8,Out (λo=>(wA o 0).length<=4096) (Z [I a,I b,I c,I T,I U,I V,I X,I Y,I x8])) (m0 m1 m2 m3 m4 m5:Int):
  (Qhb M Z (Am (W5 M Z)) (EL p t [I a,I b,I c,I o0,I o1,B L,B b1,B b2,I m0,I m1,I m2,I m3,I m4,I m5])).isSome=true:=by
 rw[Zj4];obtain⟨o,h1,h2⟩:=S a b c m0 m1 m2 m3 m4 m5;rw[h1];simp only[af];generalize wA o 0=G at*;refine BQ (λ_=>rfl) λ_=>BQ (λ_=>rfl) λO=> ?_;have N:p.aF≠[]:=by
  intro e;rw[e]at O;simp at O
 have D:=D N;refine Fd (D _) λ_ _=>BQ (λ_=>rfl) λ_=> ?_;refine Out.is (p:=λ_=>True) ?_;refine .bind (p:=λo=>o.1=1\/o.1=2) ?_ λo g=>by rcases g with g|g<;>rw[g]<;>exact .some trivial
 refine C1 (λs:Int×Nat=>I s.1:: .vC Aa G::I (G.length:Int)::I (s.2:Int)::EL p t [I a,I b,I c,I o0,I o1,B L,B b1,B b2]) (λs=>s.2<=G.length) (λs=>G.length-s.2) _ ?_ (m0,0) (by simp);rintro⟨v,i⟩ g;dsimp only at g;rw[Zi6];rw[Ae (x:=(i:Int)+1)];refine .cond (λc=> ?_) (λc=> ?_)
 ·have c:=BC c;refine .cond (λ_=> ?_) λc=>by simp at c;omega
  refine .ibind (D _) λ_ _=> .cond (λ_=> .some (.inr ⟨by simp, .inl rfl⟩)) λ_=> ?_;exact .some (.inl ⟨rfl,(_,i+1),rfl,by dsimp only;omega,by dsimp only;omega⟩)
 ·exact .some (.inr ⟨by simp, .inr rfl⟩)
theorem Zu9 {x:Ax3} (h:Fix p x t) (a b c o0 o1:Int) (G b1 b2:Bool) (m0 m1 m2 m3 m4 m5:Int):
  (LX (EL p t [I a,I b,I c,I o0,I o1,B G,B b1,B b2,I m0,I m1,I m2,I m3,I m4,I m5])).isSome=true:=
 Zq4 (λD u=>Zm2 h D a b c o0 o1 G b1 b2 u) Qpo m0 m1 m2 m3 m4 m5
theorem Z5o (I:y<i*4294967296+A) (L:R<4294967296) (D:y=q*i+J) (h:4294967296<=q\/J*4294967296+R<q*A):(y*4294967296+R)/(i*4294967296+A)<q:=by
 have G:0<i*4294967296+A:=by omega
 rw[ew G];rcases h with h|h
 ·have M:4294967296*(i*4294967296+A)<=q*(i*4294967296+A):=be _ h;omega
 ·have e:q*(i*4294967296+A)=q*i*4294967296+q*A:=by rw[Nat.mul_add,gz]
  rw[e];clear e;generalize q*i=p at*;generalize q*A=t at*;subst D;rw[dk p J 4294967296,dm];exact Nat.add_lt_add_left h _
theorem Qyx {a b v u q r:Nat} (G:v<a*4294967296+b) (I:v=q*a+r) (h:q*b<=r*4294967296+u):q<=(v*4294967296+u)/(a*4294967296+b):=by
 have D:0<a*4294967296+b:=by omega
 rw[Nat.le_div_iff_mul_le D];have e:q*(a*4294967296+b)=q*a*4294967296+q*b:=by rw[Nat.mul_add,gz]
 rw[e];generalize q*a=p at*;generalize q*b=t at*;omega
theorem Q2b (D:y<i*4294967296+A) (G:q<4294967296):(y*4294967296+q)/(i*4294967296+A)<4294967296:=by
 rw[ew (by omega)];omega
theorem Qrr {q b:Nat} (D:q<4294967296) (hb:b<4294967296):q*b<=18446744065119617025:=by
 have:=df (show q<=4294967295 by omega) (show b<=4294967295 by omega);omega
theorem Vl {α:Type} {F G:Nat->Nat->Option α} {a b v u Q:Nat} (D:(v*4294967296+u)/(a*4294967296+b)=Q) (hb:b<4294967296) (V:2147483648<=a) (L:a<4294967296) (I:v<a*4294967296+b) (O:u<4294967296) {X:α}
  (S:∀q r:Nat,q<=4294967297->r<4294967296->F q r=if 4294967296<=q\/r*4294967296+u<q*b then(if 4294967296<=r+a then G (q-1) 0 else F (q-1) (r+a))else G q 0)
  (M:G Q 0=some X):∀(k q r:Nat),q<=Q+k->Q<=q->v=q*a+r->r<4294967296->q<=4294967297->F q r=some X
 |k,q,r,hk,h1,T,Y,h4=>by
  rw[S q r h4 Y];by_cases c:4294967296<=q\/r*4294967296+u<q*b
  ·rw[ab c];have h5:=Z5o I O T c;rw[D]at h5;have e:v=(q-1)*a+(r+a):=by
    have:(q-1)*a+a=q*a:=by rw[<-gn];congr 1;omega
    omega
   by_cases U:4294967296<=r+a
   ·rw[ab U];have h6:(q-1)*b<=(r+a)*4294967296+u:=by
     have:=df (show q-1<=4294967296 by omega) (show b<=4294967296 by omega);omega
    have N:=Qyx I e h6;rw[D]at N;rw[show q-1=Q by omega];exact M
   ·rw[aa U]
    match k with
    |0=>omega
    |k+1=>exact Vl D hb V L I O S M k (q-1) (r+a) (by omega) (by omega) e (by omega) (by omega)
  ·rw[aa c];have N:=Qyx (u:=u) I T (by omega);rw[D]at N;rw[show q=Q by omega];exact M
theorem Q5f (hb:A<4294967296) (G:2147483648<=i) (I:y<i*4294967296+A) (L:q<4294967296):(y*4294967296+q)/(i*4294967296+A)<=y/i/\y/i<=4294967297/\y=y/i*i+y%i/\y%i<i:=by
 have e:y=y/i*i+y%i:=by have:=gf y i;rw[d9]at this;omega
 have D:y%i<i:=gw _ (by omega);refine⟨?_,?_,e,D⟩
 ·rw[<-Nat.lt_succ_iff,ew (by omega)];have e2:(y/i).succ*(i*4294967296+A)=(y/i*i+i)*4294967296+(y/i).succ*A:=by rw[Nat.mul_add,<-gz,gn]
  rw[e2];omega
 ·rw[<-Nat.lt_succ_iff,ew (by omega)];omega
theorem wr {x:Nat} (h:x<=18446744073709551615):wrap .u64 (x:Int)=x:=Dh (by omega)
theorem Zym {y s v0:Int} (hb:A<4294967296) (T:2147483648<=i) (L:i<4294967296) (V:R<i*4294967296+A) (X:J<4294967296):
  Am (LE M) [U y,U s,U i,U A,U R,U J,U v0,U ((R/i:Nat):Int),U ((R%i:Nat):Int)]=some (1,[U y,U s,U i,U A,U R,U J,U v0,U (((R*4294967296+J)/(i*4294967296+A):Nat):Int)]):=by
 obtain⟨Y,f2,f3,f4⟩:=Q5f hb T V X;refine Vl (F:=λq r=>Am (LE M) [U y,U s,U i,U A,U R,U J,U v0,U q,U r]) (G:=λq _=>some (1,[U y,U s,U i,U A,U R,U J,U v0,U q])) rfl hb T L V X ?_ rfl (R/i) _ _ (Nat.le_add_left _ _) Y f3 (by omega) f2;intro q r hq hr;have w1:wrap .u64 ((r:Int)+(i:Int))=((r+i:Nat):Int):=by rw[<-ii,wr (by omega)]
 have w3:wrap .u64 (wrap .u64 (4294967296*(r:Int))+(J:Int))=((r*4294967296+J:Nat):Int):=by rw[show(4294967296:Int)*r=((r*4294967296:Nat):Int) by omega,wr (by omega),<-ii,wr (by omega)]
 have w4:4294967296<=q->wrap .u64 ((q:Int)-1)=((q-1:Nat):Int):=λh=>by rw[show(q:Int)-1=((q-1:Nat):Int) by omega,wr (by omega)]
 have D:=Zop (DI:=M) y s i A R J v0 q r;rw[w1,w3]at D;by_cases N:4294967296<=q
 ·rw[DD (show(q:Int)>=4294967296 by omega),w4 N]at D;show _=if _ then _ else _;rw[ab (.inl N)];by_cases I:4294967296<=r+i
  ·rw[DD (show((r+i:Nat):Int)>=4294967296 by omega)]at D;rw[ab I];exact A1 D (by simp)
  ·rw[AZ (show¬((r+i:Nat):Int)>=4294967296 by omega)]at D;rw[aa I];exact Bc D
 ·have O:=Qrr (q:=q) (b:=A) (by omega) hb;rw[AZ (show¬(q:Int)>=4294967296 by omega),<-dc,wr (bz O (by decide))]at D;show _=if _ then _ else _;by_cases S:r*4294967296+J<q*A
  ·rw[DD (show((q*A:Nat):Int)>((r*4294967296+J:Nat):Int) by omega)]at D;rw[ab (.inr S)];have a0:0<q:=by
    rcases ec q with h|h
    ·rw[h]at S;omega
    ·exact h
   rw[show(q:Int)-1=((q-1:Nat):Int) by omega,wr (by omega)]at D;by_cases I:4294967296<=r+i
   ·rw[DD (show((r+i:Nat):Int)>=4294967296 by omega)]at D;rw[ab I];exact A1 D (by simp)
   ·rw[AZ (show¬((r+i:Nat):Int)>=4294967296 by omega)]at D;rw[aa I];exact Bc D
  ·rw[AZ (show¬((q*A:Nat):Int)>((r*4294967296+J:Nat):Int) by omega)]at D;rw[aa (λh=>h.elim N S)];exact A1 D (by simp)
theorem Zwq {y s q1 w:Int} (hb:A<4294967296) (V:2147483648<=i) (L:i<4294967296) (X:R<i*4294967296+A) (Y:J<4294967296):
  Am (Pm M N) [U y,U s,U i,U A,U J,U q1,U ((R%i:Nat):Int),U w,U ((R/i:Nat):Int)]=some (1,[U y,U s,U J,U q1,U w,U (((R*4294967296+J)/(i*4294967296+A):Nat):Int)]):=by
 obtain⟨f1,f2,f3,f4⟩:=Q5f hb V X Y;refine Vl (F:=λq r=>Am (Pm M N) [U y,U s,U i,U A,U J,U q1,U r,U w,U q]) (G:=λq _=>some (1,[U y,U s,U J,U q1,U w,U q])) rfl hb V L X Y ?_ rfl (R/i) _ _ (Nat.le_add_left _ _) f1 f3 (by omega) f2;intro q r hq hr;have w1:wrap .u64 ((r:Int)+(i:Int))=((r+i:Nat):Int):=by rw[<-ii,wr (by omega)]
 have w3:wrap .u64 (wrap .u64 (4294967296*(r:Int))+(J:Int))=((r*4294967296+J:Nat):Int):=by rw[show(4294967296:Int)*r=((r*4294967296:Nat):Int) by omega,wr (by omega),<-ii,wr (by omega)]
 have w4:4294967296<=q->wrap .u64 ((q:Int)-1)=((q-1:Nat):Int):=λh=>by rw[show(q:Int)-1=((q-1:Nat):Int) by omega,wr (by omega)]
 have D:=Zmv (DI:=M) (N17:=N) y s i A J q1 r w q;rw[w1,w3]at D;by_cases O:4294967296<=q
 ·rw[DD (show(q:Int)>=4294967296 by omega),w4 O]at D;show _=if _ then _ else _;rw[ab (.inl O)];by_cases I:4294967296<=r+i
  ·rw[DD (show((r+i:Nat):Int)>=4294967296 by omega)]at D;rw[ab I];exact A1 D (by simp)
  ·rw[AZ (show¬((r+i:Nat):Int)>=4294967296 by omega)]at D;rw[aa I];exact Bc D
 ·have S:=Qrr (q:=q) (b:=A) (by omega) hb;rw[AZ (show¬(q:Int)>=4294967296 by omega),<-dc,wr (bz S (by decide))]at D;show _=if _ then _ else _;by_cases T:r*4294967296+J<q*A
  ·rw[DD (show((q*A:Nat):Int)>((r*4294967296+J:Nat):Int) by omega)]at D;rw[ab (.inr T)];have a0:0<q:=by
    rcases ec q with h|h
    ·rw[h]at T;omega
    ·exact h
   rw[show(q:Int)-1=((q-1:Nat):Int) by omega,wr (by omega)]at D;by_cases I:4294967296<=r+i
   ·rw[DD (show((r+i:Nat):Int)>=4294967296 by omega)]at D;rw[ab I];exact A1 D (by simp)
   ·rw[AZ (show¬((r+i:Nat):Int)>=4294967296 by omega)]at D;rw[aa I];exact Bc D
  ·rw[AZ (show¬((q*A:Nat):Int)>((r*4294967296+J:Nat):Int) by omega)]at D;rw[aa (λh=>h.elim O T)];exact A1 D (by simp)
theorem Q2p {s:Nat} (D:s<=63):(2:Int)^min (Int.toNat (s:Int)) IntKind.u64.bits=((2^s:Nat):Int):=by
 have e:min (Int.toNat (s:Int)) IntKind.u64.bits=s:=by
  show min (Int.toNat (s:Int)) 64=s;omega
 rw[e];simp
theorem Z3z {s:Nat} (D:s<=63):(2:Int)^min (Int.toNat ((64-s:Nat):Int)) IntKind.u64.bits=((2^(64-s):Nat):Int):=by
 have e:min (Int.toNat ((64-s:Nat):Int)) IntKind.u64.bits=64-s:=by
  show min (Int.toNat ((64-s:Nat):Int)) 64=64-s;omega
 rw[e];simp
theorem Q5r (x y:Nat):((x:Int)).fdiv (y:Int)=((x/y:Nat):Int):=by
 rw[f6 _ (by omega)];rfl
theorem YR (x y:Nat):((x:Int)).tdiv (y:Int)=((x/y:Nat):Int):=by
 rw[bp (by omega)];rfl
theorem orP {A B s:Nat} (hB:B<2^s) (h:A*2^s+B<w64):wrap .u64 (((BitVec.ofInt IntKind.u64.bits ((A*2^s:Nat):Int)|||BitVec.ofInt IntKind.u64.bits (B:Int)).toNat:Nat):Int)=((A*2^s+B:Nat):Int):=by
 rw[A6]at h;have e:(BitVec.ofInt IntKind.u64.bits ((A*2^s:Nat):Int)|||BitVec.ofInt IntKind.u64.bits (B:Int)).toNat=A*2^s+B:=by
  rw[BitVec.toNat_or];have e1:∀v:Nat,v<18446744073709551616->(BitVec.ofInt IntKind.u64.bits (v:Int)).toNat=v:=by
   intro v D;simp only[IntKind.bits,jf];omega
  have:=(jo hB A).symm;rw[d9]at this;generalize A*2^s=X at*;rw[e1 _ (by omega),e1 _ (by omega)];exact this
 rw[e,wr (by omega)]
theorem Q1g {v u D y:Nat} (I:y<w64) (L:D=(v*4294967296+u)/y) (G:0<y):wrap .u64 (wrap .u64 (wrap .u64 ((v:Int)*4294967296)+(u:Int))-wrap .u64 ((D:Int)*(y:Int)))=(((v*4294967296+u)%y:Nat):Int):=by
 have M:=gf (v*4294967296+u) y;have N:=gw (v*4294967296+u) G;rw[<-L,d9]at M;rw[A6]at I;rw[Lg,Lg,Lg,Lg,<-dc];generalize D*y=p at*;generalize(v*4294967296+u)%y=r at*;omega
theorem Q65 (D:0<A) (G:i<w64):wrap .u64 ((i:Int)-wrap .u64 (wrap .u64 ((i/A:Nat):Int)*(A:Int)))=((i%A:Nat):Int):=by
 have I:=gf i A;have L:=gw i D;have M:=ie i A;rw[A6]at G;rw[wr (x:=i/A) (by omega),<-dc];rw[d9]at I;generalize i/A*A=p at*;generalize i%A=r at*;rw[wr (x:=p) (by omega),show(i:Int)-(p:Int)=(r:Int) by omega,wr (by omega)]
theorem Z61 {v u1 u0 Y:Nat} (D:0<Y):(v*w64+(u1*4294967296+u0))/Y=(v*4294967296+u1)/Y*4294967296+((v*4294967296+u1)%Y*4294967296+u0)/Y/\
  (v*w64+(u1*4294967296+u0))%Y=((v*4294967296+u1)%Y*4294967296+u0)%Y:=by
 have e:v*w64+(u1*4294967296+u0)=((v*4294967296+u1)%Y*4294967296+u0)+(v*4294967296+u1)/Y*4294967296*Y:=by
  have h:=gf (v*4294967296+u1) Y;rw[d9]at h;rw[A6];generalize(v*4294967296+u1)%Y=r at*;have e2:(v*4294967296+u1)/Y*4294967296*Y=(v*4294967296+u1)/Y*Y*4294967296:=by rw[gz,d9 4294967296,<-gz]
  rw[e2];generalize(v*4294967296+u1)/Y*Y=p at*;omega
 rw[e,Nat.add_mul_div_right _ _ D,Nat.add_mul_mod_self_right];exact⟨jx _ _,rfl⟩
theorem Zus {D lo y s:Nat} (h0:0<D) (h1:D<y) (a9:y<w64) (a5:lo<w64) (hs:s<=63) (h2:9223372036854775808<=y*2^s) (G:y*2^s<w64) (hM:M [U y]=some [I s]):
  Qcz M (Am (LE M)) (Am (Pm M (Am (LE M)))) [U D,U lo,U y]=some [U (((D*w64+lo)/y:Nat):Int),U (((D*w64+lo)%y:Nat):Int)]:=by
 have hP:0<2^s:=fq _;have a1:2^s*2^(64-s)=w64:=by rw[A6,<-Nat.pow_add,show s+(64-s)=64 by omega]
 have hT:0<2^(64-s):=fq _;have es:wrap .u64 (s:Int)=s:=wr (by omega);have et:wrap .u64 (64-(s:Int))=((64-s:Nat):Int):=by rw[show(64:Int)-s=((64-s:Nat):Int) by omega,wr (by omega)]
 have hB:lo/2^(64-s)<2^s:=by rw[ew hT,a1];exact a5
 have hv:D*2^s+lo/2^(64-s)<y*2^s:=by
  have:D*2^s+2^s<=y*2^s:=by rw[<-gn];exact be _ h1
  omega
 have hN:(D*w64+lo)*2^s=(D*2^s+lo/2^(64-s))*w64+lo*2^s%w64:=by
  have e1:lo*2^s/w64=lo/2^(64-s):=by
   rw[<-a1,d9 lo,Nat.mul_div_mul_left _ _ hP]
  have e2:=gf (lo*2^s) w64;rw[e1]at e2;rw[dk,dk,dm,d9 (lo/2^(64-s)),e2];congr 1;rw[gz,d9 w64,gz]
 have hU:lo*2^s%w64<w64:=gw _ Rv;have ey:wrap .u64 ((y:Int)*((2^s:Nat):Int))=((y*2^s:Nat):Int):=by rw[<-dc,wr (Nat.le_of_lt_succ (by rw[A6]at G;exact G))]
 have eh:wrap .u64 ((D:Int)*((2^s:Nat):Int))=((D*2^s:Nat):Int):=by
  rw[<-dc,wr (Nat.le_of_lt_succ (by have:=eg h1 hP;rw[A6]at G;exact Nat.lt_trans this G))]
 have el:wrap .u64 ((lo:Int)*((2^s:Nat):Int))=((lo*2^s%w64:Nat):Int):=by
  rw[<-dc,Lg,A6];rfl
 have eo:=orP (A:=D) (B:=lo/2^(64-s)) (s:=s) hB (by omega);have hq:(D*w64+lo)/y=(D*w64+lo)*2^s/(y*2^s):=(Nat.mul_div_mul_right _ _ hP).symm;have hr:(D*w64+lo)%y=(D*w64+lo)*2^s%(y*2^s)/2^s:=by rw[Nat.mul_mod_mul_right,Nat.mul_div_cancel _ hP]
 rw[hq,hr,hN];rw[Qzn];simp only[hM,af,HQ,L1,LA,Q0,Pw,TZ,Qed,Qcu,HA,gA,jA,wA,bA,es,et,Q2p hs,Z3z hs,ey,eh,el,Q5r,eo];rw[Be (by simp;omega),AZ (show¬(y:Int)<=D by omega),Be (by simp;omega),AZ (show¬(s:Int)<0 by omega),AZ (show¬(s:Int)<0 by omega),AZ (show¬((64-s:Nat):Int)<0 by omega),AZ (show¬(s:Int)<0 by omega)];rw[Lt,NR _ G,Lt,NR _ hU];have T:y*2^s=y*2^s/4294967296*4294967296+y*2^s%4294967296:=by omega
 have hW:lo*2^s%w64=lo*2^s%w64/4294967296*4294967296+lo*2^s%w64%4294967296:=by omega
 have hb:y*2^s%4294967296<4294967296:=gw _ (by omega);have a2:lo*2^s%w64%4294967296<4294967296:=gw _ (by omega);have a3:lo*2^s%w64/4294967296<4294967296:=by rw[A6]at hU⊢;omega
 have ha:2147483648<=y*2^s/4294967296:=by omega
 have a4:y*2^s/4294967296<4294967296:=by rw[A6]at G;omega
 clear hN hq hr eh el eo ey hB;generalize D*2^s+lo/2^(64-s)=v at*;generalize lo*2^s%w64=w at*;generalize y*2^s=Y at*;generalize w/4294967296=u1 at*;generalize w%4294967296=u0 at*;generalize Y/4294967296=a at*;generalize Y%4294967296=b at*;subst hW;rw[AZ (show¬(a:Int)=0 by omega),YR,Q65 (by omega) (Nat.lt_trans hv G),wr (x:=v/a) (by have:=ie v a;rw[A6]at G;omega)];have hl:=Zym (M:=M) (y:=(Y:Int)) (s:=s) (v0:=u0) hb ha a4 (by rw[<-T];exact hv) a3;rw[hl];rw[<-T];have L:0<Y:=by omega
 have V:=Q1g (v:=v) (u:=u1) (y:=Y) G rfl L;have a6:(v*4294967296+u1)/Y<4294967296:=by rw[T];exact Q2b (by rw[<-T];exact hv) a3
 have O:=gw (v*4294967296+u1) L;obtain⟨k1,k2⟩:=Z61 (v:=v) (u1:=u1) (u0:=u0) L;rw[k1,k2];clear hl k1 k2;obtain⟨X,g1⟩:∃X,(v*4294967296+u1)/Y=X:=⟨_,rfl⟩;obtain⟨S,g2⟩:∃S,(v*4294967296+u1)%Y=S:=⟨_,rfl⟩;rw[g1]at V a6⊢;rw[g2]at V O⊢;simp only[af,HQ,L1,LA,Q0,Pw,TZ,Qed,Qcu,HA,V];rw[show Nat.beq 1 1=true from rfl,ag,AZ (show¬(a:Int)=0 by omega),YR,Q65 (by omega) (Nat.lt_trans O G),wr (x:=S/a) (by have:=ie S a;rw[A6]at G;omega)];have a7:=Zwq (M:=M) (N:=Am (LE M)) (y:=(Y:Int)) (s:=s) (q1:=X) (w:=S) hb ha a4 (by rw[<-T];exact O) a2;rw[a7];rw[<-T];have a0:=Q1g (v:=S) (u:=u0) (y:=Y) G rfl L;have a8:(S*4294967296+u0)/Y<4294967296:=by rw[T];exact Q2b (by rw[<-T];exact O) a2
 obtain⟨q0,g3⟩:∃q0,(S*4294967296+u0)/Y=q0:=⟨_,rfl⟩;obtain⟨r0,g4⟩:∃r0,(S*4294967296+u0)%Y=r0:=⟨_,rfl⟩;rw[g3]at a0 a8⊢;rw[g4]at a0⊢;simp only[af,HQ,L1,LA,Q0,Pw,TZ,HA,a0];rw[show Nat.beq 1 1=true from rfl,ag,AZ (show¬(s:Int)<0 by omega),Q2p hs,Q5r];have w1:wrap .u64 (wrap .u64 ((X:Int)*4294967296)+(q0:Int))=((X*4294967296+q0:Nat):Int):=by
  rw[show(X:Int)*4294967296=((X*4294967296:Nat):Int) by omega,wr (by omega),<-ii,wr (by omega)]
 rw[w1]
theorem Ztv (S:0<y) (h:y<w64):∃s:Nat,Iw [U y]=some [I s]/\s<=63/\9223372036854775808<=y*2^s/\y*2^s<w64:=by
 have G:=A6;obtain⟨b1,b2,b3⟩:=Lib.bitLenAux_bounds 64 y (by rw[<-show w64=2^64 by rw[G]];exact h) (by omega);have N:Lib.bitLen y=Lib.bitLenAux 64 y:=rfl;generalize hb:Lib.bitLenAux 64 y=L at*;have M:L<=64:=by
  by_cases c:L<=64
  ·exact c
  ·have:=Nat.pow_le_pow_right (show 0<2 by omega) (show 64<=L-1 by omega);rw[show(2:Nat)^64=18446744073709551616 from rfl]at this;omega
 refine⟨64-L,?_,by omega,?_,?_⟩
 ·unfold Iw;have D:Fv=18446744073709551616:=rfl;have O:inU (y:Int)=true:=by
   simp only[inU,D,ai,cq];omega
  simp only[HQ,HA,gA,jA,wA,bA,O,ag,ak,N];rw[show(64:Int)-(L:Int)=((64-L:Nat):Int) by omega]
 ·have e:2^(L-1)*2^(64-L)=9223372036854775808:=by rw[<-Nat.pow_add,show L-1+(64-L)=63 by omega]
  rw[<-e];exact be _ b2
 ·have e:2^L*2^(64-L)=w64:=by rw[<-Nat.pow_add,show L+(64-L)=64 by omega,G]
  rw[<-e];exact eg b3 (fq _)
theorem Q99 (G:i<y) (I:y<w64) (D:A<w64):Gz [U i,U A,U y]=some [U (((i*w64+A)/y:Nat):Int),U (((i*w64+A)%y:Nat):Int)]:=by
 rcases ec i with h|h
 ·subst h;rw[ik,dy];exact Q8n D G
 ·obtain⟨s,e,e1,e2,e3⟩:=Ztv (show 0<y by omega) I;exact Zus h G I D e1 e2 e3 e
theorem Zl7 (h1:∀x b,(M [U x,B b]).isSome=true) (h2:∀x y b c,(Z [I x,I y,B b,B c]).isSome=true) (N:∀x y,(W [I x,I y]).isSome=true)
  (h4:∀{V lo y:Nat},V<y->y<w64->lo<w64->(T [U V,U lo,U y]).isSome=true) (h5:∀{x y:Nat},x<w64->y<w64->S [U x,U y]=some [U ((x*y/w64:Nat):Int),U ((x*y%w64:Nat):Int)])
  (D:∀{x:Int},i64 x->P [I x]=some [U (x.natAbs:Int)]) (h7:∀x,(O [I x]).isSome=true) {a b c:Int} (X:i64 a) (hb:i64 b) (Y:i64 c) (m:Int):
  (SM M Z W T S P O [I a,I b,I c,I m]).isSome=true:=by
 have G:∀{x:Int},i64 x->x.natAbs<w64:=by
  intro x hx;unfold i64 at hx;rw[A6];omega
 rw[Q8u,D X,D hb,D Y];refine BQ (λ_=>rfl) λ_=>Fd (h7 _) λ_ _=>BQ (λ_=>rfl) λ_=> ?_;simp only[af,gA,wA,bA,jA,nth,Af];rw[h5 (G X) (G hb)];simp only[af,gA,wA,bA,jA,nth,Af];refine BQ (λ_=>rfl) λc0=> ?_;have c0:=BB c0;have L:a.natAbs*b.natAbs%w64<w64:=gw _ (by rw[A6];decide);refine Fd (h4 (by omega) (G Y) L) λ_ _=>Fd (N _ _) λ_ _=> ?_
 repeat' first|exact rfl|exact h1 _ _|exact h2 _ _ _ _|exact N _ _|refine BQ (λ_=> ?_) (λ_=> ?_)|refine Fd ?_ λ_ _=> ?_
theorem Zlu (x:Int) (b:Bool):(EO [U x,B b]).isSome=true:=by
 show(Qgu [U x,B b]).isSome=true;rw[Qo7]
 repeat' first|exact rfl|refine BQ (λ_=> ?_) (λ_=> ?_)
theorem Zhd (x y:Int) (b c:Bool):(HO [I x,I y,B b,B c]).isSome=true:=by
 show(Qkl [I x,I y,B b,B c]).isSome=true;rw[Qz6]
 repeat' first|exact rfl|refine BQ (λ_=> ?_) (λ_=> ?_)
theorem Z8r (x y:Int):(FK [I x,I y]).isSome=true:=by
 show(Qia [I x,I y]).isSome=true;rw[Qt6]
 repeat' first|exact rfl|refine BQ (λ_=> ?_) (λ_=> ?_)
theorem Z2s (x:Int):(FG [I x]).isSome=true:=by
 show(Vr [I x]).isSome=true;rw[Q3i]
 repeat' first|exact rfl|refine BQ (λ_=> ?_) (λ_=> ?_)
theorem Qiw {a b c:Int} (L:i64 a) (hb:i64 b) (M:i64 c) (m:Int):(Bw [I a,I b,I c,I m]).isSome=true:=
 Zl7 Zlu Zhd Z8r (λD G N=>by rw[Q99 D G N];rfl) (λD G=>Q28 D G) (λh=>Ir h) Z2s L hb M m
theorem Ut (x:Int):i64 (V x):=Z7j x
theorem Qwj {l:List AC} (h:(M l).isSome=true) {f:List AC->List AC}:((M l).bind λo=>some (f o)).isSome=true:=Fd h λ_ _=>rfl
theorem Z7y (D:i64 a) (hb:i64 b):(PY [I a,I b]).isSome=true:=by
 show(XA Bw [I a,I b]).isSome=true;have h:=Qiw D hb (show i64 4096 by unfold i64;omega) 0;generalize Bw=M at*;rw[Z1e];exact Qwj h
theorem Q42 (D:i64 a):(EU [I a]).isSome=true:=by
 show(Ti Bw [I a]).isSome=true;have h:=Qiw D (show i64 1048576 by unfold i64;omega) (show i64 60000 by unfold i64;omega) 2;generalize Bw=M at*;rw[Q2j];exact Qwj h
theorem Zzq (a b:Int):∃v,Rl [I a,I b]=some [I v]/\i64 v:=by
 refine⟨mx (V (a-b)) (V (b-a)),?_,?_⟩
 ·show ZZ [I a,I b]=_;rw[Zjq]
 ·have D:=Ut (a-b);have G:=Ut (b-a)
  unfold mx;split<;>assumption
theorem Qsq (a:Int):(GQ [I a]).isSome=true:=by
 show(Qjl [I a]).isSome=true;rw[Zdq]
 repeat' first|exact rfl|refine BQ (λ_=> ?_) (λ_=> ?_)
theorem Zny (hb:b≠0):(JO [I a,I b]).isSome=true:=by
 show(Qj2 [I a,I b]).isSome=true;rw[Z7w];refine BQ (λc=>absurd (BC c) hb) λ_=>BQ (λc=>absurd (BC c) hb) λ_=>BQ (λ_=>rfl) λ_=>rfl
theorem Zjd (L O S T D:Int) {G:Int} (U:i64 G):(KM [I L,I O,I S,I T,I D,I G]).isSome=true:=by
 show(Yd EU GQ [I L,I O,I S,I T,I D,I G]).isSome=true;have h:=Q42 U;have V:=Qsq D;generalize EU=M at*;generalize GQ=N at*;rw[Zmj]
 repeat' first|exact rfl|exact h|exact V|refine BQ (λ_=> ?_) (λ_=> ?_)|refine Fd ?_ λ_ _=> ?_
theorem Z7i (L O S T D:Int) {G:Int} (U:i64 G):(Ml [I L,I O,I S,I T,I D,I G]).isSome=true:=by
 show(Xo EU GQ [I L,I O,I S,I T,I D,I G]).isSome=true;have h:=Q42 U;have V:=Qsq D;generalize EU=M at*;generalize GQ=N at*;rw[Zqv]
 repeat' first|exact rfl|exact h|exact V|refine BQ (λ_=> ?_) (λ_=> ?_)|refine Fd ?_ λ_ _=> ?_
structure Plan3 (a b c : Int) : Prop where
 a:1<=a/\a<=65536
 b:2<=b/\b<=65536
 c:1<=c/\c<=16777216
abbrev Eo (m0 m1 m3 m4 v:Int):List AC:=[I (V (m0+v)),I v,I (V (v-m1)),I m0,I m3,I m4]
theorem Q3m (m0 m1 m2 m3 m4 m5 v:Int):Jj [I m0,I m1,I m2,I m3,I m4,I m5,I v]=some (Eo m0 m1 m3 m4 v):=by
 show Va [I m0,I m1,I m2,I m3,I m4,I m5,I v]=some (Eo m0 m1 m3 m4 v);rw[Z4e]
theorem CM (a:AC) (l:List AC):nth .vD (a::l) 0=a:=rfl
theorem Ea (a:AC) (l:List AC) (n:Nat):nth .vD (a::l) (n+1)=nth .vD l n:=rfl
theorem Dw (n:Int):Af (.int .i64 n)=n:=rfl
theorem Z74 {x:Ax3} (G:∀u,(M (pxt p x t [I u])).isSome=true) (S:0<=t.length/\t.length<=900000000000000) (D u2:Int) (T:u2-D<=1000000000000):
  (R7 M (Am (Rb M)) (pxt p x t [I D,I u2])).isSome=true:=by
 rw[Qzy];have L:0<=mx 0 (mn D t.length)/\mx 0 (mn D t.length)<=t.length/\mx 0 (mn u2 t.length)-mx 0 (mn D t.length)<=1000000000000/\mx 0 (mn u2 t.length)<=t.length:=by
  unfold mx mn
  (repeat' split)<;>omega
 obtain⟨U,V,X,Y⟩:=L;generalize mx 0 (mn D t.length)=f at*;generalize mx 0 (mn u2 t.length)=e at*;refine Fd (G _) λo _=> ?_;refine Out.is (p:=λ_=>True) ?_;refine .bind (p:=λo=>o.1=1) ?_ λo g=>by rw[g];exact .some trivial
 show Out _ (Am _ (.vC kPt []::I e::I f::pxt p x t [I (gA o 0),I (gA o 1),I (gA o 2)]));generalize gA o 0=w0;generalize gA o 1=N;generalize gA o 2=O;refine C1 (λs:Rw×Int×Int×Int×Int=> .vC kPt s.1::I e::I s.2.1::pxt p x t [I s.2.2.1,I s.2.2.2.1,I s.2.2.2.2]) (λs=>f<=s.2.1/\s.2.1<=t.length/\(s.1.length:Int)<=3*(s.2.1-f)) (λs=>(e-s.2.1).toNat) _ ?_ ([],f,w0,N,O) (by simp;omega);rintro⟨v,u,a0,a1,a2⟩ ⟨q1,q2,q3⟩;dsimp only at*;rw[Zbh];try dsimp only[LO]
 rw[Ae (x:=u+1)];refine .cond (λc=> ?_) (λ_=> .some (.inr ⟨by simp,rfl⟩));have c:=BC c;refine .ibind (G _) λo _=> ?_
 repeat' first
  |(refine .cond (λ_=> ?_) λc=>by rw[Cg (by simp;omega)]at c;cases c)
  |refine .cond (λ_=> ?_) (λ_=> ?_)
 all_goals refine Out.some (Or.inl ⟨rfl,(_,u+1,_,_,_),rfl,by simp;omega,by show(e-(u+1)).toNat<(e-u).toNat;omega⟩)
theorem Z9x {x:Ax3} (h:Fix p x t) (D u2:Int) (G:u2-D<=1000000000000):(JL (pxt p x t [I D,I u2])).isSome=true:=
 Z74 (λu=>by rw[Sp h u];rfl) h.t.q.len D u2 G
def BL (k b:Int):Int:=if b<=0 then 0 else(b-1)/k*b-k*((b-1)/k*((b-1)/k+1)/2)
def Cx (j k v a:Int):Prop:= -j<=a/\a<=j/\BL k (-a)<=v/\v<=16777216-BL k a/\(v=0->a<=k)
instance (j k v a:Int):Decidable (Cx j k v a):=by unfold Cx;infer_instance
theorem Q4j (I:2<=k/\k<=65536) (hb:0<b/\b<=1048576):
  0<=(b-1)/k/\(b-1)/k<=524288/\k*((b-1)/k)<=b-1/\0<=(b-1)/k*b/\(b-1)/k*b<=549755813888/\0<=(b-1)/k*((b-1)/k+1)/\(b-1)/k*((b-1)/k+1)<=274878431232:=by
 have D:0<=(b-1)/k:=Int.ediv_nonneg (by omega) (by omega);have L:k*((b-1)/k)<=b-1:=Int.mul_ediv_self_le (by omega);have M:2*((b-1)/k)<=k*((b-1)/k):=fe I.1 D;have G:(b-1)/k<=524288:=by omega
 have N:(b-1)/k*b<=524288*1048576:=fj G hb.2 (by omega) (by omega);have O:(b-1)/k*((b-1)/k+1)<=524288*524289:=fj G (by omega) (by omega) (by omega);exact⟨D,G,L,f8 D (by omega),by omega,f8 D (by omega),by omega⟩
theorem Ks (h:b<=0):BL k b=0:=by simp[BL,h]
theorem Qro (h:b<=k):BL k b=0:=by
 unfold BL;split
 ·rfl
 ·rw[Int.ediv_eq_zero_of_lt (by omega) (by omega)];simp
theorem Zjl (m:Int):m*(m+1)/2=(m-1)*m/2+m:=by
 have:m*(m+1)=(m-1)*m+m*2:=by
  rw[Int.sub_mul,Int.mul_add,Int.mul_one,jc];omega
 rw[this,Int.add_mul_ediv_right _ _ (by omega)]
theorem X_ (D:0<k) (h:k<b):BL k b=(b-k)+BL k (b-k):=by
 have e1:(b-1)/k=(b-k-1)/k+1:=by
  have:b-1=(b-k-1)+k*1:=by omega
  rw[this,Int.add_mul_ediv_left _ _ (by omega)]
 unfold BL;rw[aa,aa,e1];generalize(b-k-1)/k=m;rw[Zjl (m+1)];have e2:m+1-1=m:=by omega
 rw[e2,Int.mul_add k,js m 1 b,Int.mul_sub m b k,Int.mul_add k m 1,jk k m];omega
theorem Qsb {k:Int} (D:0<k):∀(n:Nat) (b:Int),b<=n->0<=BL k b
 |0,b,h=>by rw[Ks (by omega)];omega
 |n+1,b,h=>by
  by_cases hb:b<=k
  ·rw[Qro hb];omega
  ·rw[X_ D (by omega)];have:=Qsb D n (b-k) (by omega);omega
theorem Lh (D:0<k):0<=BL k b:=Qsb D b.toNat b (by omega)
theorem Qw5 (D:2<=k/\k<=65536) (hb:b<=1048576):BL k b<=549755813888:=by
 unfold BL;split
 ·omega
 ·have p:=Q4j (k:=k) (b:=b) D ⟨by omega,hb⟩;generalize(b-1)/k=m at p⊢;obtain⟨G,I,L,M,N,O,S⟩:=p;have T:0<=k*(m*(m+1)/2):=f8 (by omega) (by omega);omega
def bs (k v:Int):Nat->Int->Int->Int
 |0,low,_=>low
 |n+1,low,aY=>if low<aY then
   if BL k (aY-(aY-low)/2)<=v-(aY-(aY-low)/2)then bs k v n (aY-(aY-low)/2) aY else bs k v n low (aY-(aY-low)/2-1)
  else low
def AJ (j k v a:Int):Int:= -(bs k v 20 (-a-k) (min (k-a) j))
theorem Qmn (k v:Int):∀(n:Nat) (low aY:Int),low<=bs k v n low aY/\bs k v n low aY<=max low aY
 |0,low,aY=>by simp only[bs];omega
 |n+1,low,aY=>by
  unfold bs;split
  ·split
   ·have:=Qmn k v n (aY-(aY-low)/2) aY;omega
   ·have:=Qmn k v n low (aY-(aY-low)/2-1);omega
  ·omega
theorem Qmc (k v:Int):∀(n:Nat) (low aY:Int),low<=aY->aY-low<2^n->BL k low<=v-low->
  BL k (bs k v n low aY)<=v-bs k v n low aY/\low<=bs k v n low aY/\bs k v n low aY<=aY/\(bs k v n low aY=aY\/v-(bs k v n low aY+1)<BL k (bs k v n low aY+1))
 |0,low,aY,I,M,G=>by
  simp only[bs];have:aY-low<1:=by simpa using M
  exact⟨G,by omega,I, .inl (by omega)⟩
 |n+1,low,aY,I,M,G=>by
  have N:(2:Int)^(n+1)=2*2^n:=by rw[Int.pow_succ];omega
  unfold bs;by_cases D:low<aY
  ·rw[ab D];by_cases L:BL k (aY-(aY-low)/2)<=v-(aY-(aY-low)/2)
   ·rw[ab L];obtain⟨a,b,c,d⟩:=Qmc k v n (aY-(aY-low)/2) aY (by omega) (by omega) L;exact⟨a,by omega,c,d⟩
   ·rw[aa L];obtain⟨a,b,c,d⟩:=Qmc k v n low (aY-(aY-low)/2-1) (by omega) (by omega) G;refine⟨a,b,by omega, .inr ?_⟩;rcases d with d|d
    ·have e:bs k v n low (aY-(aY-low)/2-1)+1=aY-(aY-low)/2:=by omega
     rw[e];omega
    ·exact d
  ·rw[aa D];exact⟨G,by omega,I, .inl (by omega)⟩
theorem Qyb (N:Plan3 j k r) (O:Cx j k v a) {B:Int} (hB:B=bs k v 20 (-a-k) (min (k-a) j)):
  BL k B<=v-B/\ -a-k<=B/\B<=k-a/\B<=j/\(B=min (k-a) j\/v-(B+1)<BL k (B+1))/\0<=v:=by
 obtain⟨⟨V,X⟩,⟨Y,p4⟩,p5,p6⟩:=N;obtain⟨h1,h2,S,h4,h5⟩:=O;have G:0<k:=by omega
 have l0:=Lh (b:= -a) G;have D:BL k (-a-k)<=v-(-a-k):=by
  by_cases T:k< -a
  ·rw[X_ G T]at S;omega
  ·rw[Ks (by omega)];omega
 obtain⟨I,L,U,M⟩:=Qmc k v 20 (-a-k) (min (k-a) j) (by omega) (by simp;omega) D;rw[<-hB]at I L U M;exact⟨I,L,by omega,by omega,M,by omega⟩
theorem closed (M:Plan3 j k r) (N:Cx j k v a):
  Cx j k (v+AJ j k v a) (AJ j k v a)/\AJ j k v a-a<=k/\a-AJ j k v a<=k/\(0<a\/(v=0/\AJ j k v a=0)\/AJ j k v a<0):=by
 obtain⟨B,hB⟩:∃B,B=bs k v 20 (-a-k) (min (k-a) j):=⟨_,rfl⟩;have hb:AJ j k v a= -B:=by unfold AJ;rw[hB]
 obtain⟨q1,q2,q3,q4,D,q6⟩:=Qyb M N hB;rw[hb];obtain⟨⟨p1,p2⟩,⟨p3,p4⟩,p5,p6⟩:=M;obtain⟨h1,h2,h3,h4,h5⟩:=N;have L:0<k:=by omega
 have top:B+1<=0->B=min (k-a) j:=by
  intro h;rcases D with D|D
  ·exact D
  ·rw[Ks h]at D;omega
 have T: -a<=B\/0<=B:=by
  by_cases G:B+1<=0
  ·have:=top G;omega
  ·right;omega
 have I:a<=0->0<=B:=λO=>by
  by_cases G:B+1<=0
  ·have:=top G;omega
  ·omega
 have la:=Lh (b:=a) L;have U: -j<=B:=by
  by_cases G:B+1<=0
  ·have:=top G;omega
  ·omega
 have e1: -(-B)=B:=by omega
 refine⟨⟨by omega,by omega,by rw[e1];omega,?_,?_⟩,by omega,by omega,?_⟩
 ·by_cases G:0<=B
  ·rw[Ks (b:= -B) (by omega)];omega
  ·have ht:=top (by omega);have V:B=k-a:=by omega
   have e2: -B=a-k:=by omega
   have hs:=X_ (k:=k) (b:=a) L (by omega);rw[e2];omega
 ·intro S;omega
 ·by_cases O:0<a
  ·exact .inl O
  ·right;have X:=I (by omega);by_cases S:v=0
   ·left;have:=Lh (b:=B) L;exact⟨S,by omega⟩
   ·right;by_cases Y:B=0
    ·rcases D with D|D
     ·omega
     ·rw[Y,Qro (k:=k) (b:=0+1) (by omega)]at D;omega
    ·omega
def Bz (j k:Int):Nat->Int->Int->List Int×Bool
 |0,v,_=>([],decide (v<=0))
 |n+1,v,a=>if v<=0 then([],true)else((v+AJ j k v a)::(Bz j k n (v+AJ j k v a) (AJ j k v a)).1,(Bz j k n (v+AJ j k v a) (AJ j k v a)).2)
theorem Zad (j k:Int):∀(n:Nat) (v a:Int),(Bz j k n v a).2=true->Bz j k (n+1) v a=Bz j k n v a
 |0,v,a,h=>by
  have h:v<=0:=of_decide_eq_true h;unfold Bz;rw[ab h];show([],true)=([],decide (v<=0));rw[aj h]
 |n+1,v,a,h=>by
  unfold Bz at h⊢;by_cases c:v<=0
  ·rw[ab c,ab c]
  ·rw[aa c]at h;rw[aa c,aa c,Zad j k n _ _ h]
theorem Io (D:Plan3 j k r) (G:Cx j k v a): -65536<=a/\a<=65536/\0<=v/\v<=16777216:=by
 obtain⟨I,L,M,N,-⟩:=G;have O:=D.a;have S:=D.b
 have T:=Lh (k:=k) (b:=a) (by omega);have U:=Lh (k:=k) (b:= -a) (by omega);omega
end Go.Bm
noncomputable section
namespace Go.Bm
theorem Zcc {a k c:Int} (D:2<=k/\k<=65536) {d:Int} (M:d<=1048576):Hq [I a,I k,I c,I d]=some [I (BL k d)]:=by
 show Qjz _=_;rw[Q0q];by_cases h:d<=0
 ·rw[By (aj h),Ks h]
 ·rw[Be (an h),Be (an (by omega)),Be (an (by omega))];obtain⟨N,O,S,T,U,G,V⟩:=Q4j D (show 0<d/\d<=1048576 by omega);rw[Ae (x:=d-1),bp (show 0<=d-1 by omega)];unfold BL;rw[aa h];have X:0<=k*((d-1)/k*((d-1)/k+1)/2):=f8 (by omega) (by omega);have L:k*((d-1)/k*((d-1)/k+1)/2)<=65536*274878431232:=fj D.2 (by omega) (by omega) (by omega);generalize Y:(d-1)/k=q at*;rw[Ae (x:=q),Ae (x:=q*d),Ae (x:=q+1),Ae (x:=q*(q+1)),bp G];generalize q*(q+1)=y at*;generalize q*d=z at*;rw[Ae (x:=y/2),Ae (x:=k*(y/2)),Ae]
theorem Zii {a k c:Int} (N:Plan3 a k c) (O:∀{d:Int},d<=1048576->M [I a,I k,I c,I d]=some [I (BL k d)]) (v x:Int):SU M [I a,I k,I c,I v,I x]=some [B (decide (Cx a k v x))]:=by
 have T:=N.a;have S:=N.b
 rw[Qwc,Ae (x:=0-a)];refine eC (λh=> ?_) λh=> ?_
 ·have h:x<0-a:=BC h;rw[an (λq=>by have:=q.1;omega)]
 have h: ¬x<0-a:=BB h;refine eC (λG=> ?_) λG=> ?_
 ·have G:x>a:=BC G;rw[an (λq=>by have:=q.2.1;omega)]
 have G: ¬x>a:=BB G;have U:=Qw5 (b:= -x) S (by omega);have X:=Qw5 (b:=x) S (by omega);have Y:=Lh (k:=k) (b:=x) (by omega);have fin: ¬(v=0/\x>k)->((M [I a,I k,I c,I (V (0-x))]).bind λo=>bif decide (v>=gA o 0)then(M [I a,I k,I c,I x]).bind λo2=>some [B (decide (v<=V (16777216-gA o2 0)))]else some [B false])=some [B (decide (Cx a k v x))]:=λhz=>by
  rw[Ae (x:=0-x),show(0:Int)-x= -x by omega];refine eB (O (by omega)) (eC (λq=> ?_) λq=> ?_)
  ·have q:v>=BL k (-x):=BC q;refine eB (O (by omega)) ?_;show some [B (decide (v<=V (16777216-BL k x)))]=_;rw[Ae];have e:(v<=16777216-BL k x)↔Cx a k v x:=⟨λe=>⟨by omega,by omega,q,e,λz=>by omega⟩,λe=>e.2.2.2.1⟩;rw[decide_eq_decide.2 e]
  ·have q: ¬v>=BL k (-x):=BB q;rw[an (λw=>q w.2.2.1)]
 refine eC (λD=>eC (λL=> ?_) λL=> ?_) λD=> ?_
 ·have D:v=0:=eq_of_beq D;have L:x>k:=BC L;rw[an (λq=>by have:=q.2.2.2.2 D;omega)]
 ·exact fin λw=>BB L w.2
 ·exact fin λw=>by rw[beT w.1]at D;cases D
theorem Zv3 {a k c:Int} (D:Plan3 a k c) (v x:Int):Hh [I a,I k,I c,I v,I x]=some [B (decide (Cx a k v x))]:=Zii D (λG=>Zcc D.b G) v x
theorem Zev:∀(n:Nat) {low aY:Int},¬low<aY->bs k v n low aY=low
 |0,_,_,_=>rfl
 |n+1,_,_,h=>by unfold bs;rw[aa h]
theorem Z4h {M MV:Fn} {a k c v:Int} (N:∀{d:Int},d<=1048576->M [I a,I k,I c,I d]=some [I (BL k d)]) (S: -1099511627776<=v/\v<=1099511627776):∀(n:Nat) (low aY:Int),aY-low<2^n-> -262144<=low->aY<=262144->low<=262144-> -262145<=aY->
  Am (Mb M MV) [I v,I low,I aY,I a,I k,I c]=some (1,[I (bs k v n low aY)]):=by
 have D:∀(n:Nat) {low aY:Int},¬low<aY->Am (Mb M MV) [I v,I low,I aY,I a,I k,I c]=some (1,[I (bs k v n low aY)]):=λn low aY h=>by
  rw[Zev n h];refine A1 ?_ (by simp);rw[Xk,Be (an h)]
 intro n;induction n with
 |zero=>
  intro low aY h _ _ _ _;have h:aY-low<1:=by simpa using h
  exact D 0 (by omega)
 |succ n L=>
  intro low aY h T U X Y;have O:(2:Int)^(n+1)=2*2^n:=by rw[Int.pow_succ];omega
  rw[O]at h;by_cases cc:low<aY
  ·have e1:V (aY-V ((V (aY-low)).tdiv 2))=aY-(aY-low)/2:=by
    rw[Ae (x:=aY-low),bp (show 0<=aY-low by omega),Ae (x:=(aY-low)/2),Ae]
   have e2:V (v-(aY-(aY-low)/2))=v-(aY-(aY-low)/2):=Ae;have e3:V (aY-(aY-low)/2-1)=aY-(aY-low)/2-1:=Ae;have G:=Xk M MV v low aY a k c;rw[By (aj cc),e1,e2,e3,N (by omega)]at G;unfold bs;rw[ab cc];by_cases q:BL k (aY-(aY-low)/2)<=v-(aY-(aY-low)/2)
   ·rw[ab q];rw[Bc (G.trans (eB rfl (eT (aj (show v-(aY-(aY-low)/2)>=BL k (aY-(aY-low)/2)from q)) rfl)))];exact L _ _ (by omega) (by omega) (by omega) (by omega) (by omega)
   ·rw[aa q];rw[Bc (G.trans (eB rfl (eF (an (show¬v-(aY-(aY-low)/2)>=BL k (aY-(aY-low)/2)from q)) rfl)))];exact L _ _ (by omega) (by omega) (by omega) (by omega) (by omega)
  ·exact D (n+1) cc
theorem Zfq {a k c v x:Int} (D:Plan3 a k c) (G:Cx a k v x) (L:∀{d:Int},d<=1048576->M [I a,I k,I c,I d]=some [I (BL k d)]) (hV:Z [I a,I k,I c]=some [B true]):
  SQ M Z (Am (Mb M Z)) [I a,I k,I c,I v,I x]=some [I (AJ a k v x)]:=by
 have N:=Io D G;have O:=D.a;have S:=D.b
 rw[Q9x];have m1:mx x v=max x v:=by unfold mx;split<;>omega
 have m2:mn x v=min x v:=by unfold mn;split<;>omega
 rw[m1,m2];refine eB hV (eF rfl (eF (an (by omega)) (eF (an (by omega)) ?_)));have m3:mn (V (k-x)) a=min (k-x) a:=by rw[Ae (x:=k-x)];unfold mn;split<;>omega
 rw[m3,Ae (x:=0-x),Ae (x:=0-x-k),show(0:Int)-x-k= -x-k by omega];refine eB (Z4h (MV:=Z) L (by omega) 20 (-x-k) (min (k-x) a) (by simp;omega) (by omega) (by omega) (by omega) (by omega)) (eT rfl ?_);have hb:=Qmn k v 20 (-x-k) (min (k-x) a);show some [I (V (0-bs k v 20 (-x-k) (min (k-x) a)))]=_;unfold AJ;rw[Ae,Int.zero_sub]
theorem Qzg {a k c:Int} (D:Plan3 a k c):ES [I a,I k,I c]=some [B true]:=by
 rw[S4,aj];exact⟨D.a.1,D.a.2,D.b.1,D.b.2,D.c.1,D.c.2⟩
theorem Qsl {a k c v x:Int} (D:Plan3 a k c) (G:Cx a k v x):E4 [I a,I k,I c,I v,I x]=some [I (AJ a k v x)]:=
 Zfq D G (λL=>Zcc D.b L) (Qzg D)
def Bh (a k v x:Int):List Int×Bool:=if Cx a k v x/\(Bz a k 4096 v x).2=true then((Bz a k 4096 v x).1,true)else([],false)
theorem Zjg {D MR MV:Fn} {a k c:Int} (L:Plan3 a k c) (hB:∀{v x:Int},Cx a k v x->D [I a,I k,I c,I v,I x]=some [I (AJ a k v x)]):∀(n:Nat) (pre:List Int) (v x:Int),pre.length+n=4096->Cx a k v x->
  Am (JW D MR MV) [.vC Aa (pre.map Aq),I v,I x,I a,I k,I c]=if(Bz a k n v x).2=true then some (2,[.vC Aa ((pre++(Bz a k n v x).1).map Aq)])else some (1,[B false]):=by
 have fin:∀(n:Nat) (pre:List Int) (v x:Int),v<=0->Am (JW D MR MV) [.vC Aa (pre.map Aq),I v,I x,I a,I k,I c]=if(Bz a k n v x).2=true then some (2,[.vC Aa ((pre++(Bz a k n v x).1).map Aq)])else some (1,[B false]):=λn pre v x h=>by
  have e:Bz a k n v x=([],true):=by
   cases n with
   |zero=>show([],decide (v<=0))=([],true);rw[aj h]
   |succ n=>unfold Bz;rw[ab h]
  rw[e,ab rfl];refine A1 ?_ (by simp);rw[Tb,Be (an (by omega)),fw]
 intro n;induction n with
 |zero=>
  intro pre v x T G;by_cases h:v<=0
  ·exact fin 0 pre v x h
  ·have e:Bz a k 0 v x=([],false):=by show([],decide (v<=0))=([],false);rw[an h]
   rw[e,aa (by simp)];refine A1 ?_ (by simp);rw[Tb,By (aj (by omega)),By (beT (by rw[ah];omega))]
 |succ n U=>
  intro pre v x T G;by_cases h:v<=0
  ·exact fin (n+1) pre v x h
  ·have N:=closed L G;have X:=Io L G;have O:=Io L N.1;have S:=Tb D MR MV (pre.map Aq) v x a k c;rw[By (aj (by omega)),Be (beF (by rw[ah];omega)),hB G]at S;have Y:V (v+AJ a k v x)=v+AJ a k v x:=Ae;have M:JW D MR MV [.vC Aa (pre.map Aq),I v,I x,I a,I k,I c]=some (0,[.vC Aa ((pre++[v+AJ a k v x]).map Aq),I (v+AJ a k v x),I (AJ a k v x),I a,I k,I c]):=by
    refine S.trans (eB rfl ?_);show cond ((List.length (pre.map Aq++[[I (V (v+AJ a k v x))]])*8).ble 140737488355328) (some (0,[AC.vC Aa (pre.map Aq++[[I (V (v+AJ a k v x))]]),I (V (v+AJ a k v x)),I (AJ a k v x),I a,I k,I c])) none=_;rw[Y,Cg (by simp;omega),bv];rfl
   rw[Bc M,U (pre++[v+AJ a k v x]) _ _ (by simp;omega) N.1];have e:Bz a k (n+1) v x=((v+AJ a k v x)::(Bz a k n (v+AJ a k v x) (AJ a k v x)).1,(Bz a k n (v+AJ a k v x) (AJ a k v x)).2):=by
    show(if v<=0 then _ else _)=_;rw[aa h]
   rw[e];simp only[fa,az,bc]
theorem Z2t {a k c:Int} (G:Plan3 a k c) (hB:∀{v x:Int},Cx a k v x->M [I a,I k,I c,I v,I x]=some [I (AJ a k v x)]) (hV:W [I a,I k,I c]=some [B true])
  (L:∀v x,Z [I a,I k,I c,I v,I x]=some [B (decide (Cx a k v x))]) (v x:Int):
  To M Z W (Am (JW M Z W)) [I a,I k,I c,I v,I x]=some [.vC Aa ((Bh a k v x).1.map Aq),B (Bh a k v x).2]:=by
 rw[Qsg];refine eB hV (eF rfl (eB (L v x) ?_));unfold Bh;refine eC (λh=> ?_) λh=> ?_
 ·have h: ¬Cx a k v x:=by
   intro q;have h:(!decide (Cx a k v x))=true:=h;rw[aj q]at h;cases h
  rw[aa (λw=>h w.1)];rfl
 ·have h:Cx a k v x:=by
   have h:(!decide (Cx a k v x))=false:=h;by_cases q:Cx a k v x
   ·exact q
   ·rw[an q]at h;cases h
  have D:=Zjg (MR:=Z) (MV:=W) G hB 4096 [] v x (by simp) h;by_cases q:(Bz a k 4096 v x).2=true
  ·rw[ab q]at D;rw[ab ⟨h,q⟩];exact eB D rfl
  ·rw[aa q]at D;rw[aa (λw=>q w.2)];exact eB D rfl
theorem Z9j {a k c:Int} (D:Plan3 a k c) (v x:Int):Ly [I a,I k,I c,I v,I x]=some [.vC Aa ((Bh a k v x).1.map Aq),B (Bh a k v x).2]:=
 Z2t D (λG=>Qsl D G) (Qzg D) (Zv3 D) v x
theorem Q1j {a k c:Int} (D:Plan3 a k c):∀(n:Nat) (v x:Int),Cx a k v x->(Bz a k n v x).1.length<=n/\∀w∈(Bz a k n v x).1,0<=w/\w<=16777216
 |0,v,x,_=>⟨by simp[Bz],λw h=>by simp[Bz]at h⟩
 |n+1,v,x,h=>by
  have I:=closed D h;have M:=Io D I.1;have L:=Q1j D n _ _ I.1;unfold Bz;by_cases q:v<=0
  ·rw[ab q];exact⟨by simp,λw h=>by cases h⟩
  ·rw[aa q];refine⟨by simp only[bm];omega,λw G=> ?_⟩;rcases ax.1 G with rfl|G
   ·omega
   ·exact L.2 w G
theorem Zhe {a k c:Int} (D:Plan3 a k c) (v x:Int):(Bh a k v x).1.length<=4096/\∀w∈(Bh a k v x).1,0<=w/\w<=16777216:=by
 unfold Bh;split
 ·rename_i h;exact Q1j D 4096 v x h.1
 ·exact⟨by simp,λw h=>by cases h⟩
theorem Z6d {α:Type} (l:List α) (x y:α) (r:List α):(l++x::r).set l.length y=l++y::r:=by
 rw[List.set_append_right _ _ (co _)];simp
end Go.Bm
