/- laid together -/
import Derived.Test.YtnnpdlgenmnekaaGreatDoorPrAtF
import Derived.Test.YtnnpdlgenmnekaaGreatDoorMx3
import Derived.Lib.ItoaNum
set_option linter.unusedVariables false
set_option linter.unusedSimpArgs false
set_option maxRecDepth 100000
open Go.IntKind (wrap)
variable {p:Go.Bm.Pth} {i A X J C Y:Nat} {a k u b v r j:Int} {t:Go.Bm.Trk} {M Z W T P O H:Go.Bm.Fn} {d q o:Go.Bm.Pt} {l:Go.Bm.Rw} {Q:Int->Go.Bm.Pt->Prop} {N:Go.Bm.Lp} {g:Go.Bm.Sgm}
namespace Go.Bm
open Classical
theorem Zqs {α:Type} (d x:α) (l:List α):nth d (x::l) 40=nth d l 39:=by simp[nth]
theorem Zv5 {α:Type} (d x:α) (l:List α):nth d (x::l) 41=nth d l 40:=by simp[nth]
theorem Z31 {α:Type} (d x:α) (l:List α):nth d (x::l) 42=nth d l 41:=by simp[nth]
theorem Zo5 {α:Type} (d x:α) (l:List α):nth d (x::l) 43=nth d l 42:=by simp[nth]
theorem Z0w {α:Type} (d x:α) (l:List α):nth d (x::l) 44=nth d l 43:=by simp[nth]
theorem Zjq {α:Type} (d x:α) (l:List α):nth d (x::l) 45=nth d l 44:=by simp[nth]
theorem Zrz {α:Type} (d x:α) (l:List α):nth d (x::l) 46=nth d l 45:=by simp[nth]
theorem Zpq {α:Type} (d x:α) (l:List α):nth d (x::l) 47=nth d l 46:=by simp[nth]
theorem Znh {α:Type} (d x:α) (l:List α):nth d (x::l) 48=nth d l 47:=by simp[nth]
theorem Zxx {α:Type} (d x:α) (l:List α):nth d (x::l) 49=nth d l 48:=by simp[nth]
theorem Z2x {α:Type} (d x:α) (l:List α):nth d (x::l) 50=nth d l 49:=by simp[nth]
theorem Ztv {α:Type} (d x:α) (l:List α):nth d (x::l) 51=nth d l 50:=by simp[nth]
theorem Z4x {α:Type} (d x:α) (l:List α):nth d (x::l) 52=nth d l 51:=by simp[nth]
theorem Z4w {α:Type} (d x:α) (l:List α):nth d (x::l) 53=nth d l 52:=by simp[nth]
theorem Z2e {α:Type} (d x:α) (l:List α):nth d (x::l) 54=nth d l 53:=by simp[nth]
theorem Z48 {α:Type} (d x:α) (l:List α):nth d (x::l) 55=nth d l 54:=by simp[nth]
attribute [go_sem] Zqs Zv5 Z31 Zo5 Z0w Zjq Zrz Zpq Znh Zxx Z2x Ztv Z4x Z4w Z2e Z48
theorem Kb (a b:Int):mn a b=min a b:=by unfold mn;rw[Int.min_def];split<;>split<;>omega
theorem Of (a b:Int):mx a b=max a b:=by unfold mx;rw[Int.max_def];split<;>split<;>omega
def QI (now a b mv:Int):Int:=if b>a then mv else if b<a then-mv else now
def Du (now a b:Pt) (mv:Int):Pt:=⟨QI now.x a.x b.x mv,QI now.y a.y b.y mv,QI now.z a.z b.z mv⟩
def slk (was aT n v:Int):Int:=if was=aT then v else max v n
def Cg (x:Ax3) (was aT:Pt):Int:=slk was.z aT.z x.c.bB (slk was.y aT.y x.b.bB (slk was.x aT.x x.a.bB 0))
def pc0:Pce:=⟨0,0,0,0,⟨0,0,0⟩,⟨0,0,0⟩⟩
def AZ (l:List Pce):Pce:=l.getD (l.length-1) pc0
def DF (t:Trk) (c:Pce):Trk:=
 if t.aE≠[]/\c.bC≠0/\(AZ t.aE).bC=c.bC/\(AZ t.aE).aT=c.aT then
  {t with aE:=t.aE.set (t.aE.length-1) {AZ t.aE with aR:=(AZ t.aE).aR+c.aR},length:=t.length+c.aR}
 else{t with aE:=t.aE++[{c with at_:=t.length}],length:=t.length+c.aR}
def AD (l:List Sgm) (i:Nat):Int:=As (l.take i)
def Ch (x:Ax3) (mv:Int) (a b:Pt) (s aR:Int) (D:Trk×Pt):Trk×Pt:=
 (DF (if Cg x D.2 (Du D.2 a b mv) > 0 then DF D.1 ⟨0, Cg x D.2 (Du D.2 a b mv), s, 0, D.2, Du D.2 a b mv⟩ else D.1)
  ⟨0,aR,s,mv,Du D.2 a b mv,Du D.2 a b mv⟩,Du D.2 a b mv)
def Fu (p:Pth) (x:Ax3) (mv lo D:Int) (i:Nat) (s:Trk×Pt):Trk×Pt:=
 if max (AD p.aF i) lo<min (AD p.aF (i+1)) D then
  Ch x mv (Ez p.aQ p.aF i) (sgA p.aF i).to (if mv<0 then min (AD p.aF (i+1)) D else max (AD p.aF i) lo) (min (AD p.aF (i+1)) D-max (AD p.aF i) lo) s
 else s
def Dr (n:Nat) (mv:Int) (j:Nat):Nat:=if mv<0 then n-1-j else j
def BS (p:Pth) (x:Ax3) (mv lo D:Int) (G:Trk×Pt):Nat->Trk×Pt
 |0=>G
 |j+1=>Fu p x mv lo D (Dr p.aF.length mv j) (BS p x mv lo D G j)
def Bb (n D:Int):Int:=max 0 (min n D)
def Bz (p:Pth) (x:Ax3) (d:Pt) (from_ to:Int):Trk:=
 let n:=As p.aF
 let f:=Bb from_ n
 let t:=Bb to n
 (BS p x (if f>t then-1 else 1) (min f t) (max f t) (⟨[],0,f,d⟩,d) p.aF.length).1
structure Ax3OK (x : Ax3) : Prop where
 a:0<=x.a.bB/\x.a.bB<=1000
 b:0<=x.b.bB/\x.b.bB<=1000
 c:0<=x.c.bB/\x.c.bB<=1000
theorem S5 {x:Ax3} (h:Ax3OK x) (a b:Pt):0<=Cg x a b/\Cg x a b<=1000:=by
 obtain⟨D,G,I⟩:=h;unfold Cg slk
 (repeat' split)<;>omega
structure TB (t : Trk) (n m : Int) : Prop where
 count:(t.aE.length:Int)<=n
 len:0<=t.length/\t.length<=m
 each:∀c∈t.aE,0<=c.aR/\c.aR<=t.length
theorem Qdc {l:List Pce} (h:l≠[]):AZ l∈l:=by
 have G:0<l.length:=by cases l with
  |nil=>exact absurd rfl h
  |cons _ _=>simp
 have D:l.length-1<l.length:=by omega
 unfold AZ;rw[fe,ag D,Option.getD_some];exact ca _
theorem Qos {n m:Int} (h:TB t n m) {c:Pce} {k:Int} (I:0<=c.aR/\c.aR<=k):TB (DF t c) (n+1) (m+k):=by
 obtain⟨L,M,G⟩:=h;unfold DF;by_cases g:t.aE≠[]/\c.bC≠0/\(AZ t.aE).bC=c.bC/\(AZ t.aE).aT=c.aT
 ·rw[ab g];refine⟨by simp only[List.length_set];omega,by simp only;omega,?_⟩;intro q D;rcases fy D with D|rfl
  ·have:=G q D;simp only;omega
  ·have:=G _ (Qdc g.1);simp only;omega
 ·rw[aa g];refine⟨by simp only[aq,bp,dg];omega,by simp only;omega,?_⟩;intro q D;rcases be.1 D with D|D
  ·have:=G q D;simp only;omega
  ·rw[de]at D;subst D;simp only;omega
theorem Q2w (t:Trk) (c:Pce):(DF t c).aQ=t.aQ/\(DF t c).aT=t.aT:=by
 unfold DF;split<;>exact⟨rfl,rfl⟩
theorem QB (l:List Sgm):AD l 0=0:=by unfold AD;rw[List.take_zero];rfl
theorem NL {l:List Sgm} (h:i<l.length):AD l (i+1)=AD l i+(sgA l i).len:=by
 unfold AD;rw[gv,ag h,Option.toList_some,Qd6,L3 h]
theorem Qkg (l:List Sgm):AD l l.length=As l:=by unfold AD;rw[jg]
theorem Un {l:List Sgm} (h:SegOK l):∀i,i<=l.length->0<=AD l i/\AD l i<=i*268435456
 |0,_=>by rw[QB];simp
 |i+1,D=>by
  have:=Un h i (by omega);have:=h.seg _ (Gp (show i<l.length by omega));rw[NL (by omega)];omega
theorem Zgg {x:Ax3} {mv lo hi:Int} {s:Trk×Pt} {n m:Int} (I:Ax3OK x) (L:SegOK p.aF) (D:i<p.aF.length) (h:TB s.1 n m):TB (Fu p x mv lo hi i s).1 (n+2) (m+268436456):=by
 have M:=L.seg _ (Gp D);have e:=NL D;unfold Fu;by_cases c:max (AD p.aF i) lo<min (AD p.aF (i+1)) hi
 ·rw[ab c];unfold Ch;have N:=S5 I s.2 (Du s.2 (Ez p.aQ p.aF i) (sgA p.aF i).to mv);have e1:n+2=n+1+1:=by omega
  have e2:m+268436456=m+1000+268435456:=by omega
  rw[e1,e2];refine Qos ?_ (by simp only;omega);by_cases G:Cg x s.2 (Du s.2 (Ez p.aQ p.aF i) (sgA p.aF i).to mv)>0
  ·rw[ab G];exact Qos h (by simp only;omega)
  ·rw[aa G];exact⟨by have:=h.count;omega,by have:=h.len;omega,h.each⟩
 ·rw[aa c];exact⟨by have:=h.count;omega,by have:=h.len;omega,h.each⟩
theorem Xc {n j:Nat} (mv:Int) (h:j<n):Dr n mv j<n:=by unfold Dr;split<;>omega
theorem Yj {p:Pth} {x:Ax3} {mv lo hi f:Int} {d:Pt} (D:Ax3OK x) (G:SegOK p.aF):∀j,j<=p.aF.length->TB (BS p x mv lo hi (⟨[],0,f,d⟩,d) j).1 (j*2) (j*268436456)
 |0,_=>⟨by simp[BS],by simp[BS],by simp[BS]⟩
 |j+1,I=>by
  have h:=Zgg (mv:=mv) (lo:=lo) (hi:=hi) D G (Xc mv (show j<p.aF.length by omega)) (Yj (mv:=mv) (lo:=lo) (hi:=hi) (f:=f) (d:=d) D G j (by omega));rw[BS];have e1:((j+1:Nat):Int)*2=j*2+2:=by omega
  have e2:((j+1:Nat):Int)*268436456=j*268436456+268436456:=by omega
  rw[e1,e2];exact h
theorem Q68 {x:Ax3} (s:Trk×Pt):(Fu p x a k u i s).1.aQ=s.1.aQ/\(Fu p x a k u i s).1.aT=s.1.aT:=by
 unfold Fu;by_cases c:max (AD p.aF i) k<min (AD p.aF (i+1)) u
 ·rw[ab c];unfold Ch;simp only[Q2w];by_cases D:Cg x s.2 (Du s.2 (Ez p.aQ p.aF i) (sgA p.aF i).to a)>0
  ·rw[ab D];simp only[Q2w];exact⟨trivial,trivial⟩
  ·rw[aa D];exact⟨rfl,rfl⟩
 ·rw[aa c];exact⟨rfl,rfl⟩
def chain (x:Ax3) (mv:Int) (Q:Int->Pt->Prop):Int->Int->Pt->List Pce->Prop
 |_,_,_,[]=>True
 |at_,s,d,c::l=>c.at_=at_/\c.s=s/\1<=c.aR/\((c.bC=mv/\c.was=c.aT/\Cg x d c.aT=0/\∀k,0<=k->k<c.aR->Q (s+mv*k) c.aT)\/(c.bC=0/\c.was=d/\c.aR=Cg x d c.aT))/\chain x mv Q (at_+c.aR) (s+c.bC*c.aR) c.aT l
def BJ:Int->List Pce->Int
 |a,[]=>a
 |a,c::l=>BJ (a+c.aR) l
def CK:Int->List Pce->Int
 |s,[]=>s
 |s,c::l=>CK (s+c.bC*c.aR) l
def ID:Pt->List Pce->Pt
 |d,[]=>d
 |_,c::l=>ID c.aT l
theorem SR (c:Pce):∀(a:Int) (l:List Pce),BJ a (l++[c])=BJ a l+c.aR
 |_,[]=>rfl
 |_,k::l=>SR c _ l
theorem SY (c:Pce):∀(s:Int) (l:List Pce),CK s (l++[c])=CK s l+c.bC*c.aR
 |_,[]=>rfl
 |_,k::l=>SY c _ l
theorem Tv (c:Pce):∀(d:Pt) (l:List Pce),ID d (l++[c])=c.aT
 |_,[]=>rfl
 |_,k::l=>Tv c _ l
theorem Tn {x:Ax3} {mv:Int} {Q:Int->Pt->Prop} {c:Pce}:∀{at_ s:Int} {d:Pt} {l:List Pce},
  chain x mv Q at_ s d (l++[c])↔chain x mv Q at_ s d l/\c.at_=BJ at_ l/\c.s=CK s l/\1<=c.aR/\((c.bC=mv/\c.was=c.aT/\Cg x (ID d l) c.aT=0/\∀k,0<=k->k<c.aR->Q (CK s l+mv*k) c.aT)\/(c.bC=0/\c.was=ID d l/\c.aR=Cg x (ID d l) c.aT))
 |at_,s,d,[]=>by
  simp only[bf,chain,BJ,CK,ID,jp,true_and]
 |at_,s,d,k::l=>by
  simp only[az,chain,BJ,CK,ID];rw[Tn];constructor
  ·rintro⟨D,G,I,L,M,N⟩;exact⟨⟨D,G,I,L,M⟩,N⟩
  ·rintro⟨⟨D,G,I,L,M⟩,N⟩;exact⟨D,G,I,L,M,N⟩
theorem Zd5 {l:List Pce} (h:l≠[]) (v:Pce):l.set (l.length-1) v=l.dropLast++[v]:=by
 have e:=List.dropLast_concat_getLast h;have D:l.length-1=l.dropLast.length:=by rw[List.length_dropLast]
 conv=>lhs;arg 1;rw[<-e]
 rw[D,List.set_append_right _ _ (cm _),i8];rfl
theorem Zdm {l:List Pce} (h:l≠[]):l.dropLast++[AZ l]=l:=by
 have e:=List.dropLast_concat_getLast h;have I:0<l.length:=by
  cases l with
  |nil=>exact absurd rfl h
  |cons _ _=>simp
 have D:l.length-1<l.length:=by omega
 have G:AZ l=l.getLast h:=by
  unfold AZ;rw[fe,ag D,Option.getD_some,List.getLast_eq_getElem]
 rw[G];exact e
structure TC (x : Ax3) (mv : Int) (Q : Int -> Pt -> Prop) (t : Trk) (s : Int) (d : Pt) : Prop where
 ch:chain x mv Q 0 t.aQ t.aT t.aE
 len:BJ 0 t.aE=t.length
 s:CK t.aQ t.aE=s
 d:ID t.aT t.aE=d
theorem Qim {x:Ax3} {s:Int} (hm:a≠0) (h:TC x a Q t s d) {c:Pce} (hs:c.s=s) (hu:1<=c.aR)
  (G:(c.bC=a/\c.was=c.aT/\Cg x d c.aT=0/\∀k,0<=k->k<c.aR->Q (s+a*k) c.aT)\/(c.bC=0/\c.was=d/\c.aR=Cg x d c.aT)):TC x a Q (DF t c) (s+c.bC*c.aR) c.aT:=by
 obtain⟨M,N,D,O⟩:=h;unfold DF;by_cases g:t.aE≠[]/\c.bC≠0/\(AZ t.aE).bC=c.bC/\(AZ t.aE).aT=c.aT
 ·rw[ab g];obtain⟨g1,g2,X,Y⟩:=g;have e:=Zdm g1;rw[Zd5 g1];rw[<-e]at M N D O;rw[Tn]at M;rw[SR]at N;rw[SY]at D;rw[Tv]at O;generalize t.aE.dropLast=I at*;generalize AZ t.aE=L at*;obtain⟨k0,k1,k2,k4,T⟩:=M
  replace G:=G.resolve_right λh=>g2 h.1
  replace T:=T.resolve_right λh=>g2 (X▸h.1)
  obtain⟨c1,c2,-,c3⟩:=G;obtain⟨q1,q2,q4,q3⟩:=T;refine⟨?_,?_,?_,?_⟩
  ·show chain x a Q 0 t.aQ t.aT (I++[_]);rw[Tn];refine⟨k0,k1,k2,by simp only;omega, .inl ⟨q1,q2,q4,?_⟩⟩;intro k hk0 U;simp only at U;by_cases V:k<L.aR
   ·exact q3 k hk0 V
   ·have:=c3 (k-L.aR) (by omega) (by omega);rw[<-D,q1,<-Y]at this;have ea:CK t.aQ I+a*L.aR+a*(k-L.aR)=CK t.aQ I+a*k:=by rw[Int.mul_sub];omega
    rw[ea]at this;exact this
  ·show BJ 0 (I++[_])=t.length+c.aR;rw[SR];simp only;omega
  ·show CK t.aQ (I++[_])=s+c.bC*c.aR;rw[SY];simp only;rw[X]at D⊢;rw[jo];omega
  ·show ID t.aT (I++[_])=c.aT;rw[Tv];exact Y
 ·rw[aa g];refine⟨?_,?_,?_,?_⟩
  ·show chain x a Q 0 t.aQ t.aT (t.aE++[_]);rw[Tn];refine⟨M,N.symm,by rw[D];exact hs,hu,?_⟩;rw[D,O];exact G
  ·show BJ 0 (t.aE++[_])=t.length+c.aR;rw[SR,N]
  ·show CK t.aQ (t.aE++[_])=s+c.bC*c.aR;rw[SY,D]
  ·show ID t.aT (t.aE++[_])=c.aT;rw[Tv]
theorem Zg7 (x:Ax3) (d:Pt):Cg x d d=0:=by unfold Cg slk;simp
theorem Qul {x:Ax3} {s aR:Int} {d a b:Pt} (D:u≠0) (M:∀w d,0<=Cg x w d) (h:TC x u Q t s d) (G:1<=aR) (I:∀k,0<=k->k<aR->Q (s+u*k) (Du d a b u)):
  TC x u Q (Ch x u a b s aR (t,d)).1 (s+u*aR) (Du d a b u):=by
 unfold Ch;simp only;generalize Du d a b u=nx at*;by_cases c:Cg x d nx>0
 ·rw[ab c];have L:=Qim D h (c:=⟨0,Cg x d nx,s,0,d,nx⟩) rfl (by simp only;omega) (.inr ⟨rfl,rfl,rfl⟩);simp only[jc,fm]at L;exact Qim D L (c:=⟨0,aR,s,u,nx,nx⟩) rfl G (.inl ⟨rfl,rfl,Zg7 x nx,I⟩)
 ·rw[aa c];have:=M d nx;exact Qim D h (c:=⟨0,aR,s,u,nx,nx⟩) rfl G (.inl ⟨rfl,rfl,by simp only;omega,I⟩)
def J9 (l:List Sgm) (mv lo D:Int) (j:Nat):Int:=if mv<0 then min (max (AD l (l.length-j)) lo) D else min (max (AD l j) lo) D
def Qsf (p:Pth) (mv:Int) (Q:Int->Pt->Prop):Prop:=∀i,i<p.aF.length->∀(d:Pt) (s:Int),AD p.aF i<=s->s<=AD p.aF (i+1)->AD p.aF i<=s+mv->s+mv<=AD p.aF (i+1)->Q s (Du d (Ez p.aQ p.aF i) (sgA p.aF i).to mv)
theorem Q58 {p:Pth} {x:Ax3} {mv lo hi f:Int} {d:Pt} {Q:Int->Pt->Prop} (T:mv=1\/mv= -1) (M:Ax3OK x) (U:SegOK p.aF) (N:0<=lo/\lo<=hi/\hi<=As p.aF) (hf:(mv=1/\f=lo)\/(mv= -1/\f=hi)) (V:Qsf p mv Q):
  ∀j,j<=p.aF.length->TC x mv Q (BS p x mv lo hi (⟨[],0,f,d⟩,d) j).1 (J9 p.aF mv lo hi j) (BS p x mv lo hi (⟨[],0,f,d⟩,d) j).2
 |0,_=>by
  have Y:J9 p.aF mv lo hi 0=f:=by
   unfold J9;have:=Qkg p.aF;rcases hf with⟨rfl,rfl⟩|⟨rfl,rfl⟩
   ·rw[aa,QB];omega
   ·rw[ab,Nat.sub_zero,this];omega
  rw[Y];exact⟨trivial,rfl,rfl,rfl⟩
 |j+1,hj=>by
  have G:=Q58 T M U N hf V (f:=f) (d:=d) j (by omega);have L:=Xc mv (show j<p.aF.length by omega);have hg:=U.seg _ (Gp L);have O:=NL L;have X:=V _ L;rw[BS];unfold Fu;have D:(mv=1/\Dr p.aF.length mv j=j)\/(mv= -1/\Dr p.aF.length mv j=p.aF.length-1-j):=by
   unfold Dr;rcases T with rfl|rfl
   ·exact .inl ⟨rfl,aa⟩
   ·exact .inr ⟨rfl,ab⟩
  have I:J9 p.aF mv lo hi j=(if mv<0 then min (max (AD p.aF (Dr p.aF.length mv j+1)) lo) hi else min (max (AD p.aF (Dr p.aF.length mv j)) lo) hi)/\
    J9 p.aF mv lo hi (j+1)=(if mv<0 then min (max (AD p.aF (Dr p.aF.length mv j)) lo) hi else min (max (AD p.aF (Dr p.aF.length mv j+1)) lo) hi):=by
   unfold J9;rcases D with⟨rfl,e⟩|⟨rfl,e⟩
   ·rw[e,aa,aa,aa,aa];exact⟨rfl,rfl⟩
   ·rw[e,ab,ab,ab,ab,show p.aF.length-1-j+1=p.aF.length-j by omega,show p.aF.length-(j+1)=p.aF.length-1-j by omega];exact⟨rfl,rfl⟩
  rw[I.1]at G;rw[I.2];generalize Dr p.aF.length mv j=i at*;generalize BS p x mv lo hi (⟨[],0,f,d⟩,d) j=w at*;obtain⟨t,dn⟩:=w;simp only at G⊢;by_cases c:max (AD p.aF i) lo<min (AD p.aF (i+1)) hi
  ·rw[ab c];rcases D with⟨rfl,-⟩|⟨rfl,-⟩
   ·rw[aa]at G⊢;rw[aa];have e1:min (max (AD p.aF i) lo) hi=max (AD p.aF i) lo:=by omega
    rw[e1]at G;have:=Qul (a:=Ez p.aQ p.aF i) (b:=(sgA p.aF i).to) (aR:=min (AD p.aF (i+1)) hi-max (AD p.aF i) lo) (by omega) (λw d=>(S5 M w d).1) G (by omega) (λk h0 h1=>X dn _ (by omega) (by omega) (by omega) (by omega));have e2:max (AD p.aF i) lo+1*(min (AD p.aF (i+1)) hi-max (AD p.aF i) lo)=min (max (AD p.aF (i+1)) lo) hi:=by omega
    rw[e2]at this;exact this
   ·rw[ab]at G⊢;rw[ab];have e1:min (max (AD p.aF (i+1)) lo) hi=min (AD p.aF (i+1)) hi:=by omega
    rw[e1]at G;have:=Qul (a:=Ez p.aQ p.aF i) (b:=(sgA p.aF i).to) (aR:=min (AD p.aF (i+1)) hi-max (AD p.aF i) lo) (by omega) (λw d=>(S5 M w d).1) G (by omega) (λk h0 h1=>X dn _ (by omega) (by omega) (by omega) (by omega));have e2:min (AD p.aF (i+1)) hi+ -1*(min (AD p.aF (i+1)) hi-max (AD p.aF i) lo)=min (max (AD p.aF i) lo) hi:=by omega
    rw[e2]at this;exact this
  ·rw[aa c];have e:(if mv<0 then min (max (AD p.aF (i+1)) lo) hi else min (max (AD p.aF i) lo) hi)=(if mv<0 then min (max (AD p.aF i) lo) hi else min (max (AD p.aF (i+1)) lo) hi):=by
    split<;>omega
   rw[<-e];exact G
theorem Z2h {l:List Pce} (h:l≠[]):nth [] (l.map A8) (l.length-1)=A8 (AZ l):=by
 have G:0<l.length:=by cases l with
  |nil=>exact absurd rfl h
  |cons _ _=>simp
 unfold AZ;have D:l.length-1<l.length:=by omega
 rw[GO _ _ _ _ D,fe,ag D,Option.getD_some]
theorem Q8q:d=q↔d.x=q.x/\d.y=q.y/\d.z=q.z:=DX
theorem Zws {c:Pce} {n m k:Int} (h:TB t n m) (hn:n<=10000000) (hm:m<=1000000000000000000) (hk:k<=1000000000000000000) (hc:0<=c.aR/\c.aR<=k):
  Vd [.vC Au (t.aE.map A8),I c.at_,I c.aR,I c.s,I c.bC,I c.was.x,I c.was.y,I c.was.z,I c.aT.x,I c.aT.y,I c.aT.z,I t.length,I t.aQ,I t.aT.x,I t.aT.y,I t.aT.z]=some (Bw (DF t c)):=by
 obtain⟨h1,h2,Y⟩:=h;have X:V (t.length+c.aR)=t.length+c.aR:=Ad;have D:((t.aE.map A8++[[I t.length,I c.aR,I c.s,I c.bC,I c.was.x,I c.was.y,I c.was.z,I c.aT.x,I c.aT.y,I c.aT.z]]).length*80).ble 140737488355328=true:=by
  rw[Nat.ble_eq,aq,ac];simp only[bp,dg];omega
 have L:(t.aE.map A8++[[I t.length,I c.aR,I c.s,I c.bC,I c.was.x,I c.was.y,I c.was.z,I c.aT.x,I c.aT.y,I c.aT.z]]).length*80<=140737488355328:=ba D;have G:some [AC.vC Au (t.aE.map A8++[[I t.length,I c.aR,I c.s,I c.bC,I c.was.x,I c.was.y,I c.was.z,I c.aT.x,I c.aT.y,I c.aT.z]]),I (t.length+c.aR),I t.aQ,I t.aT.x,I t.aT.y,I t.aT.z]=
   some (Bw {t with aE:=t.aE++[{c with at_:=t.length}],length:=t.length+c.aR}):=by
  simp only[Bw,bt,bj,dx]
 by_cases M:t.aE=[]
 ·have hg: ¬(t.aE≠[]/\c.bC≠0/\(AZ t.aE).bC=c.bC/\(AZ t.aE).aT=c.aT):=λg=>g.1 M;unfold DF;rw[aa hg,<-G];rw[Q8i,ac,Bc (by rw[M];simp),Cj D,X]
 ·have hp:0<t.aE.length:=by
   cases hh:t.aE with
   |nil=>exact absurd hh M
   |cons _ _=>simp
  have e1:V ((t.aE.length:Int)-1)=((t.aE.length-1:Nat):Int):=by rw[Ad];omega
  have T:(0:Int)<=((t.aE.length-1:Nat):Int)/\((t.aE.length-1:Nat):Int)<(t.aE.length:Int):=by omega
  have hl:=Y _ (Qdc M);have U:V ((AZ t.aE).aR+c.aR)=(AZ t.aE).aR+c.aR:=Ad;have N:some [AC.vC Au ((t.aE.map A8).set (t.aE.length-1) [I (AZ t.aE).at_,I ((AZ t.aE).aR+c.aR),I (AZ t.aE).s,I (AZ t.aE).bC,I (AZ t.aE).was.x,I (AZ t.aE).was.y,I (AZ t.aE).was.z,I (AZ t.aE).aT.x,I (AZ t.aE).aT.y,I (AZ t.aE).aT.z]),I (t.length+c.aR),I t.aQ,I t.aT.x,I t.aT.y,I t.aT.z]=
   some (Bw {t with aE:=t.aE.set (t.aE.length-1) {AZ t.aE with aR:=(AZ t.aE).aR+c.aR},length:=t.length+c.aR}):=by
   simp only[Bw,List.map_set]
  have hr:=Z2h M;have main : ∀ R, R = (if c.bC ≠ 0 then if (AZ t.aE).bC = c.bC then if (AZ t.aE).aT.x = c.aT.x /\ (AZ t.aE).aT.y = c.aT.y /\ (AZ t.aE).aT.z = c.aT.z then
    some (Bw {t with aE:=t.aE.set (t.aE.length-1) {AZ t.aE with aR:=(AZ t.aE).aR+c.aR},length:=t.length+c.aR})
    else some (Bw {t with aE:=t.aE++[{c with at_:=t.length}],length:=t.length+c.aR})else some (Bw {t with aE:=t.aE++[{c with at_:=t.length}],length:=t.length+c.aR})else some (Bw {t with aE:=t.aE++[{c with at_:=t.length}],length:=t.length+c.aR}))->R=some (Bw (DF t c)):=by
   intro R hR;rw[hR];unfold DF;by_cases g1:c.bC≠0
   ·by_cases g2:(AZ t.aE).bC=c.bC
    ·by_cases O:(AZ t.aE).aT.x=c.aT.x/\(AZ t.aE).aT.y=c.aT.y/\(AZ t.aE).aT.z=c.aT.z
     ·rw[ab g1,ab g2,ab O,ab ⟨M,g1,g2,Q8q.2 O⟩]
     ·rw[ab g1,ab g2,aa O,aa λg=>O (Q8q.1 g.2.2.2)]
    ·rw[ab g1,aa g2,aa λg=>g2 g.2.2.1]
   ·rw[aa g1,aa λg=>g1 g.2.1]
  refine main _ ?_;rw[<-G,<-N];rw[Q8i,ac,e1,af,hr];simp only[go_sem,X,U,ab T,ab L];rw[ab];simp only[jp]
theorem Zh9 (x:Ax3) (w d:Pt):Nn (AG x++[I w.x,I w.y,I w.z,I d.x,I d.y,I d.z])=some [I (Cg x w d)]:=by
 have he:=Zdc x.a.step x.a.aS x.a.bD x.a.bE x.a.low x.a.aY x.a.bB x.a.aV x.a.aO (x.a.aW.map Aj) x.b.step x.b.aS x.b.bD x.b.bE x.b.low x.b.aY x.b.bB x.b.aV x.b.aO (x.b.aW.map Aj) x.c.step x.c.aS x.c.bD x.c.bE x.c.low x.c.aY x.c.bB x.c.aV x.c.aO (x.c.aW.map Aj) w.x w.y w.z d.x d.y d.z;unfold Nn;refine dp he ?_;unfold Cg slk;simp only[go_sem,Of]
 (repeat' split)<;>first|rfl|(exfalso;omega)
theorem Yak (n a b:Pt) {mv:Int} (D:mv=1\/mv= -1):Ot [I n.x,I n.y,I n.z,I a.x,I a.y,I a.z,I b.x,I b.y,I b.z,I mv]=some (ptR (Du n a b mv)):=by
 unfold Ot;rw[Zfg];have e:V (0-mv)= -mv:=by rw[Ad];omega
 unfold Du QI;simp only[go_sem,e]
 (repeat' split)<;>first|rfl|(exfalso;omega)
theorem Vr {n D:Int}:He [I n,I D]=some [I (Bb n D)]:=by
 unfold He;rw[Zp1];simp only[Kb,Of];rfl
theorem Zbz {MU L M:Fn} {x:Ax3} {s aR:Int} {now:Pt} {n m k:Int} (U:Ax3OK x) (h:TB t n m) (Y:n<=9000000) (hm:m<=900000000000000000) (hk:k<=900000000000000000) (O:0<=aR/\aR<=k)
  (V:L [I now.x,I now.y,I now.z,I q.x,I q.y,I q.z,I o.x,I o.y,I o.z,I u]=some (ptR (Du now q o u))) (X:∀w d:Pt,MU (AG x++[I w.x,I w.y,I w.z,I d.x,I d.y,I d.z])=some [I (Cg x w d)])
  (N : ∀ {t : Trk} {c : Pce} {n m k : Int}, TB t n m -> n <= 10000000 -> m <= 1000000000000000000 -> k <= 1000000000000000000 -> (0 <= c.aR /\ c.aR <= k) ->
   M [.vC Au (t.aE.map A8),I c.at_,I c.aR,I c.s,I c.bC,I c.was.x,I c.was.y,I c.was.z,I c.aT.x,I c.aT.y,I c.aT.z,I t.length,I t.aQ,I t.aT.x,I t.aT.y,I t.aT.z]=some (Bw (DF t c))):
  Qnn MU L M (.vC Au (t.aE.map A8)::I q.x::I q.y::I q.z::I o.x::I o.y::I o.z::I s::I aR::I now.x::I now.y::I now.z::I u::(AG x++[I t.length,I t.aQ,I t.aT.x,I t.aT.y,I t.aT.z]))=
   some (.vC Au ((Ch x u q o s aR (t, now)).1.aE.map A8) :: I (Ch x u q o s aR (t, now)).2.x :: I (Ch x u q o s aR (t, now)).2.y :: I (Ch x u q o s aR (t, now)).2.z :: I u :: (AG x ++
    [I (Ch x u q o s aR (t,now)).1.length,I (Ch x u q o s aR (t,now)).1.aQ,I (Ch x u q o s aR (t,now)).1.aT.x,I (Ch x u q o s aR (t,now)).1.aT.y,I (Ch x u q o s aR (t,now)).1.aT.z])):=by
 have he:=Z0u MU L M (t.aE.map A8) q.x q.y q.z o.x o.y o.z s aR now.x now.y now.z u x.a.step x.a.aS x.a.bD x.a.bE x.a.low x.a.aY x.a.bB x.a.aV x.a.aO (x.a.aW.map Aj) x.b.step x.b.aS x.b.bD x.b.bE x.b.low x.b.aY x.b.bB x.b.aV x.b.aO (x.b.aW.map Aj) x.c.step x.c.aS x.c.bD x.c.bE x.c.low x.c.aY x.c.bB x.c.aV x.c.aO (x.c.aW.map Aj) t.length t.aQ t.aT.x t.aT.y t.aT.z;refine dp he ?_;have hs:=S5 U now (Du now q o u);have D:=X now (Du now q o u);simp only[AG,az,bf]at D⊢;unfold Ch;simp only;generalize Du now q o u=nx at*;simp only[V,go_sem,D];by_cases c:Cg x now nx>0
 ·have T:=N (c:=⟨0,Cg x now nx,s,0,now,nx⟩) h (by omega) (by omega) (k:=1000) (by omega) (by simp only;omega);have hb:=Qos (k:=1000) h (c:=⟨0,Cg x now nx,s,0,now,nx⟩) (by simp only;omega);have G:=N (c:=⟨0,aR,s,u,nx,nx⟩) hb (by omega) (by omega) (k:=k) (by omega) O;simp only at T G;rw[ab c,ab c];simp only[T,Bw,go_sem,G]
 ·have G:=N (c:=⟨0,aR,s,u,nx,nx⟩) h (by omega) (by omega) (k:=k) (by omega) O;simp only at G;rw[aa c,aa c];simp only[G,Bw,go_sem]
theorem Zui {x:Ax3} {s aR:Int} {n m k:Int} (D:u=1\/u= -1) (G:Ax3OK x) (h:TB t n m) (L:n<=9000000) (M:m<=900000000000000000) (N:k<=900000000000000000) (O:0<=aR/\aR<=k):
  FM (.vC Au (t.aE.map A8)::I d.x::I d.y::I d.z::I q.x::I q.y::I q.z::I s::I aR::I o.x::I o.y::I o.z::I u::(AG x++[I t.length,I t.aQ,I t.aT.x,I t.aT.y,I t.aT.z]))=
   some (.vC Au ((Ch x u d q s aR (t, o)).1.aE.map A8) :: I (Ch x u d q s aR (t, o)).2.x :: I (Ch x u d q s aR (t, o)).2.y :: I (Ch x u d q s aR (t, o)).2.z :: I u :: (AG x ++
    [I (Ch x u d q s aR (t,o)).1.length,I (Ch x u d q s aR (t,o)).1.aQ,I (Ch x u d q s aR (t,o)).1.aT.x,I (Ch x u d q s aR (t,o)).1.aT.y,I (Ch x u d q s aR (t,o)).1.aT.z])):=
 Zbz G h L M N O (Yak o d q D) (Zh9 x) λT U V X Y=>Zws T U V X Y
def Fp (l:List Sgm) (j:Nat):Rw:=(List.range j).map λi=>[I (AD l i)]
theorem SA (l:List Sgm) (j:Nat):(Fp l j).length=j:=by simp[Fp]
theorem Zkq (l:List Sgm) (j:Nat):Fp l (j+1)=Fp l j++[[I (AD l j)]]:=by unfold Fp;rw[List.range_succ,bt];rfl
theorem Z5z {l:List Sgm} {n i:Nat} (h:i<n):nth [] (Fp l n) i=[I (AD l i)]:=by
 have D:i<(Fp l n).length:=by rw[SA];exact h
 rw[E1 [] _ i D];simp[Fp]
abbrev QP (p:Pth) (x:Ax3) (lo D mv:Int) (t:Trk) (now:Pt) (at_:Int) (G:Rw) (j:Nat):List AC:=
 [.vC Aa G, .vC Au (t.aE.map A8),I lo,I D,I mv,I at_, .vC Ah (p.aF.map AB),I p.aF.length,I j,I p.aQ.x,I p.aQ.y,I p.aQ.z, .vC Ah (p.aF.map AB), .vC AL (p.aD.map Av),I now.x,I now.y,I now.z,I mv,I x.a.step,I x.a.aS,I x.a.bD,I x.a.bE,I x.a.low,I x.a.aY,I x.a.bB,I x.a.aV,I x.a.aO, .vC Aa (x.a.aW.map Aj),I x.b.step,I x.b.aS,I x.b.bD,I x.b.bE,I x.b.low,I x.b.aY,I x.b.bB,I x.b.aV,I x.b.aO, .vC Aa (x.b.aW.map Aj),I x.c.step,I x.c.aS,I x.c.bD,I x.c.bE,I x.c.low,I x.c.aY,I x.c.bB,I x.c.aV,I x.c.aO, .vC Aa (x.c.aW.map Aj),I t.length,I t.aQ,I t.aT.x,I t.aT.y,I t.aT.z]
theorem Q1s {M:Fn} {p:Pth} {x:Ax3} {lo hi mv:Int} {t:Trk} {now:Pt} (h:SegOK p.aF):∀(k j:Nat),j+k=p.aF.length->
  Am (Ui M) (QP p x lo hi mv t now (AD p.aF j) (Fp p.aF j) j)=some (1,[.vC Aa (Fp p.aF p.aF.length), .vC Au (t.aE.map A8),I lo,I hi,I mv,I p.aQ.x,I p.aQ.y,I p.aQ.z, .vC Ah (p.aF.map AB), .vC AL (p.aD.map Av),I now.x,I now.y,I now.z,I mv,I x.a.step,I x.a.aS,I x.a.bD,I x.a.bE,I x.a.low,I x.a.aY,I x.a.bB,I x.a.aV,I x.a.aO, .vC Aa (x.a.aW.map Aj),I x.b.step,I x.b.aS,I x.b.bD,I x.b.bE,I x.b.low,I x.b.aY,I x.b.bB,I x.b.aV,I x.b.aO, .vC Aa (x.b.aW.map Aj),I x.c.step,I x.c.aS,I x.c.bD,I x.c.bE,I x.c.low,I x.c.aY,I x.c.bB,I x.c.aV,I x.c.aO, .vC Aa (x.c.aW.map Aj),I t.length,I t.aQ,I t.aT.x,I t.aT.y,I t.aT.z])
 |0,j,T=>by
  have G:j=p.aF.length:=by omega
  refine Bn (o:=(1,_)) ?_ (by simp);rw[Qxv,Bc (by omega),G]
 |k+1,j,T=>by
  have D:j<p.aF.length:=by omega
  have N:=h.count;have O:=Un h j (by omega);have U:=h.seg _ (Gp D);have L:Ui M (QP p x lo hi mv t now (AD p.aF j) (Fp p.aF j) j)=some (0,QP p x lo hi mv t now (AD p.aF (j+1)) (Fp p.aF (j+1)) (j+1)):=by
   have hle:(Fp p.aF j++[[I (AD p.aF j)]]).length*8<=140737488355328:=by rw[aq,SA];simp only[bp,dg];omega
   have e1:V ((j:Int)+1)=((j+1:Nat):Int):=by rw[Ad];omega
   rw[Qxv];simp only[go_sem,ac,af,JO D,ab hle,e1,Zkq];rw[ab,ab,Ad (x:=AD p.aF j+(sgA p.aF j).len),NL D]
  rw[BB L];exact Q1s h k (j+1) (by omega)
abbrev Pw (p:Pth) (x:Ax3) (lo D mv:Int) (t:Trk) (now:Pt) (j:Nat):List AC:=
 [.vC Aa (Fp p.aF p.aF.length), .vC Au (t.aE.map A8),I lo,I D,I mv,I p.aF.length,I j,I p.aQ.x,I p.aQ.y,I p.aQ.z, .vC Ah (p.aF.map AB), .vC AL (p.aD.map Av),I now.x,I now.y,I now.z,I mv,I x.a.step,I x.a.aS,I x.a.bD,I x.a.bE,I x.a.low,I x.a.aY,I x.a.bB,I x.a.aV,I x.a.aO, .vC Aa (x.a.aW.map Aj),I x.b.step,I x.b.aS,I x.b.bD,I x.b.bE,I x.b.low,I x.b.aY,I x.b.bB,I x.b.aV,I x.b.aO, .vC Aa (x.b.aW.map Aj),I x.c.step,I x.c.aS,I x.c.bD,I x.c.bE,I x.c.low,I x.c.aY,I x.c.bB,I x.c.aV,I x.c.aO, .vC Aa (x.c.aW.map Aj),I t.length,I t.aQ,I t.aT.x,I t.aT.y,I t.aT.z]
abbrev FX (x:Ax3) (mv:Int) (t:Trk) (now:Pt):List AC:=[.vC Au (t.aE.map A8),I now.x,I now.y,I now.z,I mv,I x.a.step,I x.a.aS,I x.a.bD,I x.a.bE,I x.a.low,I x.a.aY,I x.a.bB,I x.a.aV,I x.a.aO, .vC Aa (x.a.aW.map Aj),I x.b.step,I x.b.aS,I x.b.bD,I x.b.bE,I x.b.low,I x.b.aY,I x.b.bB,I x.b.aV,I x.b.aO, .vC Aa (x.b.aW.map Aj),I x.c.step,I x.c.aS,I x.c.bD,I x.c.bE,I x.c.low,I x.c.aY,I x.c.bB,I x.c.aV,I x.c.aO, .vC Aa (x.c.aW.map Aj),I t.length,I t.aQ,I t.aT.x,I t.aT.y,I t.aT.z]
theorem Zyc {MV:Fn} {x:Ax3} {lo hi mv:Int} {now:Pt} {n m:Int} {j:Nat} (hv:mv=1\/mv= -1) (hp:GoodPath p) (hx:Ax3OK x) (h:TB t n m) (hn:n<=9000000) (hm:m<=900000000000000000)
  (hj:j<p.aF.length)
  (hV:∀{a b:Pt} {s aR:Int},(0<=aR/\aR<=268435456)->MV [.vC Au (t.aE.map A8),I a.x,I a.y,I a.z,I b.x,I b.y,I b.z,I s,I aR,I now.x,I now.y,I now.z,I mv,I x.a.step,I x.a.aS,I x.a.bD,I x.a.bE,I x.a.low,I x.a.aY,I x.a.bB,I x.a.aV,I x.a.aO, .vC Aa (x.a.aW.map Aj),I x.b.step,I x.b.aS,I x.b.bD,I x.b.bE,I x.b.low,I x.b.aY,I x.b.bB,I x.b.aV,I x.b.aO, .vC Aa (x.b.aW.map Aj),I x.c.step,I x.c.aS,I x.c.bD,I x.c.bE,I x.c.low,I x.c.aY,I x.c.bB,I x.c.aV,I x.c.aO, .vC Aa (x.c.aW.map Aj),I t.length,I t.aQ,I t.aT.x,I t.aT.y,I t.aT.z]=some (FX x mv (Ch x mv a b s aR (t,now)).1 (Ch x mv a b s aR (t,now)).2)):
  UI MV N (Pw p x lo hi mv t now j)=some (0,Pw p x lo hi mv (Fu p x mv lo hi (Dr p.aF.length mv j) (t,now)).1 (Fu p x mv lo hi (Dr p.aF.length mv j) (t,now)).2 (j+1)):=by
 have T:=hp.ok;have a2:=T.count;have M:=Xc mv hj;have G:(mv=1/\Dr p.aF.length mv j=j)\/(mv= -1/\Dr p.aF.length mv j=p.aF.length-1-j):=by
  unfold Dr;rcases hv with rfl|rfl
  ·exact .inl ⟨rfl,aa⟩
  ·exact .inr ⟨rfl,ab⟩
 obtain⟨i,a1⟩:∃i,Dr p.aF.length mv j=i:=⟨_,rfl⟩;rw[a1]at M G⊢;have L:i<p.aF.length:=M;have hg:=T.seg _ (Gp L);have hr:=JO L;have hb:=Z5z (l:=p.aF) L;have a3:=Un T i (by omega);have U:=NL L;have X:(0:Int)<=(i:Nat)/\(i:Int)<(p.aF.length:Int):=by omega
 have O:(j:Int)<(p.aF.length:Int):=by omega
 have e1:V ((j:Int)+1)=((j+1:Nat):Int):=by rw[Ad];omega
 have hI:V (V ((p.aF.length:Int)-1)-(j:Int))=((p.aF.length-1-j:Nat):Int):=by rw[Ad (x:=(p.aF.length:Int)-1),Ad];omega
 have hw:V (AD p.aF i+(sgA p.aF i).len)=AD p.aF (i+1):=by rw[U,Ad]
 have Y:max (AD p.aF i) lo<min (AD p.aF (i+1)) hi->V (min (AD p.aF (i+1)) hi-max (AD p.aF i) lo)=min (AD p.aF (i+1)) hi-max (AD p.aF i) lo:=λ_=>Ad;have hd:max (AD p.aF i) lo<min (AD p.aF (i+1)) hi->0<=min (AD p.aF (i+1)) hi-max (AD p.aF i) lo/\min (AD p.aF (i+1)) hi-max (AD p.aF i) lo<=268435456:=λ_=>by omega
 have a0:i≠0->V ((i:Int)-1)=((i-1:Nat):Int)/\((0:Int)<=((i-1:Nat):Int)/\((i-1:Nat):Int)<(p.aF.length:Int))/\nth [] (p.aF.map AB) (i-1)=AB (sgA p.aF (i-1))/\Ez p.aQ p.aF i=(sgA p.aF (i-1)).to:=by
  intro h0;refine⟨by rw[Ad];omega,by omega,JO (by omega),?_⟩;obtain⟨q,rfl⟩:∃q,i=q+1:=⟨i-1,by omega⟩;exact TL (by omega)
 unfold Fu;rw[Q6x];rcases G with⟨rfl,rfl⟩|⟨rfl,ei⟩
 ·simp only[go_sem,ac,SA,af,hr,hb,ab X,ab O,Of,Kb,hw,e1];rw[aa];by_cases c:max (AD p.aF i) lo<min (AD p.aF (i+1)) hi
  ·rw[aa,ab c,Y c];by_cases c0:i=0
   ·rw[aa];have D:=hV (a:=p.aQ) (b:=(sgA p.aF i).to) (s:=max (AD p.aF i) lo) (hd c);subst c0;rw[JQ];rw[aa,D];simp only[FX,go_sem];rfl
   ·obtain⟨k1,k2,k3,k4⟩:=a0 c0;rw[ab,k1];have D:=hV (a:=(sgA p.aF (i-1)).to) (b:=(sgA p.aF i).to) (s:=max (AD p.aF i) lo) (hd c);rw[k4];simp only[af,k3,go_sem,ab k2];rw[aa,D];simp only[FX,go_sem];rfl
  ·rw[ab,aa c]
 ·rw[<-ei]at hI;simp only[go_sem,ac,SA,hI,af,hr,hb,ab X,ab O,Of,Kb,hw,e1];rw[ab];by_cases c:max (AD p.aF i) lo<min (AD p.aF (i+1)) hi
  ·rw[aa,ab c,Y c];by_cases c0:i=0
   ·rw[aa];have D:=hV (a:=p.aQ) (b:=(sgA p.aF i).to) (s:=min (AD p.aF (i+1)) hi) (hd c);subst c0;rw[JQ];rw[ab,D];simp only[FX,go_sem];rfl
   ·obtain⟨k1,k2,k3,k4⟩:=a0 c0;rw[ab,k1];have D:=hV (a:=(sgA p.aF (i-1)).to) (b:=(sgA p.aF i).to) (s:=min (AD p.aF (i+1)) hi) (hd c);rw[k4];simp only[af,k3,go_sem,ab k2];rw[ab,D];simp only[FX,go_sem];rfl
  ·rw[ab,aa c]
def pcA (l:List Pce) (i:Nat):Pce:=l.getD i pc0
def eI (l:List Pce) (i:Nat):Int:=(pcA l i).at_+(pcA l i).aR
def fI:List Pce->Int->Nat
 |[],_=>0
 |c::l,u=>if u<=c.at_+c.aR then 0 else fI l u+1
theorem GQ (c:Pce) (l:List Pce) (i:Nat):pcA (c::l) (i+1)=pcA l i:=by unfold pcA;simp
theorem IS (c:Pce) (l:List Pce):pcA (c::l) 0=c:=by unfold pcA;simp
theorem Tz {l:List Pce} (h:i<l.length):nth [] (l.map A8) i=A8 (pcA l i):=by
 have e:pcA l i=l[i]:=by unfold pcA;simp[h]
 rw[e];exact GO _ _ _ _ h
theorem Uc:∀{l:List Pce} {u:Int} {j:Nat},j<l.length->u<=eI l j->fI l u<=j
 |c::l,u,0,_,h=>by
  unfold eI at h;rw[IS]at h;unfold fI;rw[ab h];exact cm _
 |c::l,u,j+1,G,h=>by
  unfold fI;by_cases D:u<=c.at_+c.aR
  ·rw[ab D];omega
  ·rw[aa D];have:fI l u<=j:=Uc (by simpa using G) (by unfold eI at h⊢;rw[GQ]at h;exact h);omega
theorem Q2m:∀{l:List Pce} {u:Int},fI l u<l.length->u<=eI l (fI l u)
 |[],_,h=>by simp at h
 |c::l,u,h=>by
  unfold fI at h⊢;by_cases D:u<=c.at_+c.aR
  ·rw[ab D];unfold eI;rw[IS];exact D
  ·rw[aa D]at h⊢;have:=Q2m (l:=l) (u:=u) (by simpa using h);unfold eI at this⊢;rw[GQ];exact this
structure TQ (t : Trk) : Prop where
 count:t.aE.length<=10000000
 len:0<=t.length/\t.length<=900000000000000
 pos:∀i,i<t.aE.length->0<=(pcA t.aE i).at_/\1<=(pcA t.aE i).aR/\eI t.aE i<=t.length
 mono:∀i j,i<=j->j<t.aE.length->eI t.aE i<=eI t.aE j
 last:t.aE≠[]->eI t.aE (t.aE.length-1)=t.length
 aQ:0<=t.aQ/\t.aQ<=263886834032640
 s:∀i,i<t.aE.length-> -900000000000000<=(pcA t.aE i).s/\(pcA t.aE i).s<=2000000000000000
 bC:∀i,i<t.aE.length->(pcA t.aE i).bC=0\/(pcA t.aE i).bC=1\/(pcA t.aE i).bC= -1
def clT (t:Trk) (u:Int):Int:=Bb u t.length
theorem OB (h:TQ t) (u:Int):0<=clT t u/\clT t u<=t.length:=by have:=h.len;unfold clT Bb;omega
def iT (t:Trk) (u:Int):Nat:=fI t.aE (clT t u)
theorem KM (h:TQ t) (u:Int) (D:t.aE≠[]):iT t u<t.aE.length:=by
 have I:0<t.aE.length:=by
  cases G:t.aE with
  |nil=>exact absurd G D
  |cons _ _=>simp
 have:=Uc (l:=t.aE) (u:=clT t u) (j:=t.aE.length-1) (by omega) (by rw[h.last D];exact(OB h u).2);unfold iT;omega
def AV (t:Trk) (u:Int):Int:=if t.aE=[]then t.aQ else(pcA t.aE (iT t u)).s+(pcA t.aE (iT t u)).bC*(clT t u-(pcA t.aE (iT t u)).at_)
def Zck (t:Trk) (u:Int):Prop:=t.aE≠[]/\(pcA t.aE (iT t u)).bC=0/\(pcA t.aE (iT t u)).at_<clT t u/\clT t u<eI t.aE (iT t u)
theorem Zw {t:Trk} (h:TQ t) {u:Int} (D:fI t.aE u<t.aE.length):∀(k lo D:Nat),D-lo<=k->lo<=fI t.aE u->fI t.aE u<=D->D<t.aE.length->
  Am Sw [I u,I lo,I D, .vC Au (t.aE.map A8),I t.length,I t.aQ,I t.aT.x,I t.aT.y,I t.aT.z]=some (1,[I (fI t.aE u)])
 |k,lo,D,hk,U,X,Y=>by
  have T:=h.count;have hl:=h.len;by_cases c:lo<D
  ·have em:V ((V ((lo:Int)+D)).tdiv 2)=(((lo+D)/2:Nat):Int):=by
    rw[Ad (x:=(lo:Int)+D),bm (by omega),Ad];omega
   have a0:lo<=(lo+D)/2/\(lo+D)/2<D:=by omega
   generalize(lo+D)/2=m at*;have G:m<t.aE.length:=by omega
   have M:=h.pos m G;have O:(0:Int)<=(m:Int)/\(m:Int)<(t.aE.length:Int):=by omega
   have hw:V ((pcA t.aE m).at_+(pcA t.aE m).aR)=eI t.aE m:=by unfold eI at M⊢;exact Ad
   have L:Sw [I u,I lo,I D, .vC Au (t.aE.map A8),I t.length,I t.aQ,I t.aT.x,I t.aT.y,I t.aT.z]=if u<=eI t.aE m then some (0,[I u,I lo,I m, .vC Au (t.aE.map A8),I t.length,I t.aQ,I t.aT.x,I t.aT.y,I t.aT.z])else some (0,[I u,I (m+1:Nat),I D, .vC Au (t.aE.map A8),I t.length,I t.aQ,I t.aT.x,I t.aT.y,I t.aT.z]):=by
    rw[Qcu,em];simp only[go_sem,ac,af,Tz G,ab O,hw,Ad (x:=(m:Int)+1)];rw[ab];rfl
   by_cases N:u<=eI t.aE m
   ·rw[ab N]at L;rw[BB L];cases k with
    |zero=>omega
    |succ k=>exact Zw h (by omega) k lo m (by omega) U (Uc G N) G
   ·rw[aa N]at L;rw[BB L];have a1:m<fI t.aE u:=by
     by_cases c3:fI t.aE u<=m
     ·exact absurd (dw (Q2m (by omega)) (h.mono _ _ c3 G)) N
     ·omega
    cases k with
    |zero=>omega
    |succ k=>exact Zw h (by omega) k (m+1) D (by omega) (by omega) X Y
  ·refine Bn (o:=(1,_)) ?_ (by simp);rw[Qcu,Bc (by omega),show fI t.aE u=D by omega]
theorem Qwq (h:TQ t) (u:Int):I2 (Bw t++[I (clT t u)])=some [I (if t.aE=[]then-1 else(iT t u:Int))]:=by
 have he:=Z8i Mq (t.aE.map A8) t.length t.aQ t.aT.x t.aT.y t.aT.z (clT t u);unfold I2;refine dp he ?_;rw[ac];have L:=h.count;by_cases c:t.aE=[]
 ·have D:Mq [I (clT t u),I 0,I (-1), .vC Au (t.aE.map A8),I t.length,I t.aQ,I t.aT.x,I t.aT.y,I t.aT.z]=some (1,[I (-1)]):=by
   refine Bn (o:=(1,_)) ?_ (by simp);rw[Qcu,Bc (by omega)]
  have e1:V ((t.aE.length:Int)-1)= -1:=by rw[c];rfl
  rw[ab c,e1];generalize Mq=N at*;simp only[D,go_sem]
 ·have T:0<t.aE.length:=by
   cases O:t.aE with
   |nil=>exact absurd O c
   |cons _ _=>simp
  have M:=KM h u c;have D:=Zw h (u:=clT t u) M t.aE.length 0 (t.aE.length-1) (by omega) (by omega) (by unfold iT at M;omega) (by omega);have G:Mq [I (clT t u),I 0,I (t.aE.length-1:Nat), .vC Au (t.aE.map A8),I t.length,I t.aQ,I t.aT.x,I t.aT.y,I t.aT.z]=some (1,[I (iT t u:Int)]):=D;have e1:V ((t.aE.length:Int)-1)=((t.aE.length-1:Nat):Int):=by rw[Ad];omega
  rw[aa c,e1];generalize Mq=N at*;simp only[G,go_sem]
theorem Ztd (h:TQ t) (u:Int) (D:t.aE≠[]):
  V ((pcA t.aE (iT t u)).s+V ((pcA t.aE (iT t u)).bC*V (clT t u-(pcA t.aE (iT t u)).at_)))=AV t u:=by
 have I:=KM h u D;have L:=h.pos _ I;have M:=h.s _ I;have G:=h.bC _ I;have N:=OB h u;have O:=h.len;unfold AV eI at*;rw[aa D,Ad (x:=clT t u-_)];generalize pcA t.aE (iT t u)=c at*;have hb:(-900000000000000<=c.bC*(clT t u-c.at_)/\c.bC*(clT t u-c.at_)<=900000000000000):=by
  rcases G with G|G|G<;>rw[G]<;>omega
 rw[Ad (x:=c.bC*_),Ad]
theorem Zdu (h:TQ t) {u:Int} (L:Z [I u,I t.length]=some [I (clT t u)]) (D:M (Bw t++[I (clT t u)])=some [I (if t.aE=[]then-1 else(iT t u:Int))]):Qko M Z (Bw t++[I u])=some [I (AV t u)]:=by
 have he:=Zrl M Z (t.aE.map A8) t.length t.aQ t.aT.x t.aT.y t.aT.z u;refine dp he ?_;simp only[Bw,az,bf]at D;by_cases c:t.aE=[]
 ·rw[ab c]at D;simp only[L,D,go_sem];rw[ab];unfold AV;rw[ab c]
 ·have O:=KM h u c;have N:=h.count;have G:(0:Int)<=(iT t u:Int)/\(iT t u:Int)<(t.aE.length:Int):=by omega
  rw[aa c]at D;simp only[L,D,go_sem,ac,ab G,af,Tz O,Ztd h u c];rw[aa]
theorem Rv (h:TQ t) (u:Int):EM (Bw t++[I u])=some [I (AV t u)]:=Zdu h Vr (Qwq h u)
def HW (sp:Int) (l:List Int):Prop:=(∀v∈l,-4096<=v/\v<=4096)/\∀i,i+1<l.length-> -sp<=4*(l.getD (i+1) 0-l.getD i 0)/\4*(l.getD (i+1) 0-l.getD i 0)<=sp
structure AxOK (a : Axs) : Prop where
 step:4<=a.step/\a.step<=64
 bB:0<=a.bB/\a.bB<=6
 aV: -200<=a.aV/\a.aV<=200
 aO:a.aW≠[]->4<=a.aO/\a.aO<=123
 aW:HW a.aO a.aW
 count:a.aW.length<=4
 lim:1<=a.aS/\a.aS<=1000/\2<=a.bD/\a.bD<=1000/\4<=a.bE/\a.bE<=1000/\a.low= -16777216/\a.aY=16777216
theorem Sa {l m:List Int} (h:i<l.length):(l++m).getD i 0=l.getD i 0:=by simp[fe,ij h]
theorem Zmw (l m:List Int) (v:Int):(l++v::m).getD l.length 0=v:=by simp[fe]
theorem Zw3 {sp v w:Int} {l:List Int} (h:HW sp (l++[v])) (G: -4096<=w/\w<=4096) (I: -sp<=4*(w-v)/\4*(w-v)<=sp):HW sp (l++[v]++[w]):=by
 refine⟨?_,?_⟩
 ·intro x D;rcases be.1 D with D|D
  ·exact h.1 x D
  ·rw[de]at D;subst D;exact G
 ·intro i L;simp only[aq,bp,dg]at L;by_cases c:i+1<(l++[v]).length
  ·have:=h.2 i c;have c':i<(l++[v]).length:=by omega
   rw[Sa c,Sa c'];exact this
  ·simp only[aq,bp,dg]at c;have e:i=l.length:=by omega
   subst e;have g1:(l++[v]++[w]).getD (l.length+1) 0=w:=by
    simp
   have g2:(l++[v]++[w]).getD l.length 0=v:=by
    rw[df];exact Zmw l ([]++[w]) v
   rw[g1,g2];exact I
theorem Zyx {l:List Int} (h:HW a (l++[v])):HW a l:=by
 refine⟨λx D=>h.1 x (by simp[D]),λi G=> ?_⟩;have:=h.2 i (by simp;omega);rw[Sa G,Sa (by omega)]at this;exact this
theorem Zpd (G: -4096<=v/\v<=4096):HW a ([]++[v]):=⟨λx D=>by simp at D;subst D;exact G,λi I=>by simp at I⟩
theorem Z2k (h:0<=v/\v<6):∃x,Ag (nth .vD (nth [] [[I 8],[I 4],[I 5],[I 16],[I 23],[I 64]] v.toNat) 0)=x/\4<=x/\x<=64:=by
 have D:v=0\/v=1\/v=2\/v=3\/v=4\/v=5:=by omega
 rcases D with rfl|rfl|rfl|rfl|rfl|rfl<;>exact⟨_,rfl,by decide⟩
theorem Qk8 (h:0<=v/\v<5):∃x y z,Ag (nth .vD (nth [] [[I 40],[I 1],[I 3],[I 9],[I 1000]] v.toNat) 0)=x/\Ag (nth .vD (nth [] [[I 20],[I 2],[I 3],[I 5],[I 1000]] v.toNat) 0)=y/\Ag (nth .vD (nth [] [[I 30],[I 4],[I 5],[I 8],[I 1000]] v.toNat) 0)=z/\1<=x/\x<=1000/\2<=y/\y<=1000/\4<=z/\z<=1000:=by
 have D:v=0\/v=1\/v=2\/v=3\/v=4:=by omega
 rcases D with rfl|rfl|rfl|rfl|rfl<;>exact⟨_,_,_,rfl,rfl,rfl,by decide⟩
theorem Zuc (h:0<=v/\v<4):∃x,Ag (nth .vD (nth [] [[I 0],[I 1],[I 3],[I 6]] v.toNat) 0)=x/\0<=x/\x<=6:=by
 have D:v=0\/v=1\/v=2\/v=3:=by omega
 rcases D with rfl|rfl|rfl|rfl<;>exact⟨_,rfl,by decide⟩
abbrev axS (l:Rw) (D:List Int) (n v:Int) (j:Nat) (a:Axs) (k:Nat):List AC:=
 [.vC Aa [], .vC Aa (D.map Aj),I n,I v,I j,I 0,I 0,I 0,I 0,I 0,I 0,I 0,I 0,I 0,I a.step,I a.aS,I a.bD,I a.bE,I a.low,I a.aY,I a.bB,I a.aV,I a.aO, .vC Aa l,I k]
theorem Zbb {MN:Fn} {l:Rw} (N:I3 l MN) {a:Axs} (L:4<=a.aO/\a.aO<=123):∀(r j:Nat) (D:List Int) (v:Int) (k:Nat),j+r<=4->D.length=j->HW a.aO (D++[v])->
  ∃(G:List Int) (k':Nat),Am (RS MN) (axS l D (j+r:Nat) v j a k)=some (1,[.vC Aa [], .vC Aa (G.map Aj),I 0,I 0,I 0,I 0,I 0,I 0,I 0,I 0,I 0,I a.step,I a.aS,I a.bD,I a.bE,I a.low,I a.aY,I a.bB,I a.aV,I a.aO, .vC Aa l,I k'])/\G.length=j+r/\HW a.aO G
 |0,j,D,v,k,_,O,h=>by
  refine⟨D,k,Bn (o:=(1,_)) ?_ (by simp),by omega,Zyx h⟩;rw[Q5j,Bc (by omega)]
 |r+1,j,D,v,k,hj,O,h=>by
  have hv:=h.1 v (by simp);have U:V (a.aO.tdiv 4)=a.aO/4:=by rw[bm (by omega),Ad]
  have X:V (V (2*(a.aO/4))+1)=2*(a.aO/4)+1:=by rw[Ad (x:=2*(a.aO/4)),Ad]
  obtain⟨w,T,Y,w0,w1,-⟩:=N k (n:=2*(a.aO/4)+1) (by omega);have e6:V (V (v+w)-a.aO/4)=v+w-a.aO/4:=by rw[Ad (x:=v+w),Ad]
  have hle:(D.map Aj++[[I v]]).length*8<=140737488355328:=by rw[aq,ac];simp only[bp,dg];omega
  have M:RS MN (axS l D (j+(r+1):Nat) v j a k)=some (0,axS l (D++[v]) (j+1+r:Nat) (min (max (v+w-a.aO/4) (-4096)) 4096) (j+1) a T):=by
   rw[Q5j];simp only[go_sem,ab hle,U,X,Y,e6,Kb,Of];rw[ab,Ad (x:=(j:Int)+1),show j+(r+1)=j+1+r by omega];simp only[axS,bt,bj,dx,Aj,gi,i7]
  rw[BB M];obtain⟨p',k',h1,h2,h3⟩:=Zbb N L r (j+1) (D++[v]) (min (max (v+w-a.aO/4) (-4096)) 4096) T (by omega) (by simp[O]) (Zw3 h (by omega) (by omega));exact⟨p',k',h1,by omega,h3⟩
theorem Zjy (G:I3 l M)
  (hL:∀{a:Axs} {n:Nat} {v:Int} {k:Nat},(4<=a.aO/\a.aO<=123)->n<=4->HW a.aO ([]++[v])->∃(D:List Int) (k':Nat),N (axS l [] n v 0 a k)=some (1,[.vC Aa [], .vC Aa (D.map Aj),I 0,I 0,I 0,I 0,I 0,I 0,I 0,I 0,I 0,I a.step,I a.aS,I a.bD,I a.bE,I a.low,I a.aY,I a.bB,I a.aV,I a.aO, .vC Aa l,I k'])/\D.length=n/\HW a.aO D) (k:Nat):
  ∃(a:Axs) (k':Nat),VC M N [.vC Aa l,I k]=some (Bs a++[.vC Aa l,I k'])/\AxOK a:=by
 obtain⟨v1,k1,h1,a1,b1,-⟩:=G k (n:=6) (by omega);obtain⟨v2,k2,h2,a2,b2,-⟩:=G k1 (n:=4) (by omega);obtain⟨v3,k3,h3,a3,b3,-⟩:=G k2 (n:=5) (by omega);obtain⟨v4,k4,h4,a4,b4,-⟩:=G k3 (n:=5) (by omega);obtain⟨v5,k5,h5,a5,b5,-⟩:=G k4 (n:=5) (by omega);obtain⟨L,k6,h6,a6,b6,-⟩:=G k5 (n:=5) (by omega);obtain⟨v7,k7,h7,a7,b7,-⟩:=G k6 (n:=400) (by omega);obtain⟨v8,k8,h8,a8,b8,-⟩:=G k7 (n:=120) (by omega);obtain⟨v9,k9,h9,a9,b9,-⟩:=G k8 (n:=9) (by omega);obtain⟨O,e1,s1⟩:=Z2k ⟨a1,b1⟩;obtain⟨T,e2,s2⟩:=Zuc ⟨a2,b2⟩;have i1:(0:Int)<=v1/\v1<(([[I 8],[I 4],[I 5],[I 16],[I 23],[I 64]]:Rw).length:Int):=⟨a1,by simp;omega⟩;have i2:(0:Int)<=v2/\v2<(([[I 0],[I 1],[I 3],[I 6]]:Rw).length:Int):=⟨a2,by simp;omega⟩;have i3:(0:Int)<=v3/\v3<(([[I 40],[I 1],[I 3],[I 9],[I 1000]]:Rw).length:Int):=⟨a3,by simp;omega⟩;have i4:(0:Int)<=v4/\v4<(([[I 20],[I 2],[I 3],[I 5],[I 1000]]:Rw).length:Int):=⟨a4,by simp;omega⟩;have i5:(0:Int)<=v5/\v5<(([[I 30],[I 4],[I 5],[I 8],[I 1000]]:Rw).length:Int):=⟨a5,by simp;omega⟩;obtain⟨U,_,_,a0,-,-,s3,t3,-⟩:=Qk8 ⟨a3,b3⟩;obtain⟨_,V,_,-,b0,-,-,-,s4,t4,-⟩:=Qk8 ⟨a4,b4⟩;obtain⟨_,_,X,-,-,c0,-,-,-,-,s5,t5⟩:=Qk8 ⟨a5,b5⟩;have main : ∀ R, R = (if L = 0 then some [I O, I U, I V, I X, I (-16777216), I 16777216, I T, I 0, I 0, .vC Aa [], .vC Aa l, I k6] else
   (N (axS l [] L.toNat (v9-4) 0 ⟨O,U,V,X,-16777216,16777216,T,v7-200,4+v8,[]⟩ k9)).bind λo=>if o.1=1 then some [I (Ag (nth .vD o.2 11)),I (Ag (nth .vD o.2 12)),I (Ag (nth .vD o.2 13)),I (Ag (nth .vD o.2 14)),I (Ag (nth .vD o.2 15)),I (Ag (nth .vD o.2 16)),I (Ag (nth .vD o.2 17)),I (Ag (nth .vD o.2 18)),I (Ag (nth .vD o.2 19)), .vC Aa (BQ (nth .vD o.2 1)), .vC Aa (BQ (nth .vD o.2 20)),I (Ag (nth .vD o.2 21))]else none)->
   ∃(a:Axs) (k':Nat),R=some (Bs a++[.vC Aa l,I k'])/\AxOK a:=by
  intro R Y;by_cases c:L=0
  ·rw[ab c]at Y;refine⟨⟨O,U,V,X,-16777216,16777216,T,0,0,[]⟩,k6,Y,?_⟩;exact⟨s1,s2,by simp,λh=>absurd rfl h,⟨by simp,by simp⟩,by simp,⟨s3,t3,s4,t4,s5,t5,rfl,rfl⟩⟩
  ·rw[aa c]at Y;obtain⟨c1,k',g1,g2,g3⟩:=hL (a:=⟨O,U,V,X,-16777216,16777216,T,v7-200,4+v8,[]⟩) (n:=L.toNat) (v:=v9-4) (k:=k9) (by simp only;omega) (by omega) (Zpd (by omega));rw[g1]at Y;refine⟨⟨O,U,V,X,-16777216,16777216,T,v7-200,4+v8,c1⟩,k',?_,?_⟩
   ·rw[Y];simp only[go_sem];try rfl
   ·exact⟨s1,s2,by simp only;omega,λ_=>by simp only;omega,g3,by simp only;omega,⟨s3,t3,s4,t4,s5,t5,rfl,rfl⟩⟩
 refine main _ ?_;rw[Ze4];simp only[go_sem,h1,h2,h3,h4,h5,h6,ab i1,ab i2,ab i3,ab i4,ab i5,e1,e2,a0,b0,c0];by_cases c:L=0
 ·rw[ab c,ab c]
 ·rw[aa c,aa c];simp only[h7,h8,h9,go_sem,Ad (x:=v9-4),Ad (x:=v7-200),Ad (x:=4+v8)];have e:((L.toNat:Nat):Int)=L:=by omega
  simp only[axS,e,dx];rfl
theorem Qo4 (D:Src l) (k:Nat):∃(a:Axs) (k':Nat),Nk [.vC Aa l,I k]=some (Bs a++[.vC Aa l,I k'])/\AxOK a:=by
 refine Zjy (N:=Qni) (JG D) (fun{a n v k} M U O=> ?_) k;obtain⟨p,k',G,L,T⟩:=Zbb (MN:=Da) (JG D) M n 0 [] v k (by omega) rfl O;rw[fg]at G L;exact⟨p,k',G,L,T⟩
structure Ax3M (x : Ax3) : Prop where
 a:AxOK x.a
 b:AxOK x.b
 c:AxOK x.c
theorem Ax3M.ok {x:Ax3} (h:Ax3M x):Ax3OK x:=⟨by have:=h.a.bB;omega,by have:=h.b.bB;omega,by have:=h.c.bB;omega⟩
theorem Zyf (G:Src l):∃x:Ax3,OA [.vC Aa l]=some (AG x)/\Ax3M x:=by
 obtain⟨a,L,O,g1⟩:=Qo4 G 0;obtain⟨b,T,M,g2⟩:=Qo4 G L;obtain⟨c,X,N,U⟩:=Qo4 G T;refine⟨⟨a,b,c⟩,?_,g1,g2,U⟩;have hf:=SS l;unfold OA;generalize Nk=V at*;generalize DS=Y at*;rw[Z8m];have D:V [.vC Aa l,I 0]=some (Bs a++[.vC Aa l,I L]):=O;simp only[Bs,az,bf]at D M N;simp only[go_sem,hf,D,M,N]
theorem Zz3 {x:Ax3} {mv lo hi f:Int} (j:Nat):(BS p x mv lo hi (⟨[],0,f,d⟩,d) j).1.aQ=f/\(BS p x mv lo hi (⟨[],0,f,d⟩,d) j).1.aT=d:=by
 induction j with
 |zero=>exact⟨rfl,rfl⟩
 |succ j D=>rw[BS,(Q68 _).1,(Q68 _).2];exact D
theorem Q9l {p:Pth} {x:Ax3} {lo D mv f:Int} {d:Pt} (M:mv=1\/mv= -1) (G:GoodPath p) (I:Ax3OK x):∀(k j:Nat),j+k=p.aF.length->∀w,w=BS p x mv lo D (⟨[],0,f,d⟩,d) j->
  Am (UI FM OJ) (Pw p x lo D mv w.1 w.2 j)=some (1,FX x mv (BS p x mv lo D (⟨[],0,f,d⟩,d) p.aF.length).1 (BS p x mv lo D (⟨[],0,f,d⟩,d) p.aF.length).2)
 |0,j,V,w,L=>by
  have O:j=p.aF.length:=by omega
  refine Bn (o:=(1,_)) ?_ (by simp);rw[Q6x,Bc (by omega),L,O]
 |k+1,j,V,w,L=>by
  have U:=G.count;have hb:=Yj (mv:=mv) (lo:=lo) (hi:=D) (f:=f) (d:=d) I G.ok j (by omega);rw[<-L]at hb;have T:=Zyc (MV:=FM) (N:=OJ) (lo:=lo) (hi:=D) (now:=w.2) (j:=j) M G I hb (by omega) (by omega) (by omega) (fun{a b s aR} X=>Zui M I hb (by omega) (by omega) (k:=268435456) (by omega) X);rw[BB T];exact Q9l M G I k (j+1) (by omega) _ (by rw[BS,<-L])
theorem Zcv {MV:Fn} {N4 N10:Lp} {x:Ax3} {lo D mv f:Int}
  (L:N4 (QP p x lo D mv ⟨[],0,f,d⟩ d 0 [] 0)=some (1,[.vC Aa (Fp p.aF p.aF.length), .vC Au [],I lo,I D,I mv,I p.aQ.x,I p.aQ.y,I p.aQ.z, .vC Ah (p.aF.map AB), .vC AL (p.aD.map Av),I d.x,I d.y,I d.z,I mv,I x.a.step,I x.a.aS,I x.a.bD,I x.a.bE,I x.a.low,I x.a.aY,I x.a.bB,I x.a.aV,I x.a.aO, .vC Aa (x.a.aW.map Aj),I x.b.step,I x.b.aS,I x.b.bD,I x.b.bE,I x.b.low,I x.b.aY,I x.b.bB,I x.b.aV,I x.b.aO, .vC Aa (x.b.aW.map Aj),I x.c.step,I x.c.aS,I x.c.bD,I x.c.bE,I x.c.low,I x.c.aY,I x.c.bB,I x.c.aV,I x.c.aO, .vC Aa (x.c.aW.map Aj),I 0,I f,I d.x,I d.y,I d.z]))
  (G:N10 (Pw p x lo D mv ⟨[],0,f,d⟩ d 0)=some (1,FX x mv (BS p x mv lo D (⟨[],0,f,d⟩,d) p.aF.length).1 (BS p x mv lo D (⟨[],0,f,d⟩,d) p.aF.length).2)):
  Qck MV N4 N10 [.vC Au [],I p.aQ.x,I p.aQ.y,I p.aQ.z, .vC Ah (p.aF.map AB), .vC AL (p.aD.map Av),I lo,I D,I mv,I d.x,I d.y,I d.z,I mv,I x.a.step,I x.a.aS,I x.a.bD,I x.a.bE,I x.a.low,I x.a.aY,I x.a.bB,I x.a.aV,I x.a.aO, .vC Aa (x.a.aW.map Aj),I x.b.step,I x.b.aS,I x.b.bD,I x.b.bE,I x.b.low,I x.b.aY,I x.b.bB,I x.b.aV,I x.b.aO, .vC Aa (x.b.aW.map Aj),I x.c.step,I x.c.aS,I x.c.bD,I x.c.bE,I x.c.low,I x.c.aY,I x.c.bB,I x.c.aV,I x.c.aO, .vC Aa (x.c.aW.map Aj),I 0,I f,I d.x,I d.y,I d.z]=some (FX x mv (BS p x mv lo D (⟨[],0,f,d⟩,d) p.aF.length).1 (BS p x mv lo D (⟨[],0,f,d⟩,d) p.aF.length).2):=by
 rw[Zpu];simp only[QP,dx,i7]at L;simp only[Pw,FX,dx,i7]at G;simp only[go_sem,ac,L,G]
theorem Zdt {x:Ax3} {lo D mv f:Int} (L:mv=1\/mv= -1) (G:GoodPath p) (N:Ax3OK x):
  PJ [.vC Au [],I p.aQ.x,I p.aQ.y,I p.aQ.z, .vC Ah (p.aF.map AB), .vC AL (p.aD.map Av),I lo,I D,I mv,I d.x,I d.y,I d.z,I mv,I x.a.step,I x.a.aS,I x.a.bD,I x.a.bE,I x.a.low,I x.a.aY,I x.a.bB,I x.a.aV,I x.a.aO, .vC Aa (x.a.aW.map Aj),I x.b.step,I x.b.aS,I x.b.bD,I x.b.bE,I x.b.low,I x.b.aY,I x.b.bB,I x.b.aV,I x.b.aO, .vC Aa (x.b.aW.map Aj),I x.c.step,I x.c.aS,I x.c.bD,I x.c.bE,I x.c.low,I x.c.aY,I x.c.bB,I x.c.aV,I x.c.aO, .vC Aa (x.c.aW.map Aj),I 0,I f,I d.x,I d.y,I d.z]=some (FX x mv (BS p x mv lo D (⟨[],0,f,d⟩,d) p.aF.length).1 (BS p x mv lo D (⟨[],0,f,d⟩,d) p.aF.length).2):=by
 refine Zcv (MV:=FM) (N4:=OJ) (N10:=Qex) ?_ (Q9l L G N p.aF.length 0 (by omega) _ rfl);have h:=Q1s (M:=FM) (x:=x) (lo:=lo) (hi:=D) (mv:=mv) (t:=⟨[],0,f,d⟩) (now:=d) G.ok p.aF.length 0 (by omega);rw[QB]at h;exact h
theorem Z7y {x:Ax3} (D:P (Bl p)=some [I (As p.aF)]) (L:∀n h:Int,T [I n,I h]=some [I (Bb n h)])
  (G:∀{lo hi mv f:Int},(mv=1\/mv= -1)->M [.vC Au [],I p.aQ.x,I p.aQ.y,I p.aQ.z, .vC Ah (p.aF.map AB), .vC AL (p.aD.map Av),I lo,I hi,I mv,I d.x,I d.y,I d.z,I mv,I x.a.step,I x.a.aS,I x.a.bD,I x.a.bE,I x.a.low,I x.a.aY,I x.a.bB,I x.a.aV,I x.a.aO, .vC Aa (x.a.aW.map Aj),I x.b.step,I x.b.aS,I x.b.bD,I x.b.bE,I x.b.low,I x.b.aY,I x.b.bB,I x.b.aV,I x.b.aO, .vC Aa (x.b.aW.map Aj),I x.c.step,I x.c.aS,I x.c.bD,I x.c.bE,I x.c.low,I x.c.aY,I x.c.bB,I x.c.aV,I x.c.aO, .vC Aa (x.c.aW.map Aj),I 0,I f,I d.x,I d.y,I d.z]=some (FX x mv (BS p x mv lo hi (⟨[],0,f,d⟩,d) p.aF.length).1 (BS p x mv lo hi (⟨[],0,f,d⟩,d) p.aF.length).2)):
  Qfc M Z W T P (Bl p++AG x++[I d.x,I d.y,I d.z,I a,I k])=some (Bw (Bz p x d a k)):=by
 have he:=Zgm M Z W T P p.aQ.x p.aQ.y p.aQ.z (p.aF.map AB) (p.aD.map Av) x.a.step x.a.aS x.a.bD x.a.bE x.a.low x.a.aY x.a.bB x.a.aV x.a.aO (x.a.aW.map Aj) x.b.step x.b.aS x.b.bD x.b.bE x.b.low x.b.aY x.b.bB x.b.aV x.b.aO (x.b.aW.map Aj) x.c.step x.c.aS x.c.bD x.c.bE x.c.low x.c.aY x.c.bB x.c.aV x.c.aO (x.c.aW.map Aj) d.x d.y d.z a k;refine dp he ?_;unfold Bz;simp only[Bl]at D;simp only[D,L,go_sem,Kb,Of];generalize Bb a (As p.aF)=f at*;generalize Bb k (As p.aF)=t at*;by_cases c:t<f
 ·have h:=G (lo:=min f t) (hi:=max f t) (mv:= -1) (f:=f) (.inr rfl);simp only[FX]at h;simp only[h,go_sem,c,fo]
 ·have h:=G (lo:=min f t) (hi:=max f t) (mv:=1) (f:=f) (.inl rfl);simp only[FX]at h;simp only[h,go_sem,c,iy]
theorem Q6v {x:Ax3} {from_ to:Int} (D:GoodPath p) (G:Ax3OK x):JK (Bl p++AG x++[I d.x,I d.y,I d.z,I from_,I to])=some (Bw (Bz p x d from_ to)):=
 Z7y (Qjz D.ok) (λ_ _=>Vr) λL=>Zdt L D G
theorem Yag {x:Ax3} (d:Pt) (a b:Int) (D:GoodPath p) (G:Ax3OK x):(Bz p x d a b).aE.length<=10000000/\0<=(Bz p x d a b).length/\(Bz p x d a b).length<=900000000000000:=by
 have I:=D.count;have h:=Yj (mv:=if Bb a (As p.aF)>Bb b (As p.aF)then-1 else 1) (lo:=min (Bb a (As p.aF)) (Bb b (As p.aF))) (hi:=max (Bb a (As p.aF)) (Bb b (As p.aF))) (f:=Bb a (As p.aF)) (d:=d) G D.ok p.aF.length (cm _);obtain⟨L,M,-⟩:=h;unfold Bz;simp only;refine⟨by omega,by omega,by omega⟩
theorem WF {x:Ax3} {mv:Int} {Q:Int->Pt->Prop}:∀{a s:Int} {d:Pt} {l:List Pce},chain x mv Q a s d l->a<=BJ a l
 |a,_,_,[],_=>cz _
 |a,s,d,c::l,h=>by
  obtain⟨-,-,G,-,D⟩:=h;have:=WF D;unfold BJ;omega
theorem Rf {x:Ax3} {mv:Int} {Q:Int->Pt->Prop} (I:mv=1\/mv= -1):∀{a s:Int} {d:Pt} {l:List Pce},chain x mv Q a s d l->∀i,i<l.length->
  a<=(pcA l i).at_/\1<=(pcA l i).aR/\eI l i<=BJ a l/\(s-((pcA l i).at_-a)<=(pcA l i).s/\(pcA l i).s<=s+((pcA l i).at_-a))/\((pcA l i).bC=0\/(pcA l i).bC=mv)
 |a,s,d,c::l,h,0,_=>by
  obtain⟨N,O,L,D,G⟩:=h;have:=WF G;unfold eI;rw[IS];refine⟨by omega,L,by unfold BJ;omega,by omega,?_⟩;rcases D with D|D
  ·exact .inr D.1
  ·exact .inl D.1
 |a,s,d,c::l,h,i+1,T=>by
  obtain⟨N,O,L,D,G⟩:=h;have M:=Rf I G i (by simpa using T);unfold eI at M⊢;rw[GQ];obtain⟨g1,g2,U,X,V⟩:=M;have Y:c.bC*c.aR=0\/c.bC*c.aR=c.aR\/c.bC*c.aR= -c.aR:=by
   rcases D with D|D
   ·rw[D.1];rcases I with rfl|rfl<;>omega
   ·rw[D.1];omega
  refine⟨by omega,g2,by unfold BJ;exact U,by omega,V⟩
theorem Q0l {x:Ax3} {mv:Int} {Q:Int->Pt->Prop} (L:mv=1\/mv= -1):∀{a s:Int} {d:Pt} {l:List Pce},chain x mv Q a s d l->∀i j,i<=j->j<l.length->eI l i<=eI l j
 |a,s,d,c::l,h,0,0,_,_=>cz _
 |a,s,d,c::l,h,0,j+1,_,D=>by
  obtain⟨M,N,O,T,G⟩:=h;have:=Rf L G j (by simpa using D);unfold eI at*;rw[IS,GQ];omega
 |a,s,d,c::l,h,i+1,0,I,_=>by omega
 |a,s,d,c::l,h,i+1,j+1,I,D=>by
  obtain⟨M,N,O,T,G⟩:=h;have:=Q0l L G i j (by omega) (by simpa using D);unfold eI at*;rw[GQ,GQ];exact this
theorem Qpz {x:Ax3} {mv:Int} {Q:Int->Pt->Prop}:∀{a s:Int} {d:Pt} {l:List Pce},chain x mv Q a s d l->l≠[]->eI l (l.length-1)=BJ a l
 |a,s,d,[c],h,_=>by
  obtain⟨G,-⟩:=h;show eI [c] 0=BJ a [c];unfold eI;rw[IS];simp only[BJ];omega
 |a,s,d,c::e::l,h,_=>by
  obtain⟨-,-,-,-,D⟩:=h;have:=Qpz D (by simp);have e1:(c::e::l).length-1=((e::l).length-1)+1:=by simp
  rw[e1];unfold eI at*;rw[GQ,this];rfl
def mvP (p:Pth) (a b:Int):Int:=if Bb a (As p.aF)>Bb b (As p.aF)then-1 else 1
theorem Q7o (p:Pth) (a b:Int):mvP p a b=1\/mvP p a b= -1:=by unfold mvP;split<;>simp
theorem QR {x:Ax3} (I:Ax3OK x) (D:GoodPath p) (L:Qsf p (mvP p a b) Q):
  ∃M,TC x (mvP p a b) Q (Bz p x d a b) (Bb b (As p.aF)) M/\(Bz p x d a b).aQ=Bb a (As p.aF)/\(Bz p x d a b).aT=d:=by
 have T:=Md D;have U:0<=Bb a (As p.aF)/\Bb a (As p.aF)<=As p.aF:=by unfold Bb;omega
 have hb:0<=Bb b (As p.aF)/\Bb b (As p.aF)<=As p.aF:=by unfold Bb;omega
 have G:=λmv lo N f=>Zz3 (p:=p) (x:=x) (mv:=mv) (lo:=lo) (hi:=N) (f:=f) (d:=d) p.aF.length;unfold Bz mvP at*;simp only;generalize Bb a (As p.aF)=f at*;generalize Bb b (As p.aF)=t at*;have h:=Q58 (p:=p) (x:=x) (mv:=if f>t then-1 else 1) (lo:=min f t) (hi:=max f t) (f:=f) (d:=d) (Q:=Q) (by split<;>simp) I D.ok (by omega) (by split<;>omega) L p.aF.length (cm _);have O:J9 p.aF (if f>t then-1 else 1) (min f t) (max f t) p.aF.length=t:=by
  unfold J9;rw[i8,QB,Qkg];by_cases c:f>t
  ·rw[ab c,ab];omega
  ·rw[aa c,aa];omega
 rw[O]at h;exact⟨_,h,(G _ _ _ _).1,(G _ _ _ _).2⟩
theorem Zyg {x:Ax3} {s:Int} (D:a=1\/a= -1) (h:TC x a Q t s d) (hb:t.aE.length<=10000000/\0<=t.length/\t.length<=900000000000000) (N:0<=t.aQ/\t.aQ<=263886834032640):TQ t:=by
 obtain⟨G,L,-,-⟩:=h;refine⟨hb.1,hb.2,λi I=> ?_,Q0l D G,λM=>by rw[Qpz G M,L],N,λi I=> ?_,λi I=> ?_⟩
 ·have:=Rf D G i I;rw[L]at this;exact⟨this.1,this.2.1,this.2.2.1⟩
 ·have:=Rf D G i I;rw[L]at this;unfold eI at this;omega
 ·have:=(Rf D G i I).2.2.2.2;rcases D with rfl|rfl
  ·rcases this with h|h
   ·exact .inl h
   ·exact .inr (.inl h)
  ·rcases this with h|h
   ·exact .inl h
   ·exact .inr (.inr h)
theorem WK {x:Ax3} (d:Pt) (a b:Int) (G:Ax3OK x) (D:GoodPath p):TQ (Bz p x d a b):=by
 have M:=Md D;obtain⟨N,I,L,-⟩:=QR (d:=d) (a:=a) (b:=b) (Q:=λ_ _=>True) G D (λ_ _ _ _ _ _ _ _=>trivial);exact Zyg (Q7o p a b) I (Yag d a b D G) (by rw[L];unfold Bb;omega)
def A6 (a:Axs) (i:Nat):Int:=a.aW.getD i 0
def Dm (a:Axs) (p:Int):Int:=
 if a.aW=[]then 0
 else if p<=a.aV then A6 a 0
 else if(p-a.aV)/a.aO>=a.aW.length-1 then A6 a (a.aW.length-1)
 else A6 a ((p-a.aV)/a.aO).toNat+AP ((A6 a (((p-a.aV)/a.aO).toNat+1)-A6 a ((p-a.aV)/a.aO).toNat)*(p-a.aV-(p-a.aV)/a.aO*a.aO)) a.aO
def Ct (a:Axs) (p:Int):Int:=AP (p+Dm a p) a.step
def okB (p:Int):Prop:= -1000000000<=p/\p<=1000000000
theorem Qau {l:List Int} (h:l≠[]):0<l.length:=by
 cases l with
 |nil=>exact absurd rfl h
 |cons _ _=>simp
theorem Qd {a:Axs} (h:AxOK a) {i:Nat} (D:i<a.aW.length): -4096<=A6 a i/\A6 a i<=4096:=by
 have e:A6 a i=a.aW[i]:=by unfold A6;simp[D]
 rw[e];exact h.aW.1 _ (ca _)
theorem S_ {a:Axs} (D:i<a.aW.length):nth [] (a.aW.map Aj) i=[I (A6 a i)]:=by
 have e:A6 a i=a.aW[i]:=by unfold A6;simp[D]
 rw[e];exact GO _ _ _ _ D
theorem Q3i {a:Axs} (h:AxOK a) (D:a.aW≠[]) {p:Int} (G: ¬p<=a.aV) (I: ¬(p-a.aV)/a.aO>=a.aW.length-1):
  ∃(i:Nat) (r:Int),((p-a.aV)/a.aO=i)/\i+1<a.aW.length/\0<=r/\r<a.aO/\p-a.aV=i*a.aO+r/\p-a.aV-(p-a.aV)/a.aO*a.aO=r:=by
 have L:=h.aO D;have e0:=Int.mul_ediv_add_emod (p-a.aV) a.aO;have e1:=Int.emod_nonneg (p-a.aV) (show a.aO≠0 by omega);have e2:=j7 (p-a.aV) (show 0<a.aO by omega);have e3:0<=(p-a.aV)/a.aO:=Int.ediv_nonneg (by omega) (by omega);refine⟨((p-a.aV)/a.aO).toNat,(p-a.aV)%a.aO,by omega,by omega,e1,e2,?_,?_⟩
 ·rw[Int.toNat_of_nonneg e3,iv];omega
 ·rw[iv ((p-a.aV)/a.aO)];omega
theorem Q99 {a:Axs} (h:AxOK a) (D:a.aW≠[]) {i:Nat} (I:i+1<a.aW.length) {r:Int} (G:0<=r/\r<=a.aO):
  (-30<=A6 a (i+1)-A6 a i/\A6 a (i+1)-A6 a i<=30)/\(AP ((A6 a (i+1)-A6 a i)*r) a.aO).natAbs<=31:=by
 have M:=h.aO D;have N:=h.aW.2 i I;have L: -30<=A6 a (i+1)-A6 a i/\A6 a (i+1)-A6 a i<=30:=by unfold A6;omega
 refine⟨L,Qdt (by omega) ?_⟩;have m1:(A6 a (i+1)-A6 a i)*r<=31*r:=ax (by omega) G.1;have m2: -31*r<=(A6 a (i+1)-A6 a i)*r:=ax (by omega) G.1;have e:((31:Nat):Int)=31:=rfl;rw[e];omega
theorem Q2d {a:Axs} (h:AxOK a) (p:Int): -5000<=Dm a p/\Dm a p<=5000:=by
 unfold Dm;by_cases c:a.aW=[]
 ·rw[ab c];omega
 ·have I:=Qau c;rw[aa c];by_cases D:p<=a.aV
  ·rw[ab D];have:=Qd h (show 0<a.aW.length from I);omega
  ·rw[aa D];by_cases G:(p-a.aV)/a.aO>=a.aW.length-1
   ·rw[ab G];have:=Qd h (show a.aW.length-1<a.aW.length by omega);omega
   ·rw[aa G];obtain⟨i,r,e1,e2,e3,M,N,L⟩:=Q3i h c D G;rw[L,e1,af];have b1:=Qd h (show i<a.aW.length by omega);have b2:=(Q99 h c e2 (r:=r) (by omega)).2;omega
theorem Zpb {a:Axs} (h:AxOK a) {v:Int} (D:v.natAbs<=1000010000):Kx (Bs a++[I v])=some [I (AP v a.step)]:=by
 have G:=h.step;have he:=Zfc a.step a.aS a.bD a.bE a.low a.aY a.bB a.aV a.aO (a.aW.map Aj) v;unfold Kx;refine dp he ?_;rw[Ad (x:=2*v),Ad (x:=2*v+a.step),Ad (x:=2*a.step)];have L:=Int.tmod_add_mul_tdiv (2*v+a.step) (2*a.step);have M:=Int.tmod_lt_of_pos (2*v+a.step) (show 0<2*a.step by omega);have N:=Int.lt_tmod_of_pos (2*v+a.step) (show 0<2*a.step by omega);have O:((2*v+a.step).tdiv (2*a.step)).natAbs<=(2*v+a.step).natAbs:=by rw[Int.natAbs_tdiv];exact ip _ _
 generalize(2*v+a.step).tdiv (2*a.step)=q at*;generalize(2*v+a.step).tmod (2*a.step)=r at*;have e1:2*a.step*q=q*(2*a.step):=iv _ _;rw[Bc (by omega),Bc (by omega),Bc (by omega),Bc (by omega),Ad (x:=q)];by_cases h:r<0
 ·rw[Ea h,Ad,FH (k:=q-1) (by omega)]
  ·rw[kg];omega
  ·rw[Int.sub_add_cancel];omega
 ·rw[Bc h,FH (k:=q) (by omega)]
  ·omega
  ·rw[d7];omega
theorem Zps {a:Axs} (h:AxOK a) {p:Int} (T:okB p):JX (Bs a++[I p])=some [I (Dm a p)]:=by
 unfold okB at T;have ho:=h.aV;have hc:=h.count;have he:=Zx9 CO a.step a.aS a.bD a.bE a.low a.aY a.bB a.aV a.aO (a.aW.map Aj) p;unfold JX;have U:=fun{x y:Int} (hx:x.natAbs<=30) (hy:y.natAbs<=123) (O:4<=a.aO/\a.aO<=123)=>Q6m (a:=x) (b:=y) (c:=a.aO) (by omega) (by omega) (by omega);generalize CO=M at*;refine dp he ?_;unfold Dm;rw[ac];by_cases c:a.aW=[]
 ·rw[ab c,c];rfl
 ·have X:=Qau c;have O:=h.aO c;have e1:V ((a.aW.length:Int)-1)=((a.aW.length-1:Nat):Int):=by rw[Ad];omega
  have e2:V (p-a.aV)=p-a.aV:=Ad;rw[aa c,e2,e1];by_cases L:p<=a.aV
  ·rw[ab L];simp only[go_sem,S_ X];rw[aa,ab,ab]
  ·have e3:V ((p-a.aV).tdiv a.aO)=(p-a.aV)/a.aO:=by
    rw[bm (by omega)];have:=Int.ediv_nonneg (show 0<=p-a.aV by omega) (show 0<=a.aO by omega);have:=Int.ediv_le_self a.aO (show 0<=p-a.aV by omega);exact Ad
   rw[aa L,e3];by_cases N:(p-a.aV)/a.aO>=(a.aW.length:Int)-1
   ·rw[ab N];simp only[go_sem,af,S_ (show a.aW.length-1<a.aW.length by omega)];rw[aa,aa,aa,aa,ab,ab]
   ·rw[aa N];obtain⟨i,r,g1,g2,g3,g4,g5,Y⟩:=Q3i h c L N;obtain⟨n1,n2⟩:=Q99 h c g2 (r:=r) (by omega);have b1:=Qd h (show i<a.aW.length by omega);rw[Y,g1]at*;rw[af];have w1:V ((i:Int)+1)=((i+1:Nat):Int):=by rw[Ad];omega
    have hmul:(i:Int)*a.aO=p-a.aV-r:=by omega
    have w2:V (p-a.aV-V ((i:Int)*a.aO))=r:=by rw[hmul,Ad (x:=p-a.aV-r),Ad];omega
    have D:(0:Int)<=(i:Int)/\(i:Int)<(a.aW.length:Int):=by omega
    have G:(0:Int)<=((i+1:Nat):Int)/\((i+1:Nat):Int)<(a.aW.length:Int):=by omega
    simp only[go_sem,w1,w2,af,S_ (show i<a.aW.length by omega),S_ g2,ab D,ab G];have b2:=Qd h g2;generalize A6 a (i+1)=y at*;generalize A6 a i=z at*;rw[aa,aa,aa,aa,aa,Ad (x:=y-z),U (by omega) (by omega) O];simp only[go_sem];rw[Ad]
theorem Z5m {a:Axs} (h:AxOK a) {p:Int} (D:okB p):Mz (Bs a++[I p])=some [I (Ct a p)]:=by
 have hb:=Q2d h p;have G:=Zps h D;unfold okB at D;have L:=Zpb h (v:=p+Dm a p) (by omega);have he:=Zyt Kx JX a.step a.aS a.bD a.bE a.low a.aY a.bB a.aV a.aO (a.aW.map Aj) p;unfold Mz;generalize Kx=M at*;generalize JX=N at*;refine dp he ?_;simp only[Bs,az,bf]at G L;simp only[G,go_sem,Ad (x:=p+Dm a p),L];rfl
def FO (a:Axs) (d:Int):Int:=if d= -1 then-a.bB else 0
def Eb (a:Axs) (bC at_ was aT u:Int):Int:=if bC≠0\/was=aT then FO a aT else if aT= -1 then-min (u-at_) a.bB else min (u-at_) a.bB-a.bB
theorem RW {a:Axs} (hb:0<=a.bB/\a.bB<=1000) (v:Int):JC (Bs a++[I v])=some [I (FO a v)]:=by
 have he:=Zcq a.step a.aS a.bD a.bE a.low a.aY a.bB a.aV a.aO (a.aW.map Aj) v;unfold JC;refine dp he ?_;unfold FO;by_cases c:v= -1
 ·rw[Cj (by simp[c]),ab c,Ad];congr 3;omega
 ·rw[B4 (by simp[c]),aa c]
theorem Zuy {a:Axs} {c:Pce} (O:∀v:Int,M (Bs a++[I v])=some [I (FO a v)]) (hb:0<=a.bB/\a.bB<=1000) (Y:0<=u-c.at_/\u-c.at_<=2000000000000000):
  Qa M (Bs a++A8 c++[I 0,I u])=some [I (Eb a c.bC c.at_ c.was.x c.aT.x u)]:=by
 have he:=Qin M a.step a.aS a.bD a.bE a.low a.aY a.bB a.aV a.aO (a.aW.map Aj) c.at_ c.aR c.s c.bC c.was.x c.was.y c.was.z c.aT.x c.aT.y c.aT.z 0 u;refine dp he ?_;have D:=O c.aT.x;simp only[Bs,az,bf]at D;have e1:V (0+1)=1:=rfl;have e2:V (1+1)=2:=rfl;have T:V (u-c.at_)=u-c.at_:=Ad;have U:V (0-min (u-c.at_) a.bB)= -min (u-c.at_) a.bB:=by rw[Ad];omega
 have X:V (min (u-c.at_) a.bB-a.bB)=min (u-c.at_) a.bB-a.bB:=Ad;unfold Eb;simp only[go_sem,e1,e2,Kb,T,U,X,Nat.reduceAdd,i7,kj,j4,Int.reduceEq,D];by_cases G:c.bC=0
 ·by_cases L:c.was.x=c.aT.x
  ·simp[G,L]
  ·by_cases N:c.aT.x= -1
   ·simp[G,N,show c.was.x≠-1 from λe=>L (by rw[e,N])]
   ·simp[G,L,N]
 ·simp[G]
theorem Zp5 {a:Axs} {c:Pce} (O:∀v:Int,M (Bs a++[I v])=some [I (FO a v)]) (hb:0<=a.bB/\a.bB<=1000) (Y:0<=u-c.at_/\u-c.at_<=2000000000000000):
  Qa M (Bs a++A8 c++[I (V (0+1)),I u])=some [I (Eb a c.bC c.at_ c.was.y c.aT.y u)]:=by
 have he:=Qin M a.step a.aS a.bD a.bE a.low a.aY a.bB a.aV a.aO (a.aW.map Aj) c.at_ c.aR c.s c.bC c.was.x c.was.y c.was.z c.aT.x c.aT.y c.aT.z (V (0+1)) u;refine dp he ?_;have D:=O c.aT.y;simp only[Bs,az,bf]at D;have e1:V (0+1)=1:=rfl;have e2:V (1+1)=2:=rfl;have T:V (u-c.at_)=u-c.at_:=Ad;have U:V (0-min (u-c.at_) a.bB)= -min (u-c.at_) a.bB:=by rw[Ad];omega
 have X:V (min (u-c.at_) a.bB-a.bB)=min (u-c.at_) a.bB-a.bB:=Ad;unfold Eb;simp only[go_sem,e1,e2,Kb,T,U,X,Nat.reduceAdd,i7,kj,j4,Int.reduceEq,D];by_cases G:c.bC=0
 ·by_cases L:c.was.y=c.aT.y
  ·simp[G,L]
  ·by_cases N:c.aT.y= -1
   ·simp[G,N,show c.was.y≠-1 from λe=>L (by rw[e,N])]
   ·simp[G,L,N]
 ·simp[G]
theorem Z1u {a:Axs} {c:Pce} (O:∀v:Int,M (Bs a++[I v])=some [I (FO a v)]) (hb:0<=a.bB/\a.bB<=1000) (Y:0<=u-c.at_/\u-c.at_<=2000000000000000):
  Qa M (Bs a++A8 c++[I (V (V (0+1)+1)),I u])=some [I (Eb a c.bC c.at_ c.was.z c.aT.z u)]:=by
 have he:=Qin M a.step a.aS a.bD a.bE a.low a.aY a.bB a.aV a.aO (a.aW.map Aj) c.at_ c.aR c.s c.bC c.was.x c.was.y c.was.z c.aT.x c.aT.y c.aT.z (V (V (0+1)+1)) u;refine dp he ?_;have D:=O c.aT.z;simp only[Bs,az,bf]at D;have e1:V (0+1)=1:=rfl;have e2:V (1+1)=2:=rfl;have T:V (u-c.at_)=u-c.at_:=Ad;have U:V (0-min (u-c.at_) a.bB)= -min (u-c.at_) a.bB:=by rw[Ad];omega
 have X:V (min (u-c.at_) a.bB-a.bB)=min (u-c.at_) a.bB-a.bB:=Ad;unfold Eb;simp only[go_sem,e1,e2,Kb,T,U,X,Nat.reduceAdd,i7,kj,j4,Int.reduceEq,D];by_cases G:c.bC=0
 ·by_cases L:c.was.z=c.aT.z
  ·simp[G,L]
  ·by_cases N:c.aT.z= -1
   ·simp[G,N,show c.was.z≠-1 from λe=>L (by rw[e,N])]
   ·simp[G,L,N]
 ·simp[G]
theorem Zml {a:Axs} (hb:0<=a.bB/\a.bB<=1000) {bC at_ was aT u:Int} (D:0<=u-at_): -1000<=Eb a bC at_ was aT u/\Eb a bC at_ was aT u<=1000:=by
 unfold Eb FO
 (repeat' split)<;>omega
theorem Zn4 (G:bd B26 q) (I:1<=g.len/\g.len<=268435456/\bd B26 g.to) (N:0<=k/\k<=g.len):bd 201326592 (HR q g k):=by
 have key:∀u v:Int,u.natAbs<=B26->v.natAbs<=B26->(v+AP ((u-v)*k) g.len).natAbs<=201326592:=by
  intro u v O M;have T:=F7 O M;have U:=Qup (D:=u-v) (L:=g.len) (d:=k) (by omega) (cb T (by decide)) N;have V:v.natAbs<=67108864:=M;omega
 exact⟨key _ _ I.2.2.1 G.1,key _ _ I.2.2.2.1 G.2.1,key _ _ I.2.2.2.2 G.2.2⟩
theorem Zrg (h:GoodPath p) (s:Int):bd 201326592 (atP p s):=by
 unfold atP;by_cases c:p.aF=[]
 ·rw[c];exact AR h.aQ (by decide)
 ·have D:=h.ok;obtain⟨G,I,L,M⟩:=Qgu (l:=p.aF) (a:=p.aQ) (s:=max s 0) c (λg N=>(D.seg g N).1) (by omega);rw[M];exact Zn4 (Zar h.aQ D G) (D.seg _ (Gp G)) ⟨I,L⟩
theorem XH {a:Axs} (h:AxOK a) {p:Int} (D:okB p):(Ct a p).natAbs<=2000000000:=by
 have hb:=Q2d h p;have G:=h.step;unfold okB at D;unfold Ct;refine Qdt (by omega) ?_;have e:((2000000000:Nat):Int)=2000000000:=rfl;rw[e];omega
def shT (a:Axs) (t:Trk) (u:Int) (f:Pt->Int):Int:=if t.aE=[]then FO a (f t.aT)else Eb a (pcA t.aE (iT t u)).bC (pcA t.aE (iT t u)).at_ (f (pcA t.aE (iT t u)).was) (f (pcA t.aE (iT t u)).aT) (clT t u)
def S1 (p:Pth) (x:Ax3) (s:Int):Pt:=⟨Ct x.a (atP p s).x,Ct x.b (atP p s).y,Ct x.c (atP p s).z⟩
def CR (p:Pth) (x:Ax3) (t:Trk) (u:Int):Pt:=
 ⟨(S1 p x (AV t u)).x+shT x.a t u Pt.x,(S1 p x (AV t u)).y+shT x.b t u Pt.y,(S1 p x (AV t u)).z+shT x.c t u Pt.z⟩
theorem Qrz (h:TQ t) (G:∀i,i+1<t.aE.length->(pcA t.aE (i+1)).at_=eI t.aE i) (M:t.aE≠[]->(pcA t.aE 0).at_=0) (u:Int) (D:t.aE≠[]):(pcA t.aE (iT t u)).at_<=clT t u/\(0<iT t u->(pcA t.aE (iT t u)).at_<clT t u):=by
 have I:=KM h u D;have N:=OB h u;by_cases c:iT t u=0
 ·rw[c,M D];exact⟨N.1,λg=>absurd g (by omega)⟩
 ·obtain⟨j,L⟩:∃j,iT t u=j+1:=⟨iT t u-1,by omega⟩;rw[L]at I⊢;rw[G j I];have: ¬clT t u<=eI t.aE j:=by
   intro g;have:=Uc (show j<t.aE.length by omega) g;unfold iT at L;omega
  exact⟨by omega,λ_=>by omega⟩
theorem Z6j (h:TQ t) (u:Int):clT t (clT t u)=clT t u:=by have:=h.len;unfold clT Bb;omega
theorem Zzu (h:TQ t) (u:Int):AV t (clT t u)=AV t u:=by unfold AV iT;rw[Z6j h]
theorem Qxg (h:TQ t) (u:Int): -3000000000000000<=AV t u/\AV t u<=3000000000000000:=by
 unfold AV;by_cases c:t.aE=[]
 ·rw[ab c];have:=h.aQ;omega
 ·have G:=KM h u c;have I:=h.pos _ G;have L:=h.s _ G;have D:=h.bC _ G;have M:=OB h u;have N:=h.len;rw[aa c];unfold eI at I;rcases D with D|D|D<;>rw[D]<;>omega
theorem Z7v (h:GoodPath p) (s:Int):okB (atP p s).x/\okB (atP p s).y/\okB (atP p s).z:=by
 obtain⟨D,G,I⟩:=Zrg h s;unfold okB;omega
structure TH (t : Trk) : Prop where
 q:TQ t
 at0:t.aE≠[]->(pcA t.aE 0).at_=0
 at1:∀i,i+1<t.aE.length->(pcA t.aE (i+1)).at_=eI t.aE i
theorem Qio {a:Axs} (hb:0<=a.bB/\a.bB<=1000) {t:Trk} (h:TH t) (u:Int) (f:Pt->Int): -1000<=shT a t u f/\shT a t u f<=1000:=by
 unfold shT;by_cases c:t.aE=[]
 ·rw[ab c];unfold FO;split<;>omega
 ·rw[aa c];exact Zml hb (by have:=(Qrz h.q h.at1 h.at0 u c).1;omega)
theorem Zmi {x:Ax3} (hp:GoodPath p) (D:Ax3M x) (G:TH t) (hC:H [I u,I t.length]=some [I (clT t u)]) (hL:O (Bw t++[I (clT t u)])=some [I (AV t u)]) (hA:P (Bl p++[I (AV t u)])=some (ptR (atP p (AV t u))))
  (L:T (Bw t++[I (clT t u)])=some [I (if t.aE=[]then-1 else(iT t u:Int))]) (hM:∀{a:Axs} {q:Int},AxOK a->okB q->W (Bs a++[I q])=some [I (Ct a q)]) (hD:∀{a:Axs} (v:Int),(0<=a.bB/\a.bB<=1000)->Z (Bs a++[I v])=some [I (FO a v)])
  (h0:∀{a:Axs} {c:Pce} {u:Int},(0<=a.bB/\a.bB<=1000)->(0<=u-c.at_/\u-c.at_<=2000000000000000)->M (Bs a++A8 c++[I 0,I u])=some [I (Eb a c.bC c.at_ c.was.x c.aT.x u)])
  (h1:∀{a:Axs} {c:Pce} {u:Int},(0<=a.bB/\a.bB<=1000)->(0<=u-c.at_/\u-c.at_<=2000000000000000)->M (Bs a++A8 c++[I (V (0+1)),I u])=some [I (Eb a c.bC c.at_ c.was.y c.aT.y u)])
  (h2:∀{a:Axs} {c:Pce} {u:Int},(0<=a.bB/\a.bB<=1000)->(0<=u-c.at_/\u-c.at_<=2000000000000000)->M (Bs a++A8 c++[I (V (V (0+1)+1)),I u])=some [I (Eb a c.bC c.at_ c.was.z c.aT.z u)]):
  Qby M Z W T P O H (Bl p++AG x++Bw t++[I u])=some (ptR (CR p x t u)):=by
 have he:=Z6y M Z W T P O H u p x t;refine dp he ?_;obtain⟨o1,o2,o3⟩:=Z7v hp (AV t u);have m1:=hM D.a o1;have m2:=hM D.b o2;have m3:=hM D.c o3;have b1:=XH D.a o1;have b2:=XH D.b o2;have b3:=XH D.c o3;have s1:=Qio D.ok.a G u Pt.x;have s2:=Qio D.ok.b G u Pt.y;have s3:=Qio D.ok.c G u Pt.z;unfold CR S1;generalize Ct x.a (atP p (AV t u)).x=q1 at*;generalize Ct x.b (atP p (AV t u)).y=q2 at*;generalize Ct x.c (atP p (AV t u)).z=q3 at*;have w1:V (q1+shT x.a t u Pt.x)=q1+shT x.a t u Pt.x:=Ad;have w2:V (q2+shT x.b t u Pt.y)=q2+shT x.b t u Pt.y:=Ad;have w3:V (q3+shT x.c t u Pt.z)=q3+shT x.c t u Pt.z:=Ad;by_cases c:t.aE=[]
 ·have N:=hD t.aT.x D.ok.a;have U:=hD t.aT.y D.ok.b;have X:=hD t.aT.z D.ok.c;unfold shT at*;rw[ab c]at L;simp only[ab c]at w1 w2 w3⊢;simp only[Bl,Bw,Bs,az,bf]at hL hA L N U X m1 m2 m3;simp only[hC,hL,hA,L,go_sem,m1,m2,m3,N,U,X,w1,w2,w3];rw[ab,ab,ab]
 ·have hi:=KM G.q u c;have a1:=G.q.count;have a3:=(Qrz G.q G.at1 G.at0 u c).1;have a4:=OB G.q u;have hlen:=G.q.len;have a2:=G.q.pos _ hi;have a0:(0:Int)<=(iT t u:Int)/\(iT t u:Int)<(t.aE.length:Int):=by omega
  have Y: ¬((iT t u:Int)<0):=by omega
  have N:=h0 (c:=pcA t.aE (iT t u)) (u:=clT t u) D.ok.a (by omega);have U:=h1 (c:=pcA t.aE (iT t u)) (u:=clT t u) D.ok.b (by omega);have X:=h2 (c:=pcA t.aE (iT t u)) (u:=clT t u) D.ok.c (by omega);unfold shT at*;rw[aa c]at L;simp only[aa c]at w1 w2 w3⊢;simp only[Bl,Bw,Bs,A8,az,bf]at hL hA L N U X m1 m2 m3;simp only[hC,hL,hA,L,go_sem,m1,m2,m3,ac,ab a0,af,Tz hi,aa Y,N,U,X,w1,w2,w3]
theorem Z68 {x:Ax3} (M:GoodPath p) (N:Ax3M x) (D:TH t) (u:Int):D9 (Bl p++AG x++Bw t++[I u])=some (ptR (CR p x t u)):=by
 have U:=Qxg D.q u;have G:=Rv D.q (clT t u);rw[Zzu D.q]at G;exact Zmi M N D Vr G (Z4l M (by unfold i64;omega)) (Qwq D.q u) (λO T=>Z5m O T) (λv hb=>RW hb v) (λhb L=>Zuy (RW hb) hb L) (λhb L=>Zp5 (RW hb) hb L) (λhb L=>Z1u (RW hb) hb L)
theorem Qvk {x:Ax3} {a s:Int} {l:List Pce} (h:chain x k Q a s d l) (D:l≠[]):(pcA l 0).at_=a:=by
 cases l with
 |nil=>exact absurd rfl D
 |cons c l=>rw[IS];exact h.1
theorem Qs1 {x:Ax3} {mv:Int} {Q:Int->Pt->Prop}:∀{a s:Int} {d:Pt} {l:List Pce},chain x mv Q a s d l->∀i,i+1<l.length->(pcA l (i+1)).at_=eI l i
 |a,s,d,[],h,i,D=>by simp at D
 |a,s,d,c::l,h,0,D=>by
  obtain⟨I,L,M,N,G⟩:=h;unfold eI;rw[GQ,IS,Qvk G (λe=>by rw[e]at D;simp at D),I]
 |a,s,d,c::l,h,i+1,D=>by
  obtain⟨I,L,M,N,G⟩:=h;have:=Qs1 G i (by simpa using D);unfold eI at*;rw[GQ,GQ];exact this
theorem Qvu {x:Ax3} (d:Pt) (a b:Int) (D:Ax3OK x) (G:GoodPath p):TH (Bz p x d a b):=by
 obtain⟨L,I,M,-⟩:=QR (d:=d) (a:=a) (b:=b) (Q:=λ_ _=>True) D G (λ_ _ _ _ _ _ _ _=>trivial);exact⟨WK d a b D G,Qvk I.ch,Qs1 I.ch⟩
def wF (z:Int):List Pce->Int
 |[]=> -1
 |c::l=>if c.bC≠0/\0<=(z-c.s)*c.bC/\(z-c.s)*c.bC<=c.aR then c.at_+(z-c.s)*c.bC else wF z l
def A4 (t:Trk) (z:Int):Int:=if z=t.aQ then 0 else wF z t.aE
def plL:List Pce->Int->Int
 |[],_=>0
 |c::l,u=>if u<=c.at_+c.aR then c.s+c.bC*(u-c.at_)else plL l u
theorem Qpm:∀{l:List Pce} {u:Int},fI l u<l.length->plL l u=(pcA l (fI l u)).s+(pcA l (fI l u)).bC*(u-(pcA l (fI l u)).at_)
 |[],_,h=>by simp at h
 |c::l,u,h=>by
  unfold fI at h⊢;unfold plL;by_cases D:u<=c.at_+c.aR
  ·rw[ab D,ab D,IS]
  ·rw[aa D]at h⊢;rw[aa D,GQ];exact Qpm (by simpa using h)
theorem KN (h:TQ t) (u:Int) (D:t.aE≠[]):AV t u=plL t.aE (clT t u):=by
 have G:=KM h u D;unfold AV;rw[aa D];exact(Qpm G).symm
theorem Qhc {x:Ax3} {mv:Int} {Q:Int->Pt->Prop} (I:mv=1\/mv= -1):∀{a s:Int} {d:Pt} {l:List Pce},chain x mv Q a s d l->0<=mv*(CK s l-s)
 |a,s,d,[],_=>by simp[CK]
 |a,s,d,c::l,h=>by
  obtain⟨N,O,T,D,L⟩:=h;have M:=Qhc I L;unfold CK;generalize CK (s+c.bC*c.aR) l=E at*;have G:c.bC=mv\/c.bC=0:=by rcases D with D|D<;>simp[D.1]
  rcases G with G|G<;>rw[G]at M<;>rcases I with rfl|rfl<;>omega
theorem Qu3 {x:Ax3} {mv:Int} {Q:Int->Pt->Prop} (D:mv=1\/mv= -1) (z:Int):∀{a s:Int} {d:Pt} {l:List Pce},chain x mv Q a s d l->
  (mv*(z-s)<0->wF z l= -1)/\(0<mv*(z-CK s l)->wF z l= -1)/\
  (0<mv*(z-s)->mv*(z-CK s l)<=0->a<wF z l/\wF z l<=BJ a l/\plL l (wF z l)=z/\∀v,a<=v->v<wF z l->mv*(plL l v-z)<0)
 |a,s,d,[],_=>by
  simp only[CK,wF];exact⟨λ_=>trivial,λ_=>trivial,λL M=>absurd L (by omega)⟩
 |a,s,d,c::l,h=>by
  obtain⟨L,M,h3,O,X⟩:=h;obtain⟨i1,i2,T⟩:=Qu3 D z X;have N:=Qhc D X;have a1:=WF X;have G:c.bC=mv\/c.bC=0:=by rcases O with O|O<;>simp[O.1]
  simp only[CK,BJ];generalize CK (s+c.bC*c.aR) l=E at*;generalize BJ (a+c.aR) l=A at*;have key : (0 < mv * (z - (s + c.bC * c.aR)) -> mv * (z - E) <= 0 -> wF z (c :: l) = wF z l -> (∀ v, a <= v -> v <= a + c.aR -> mv * (s + c.bC * (v - a) - z) < 0) ->
    a<wF z (c::l)/\wF z (c::l)<=A/\plL (c::l) (wF z (c::l))=z/\∀v,a<=v->v<wF z (c::l)->mv*(plL (c::l) v-z)<0):=by
   intro g1 g2 g3 g4;obtain⟨k1,k2,k3,k4⟩:=T g1 g2;rw[g3];refine⟨by omega,k2,?_,?_⟩
   ·unfold plL;rw[aa];exact k3
   ·intro v U V;unfold plL;by_cases w3:v<=c.at_+c.aR
    ·rw[ab w3,L,M];exact g4 v U (by omega)
    ·rw[aa w3];exact k4 v (by omega) V
  rcases G with G|G
  ·
   have a0:c.bC≠0:=by rcases D with rfl|rfl<;>omega
   rw[G]at i1 T key;by_cases Y:0<=(z-s)*mv/\(z-s)*mv<=c.aR
   ·have I:wF z (c::l)=a+(z-s)*mv:=by unfold wF;rw[M,G,L,ab ⟨by omega,Y.1,Y.2⟩]
    rw[I];refine⟨λg=> ?_,λg=> ?_,λg1 g2=>⟨?_,?_,?_,?_⟩⟩
    ·rcases D with rfl|rfl<;>omega
    ·rw[G]at N;rcases D with rfl|rfl<;>omega
    ·rcases D with rfl|rfl<;>omega
    ·omega
    ·unfold plL;rw[ab,L,M,G];rcases D with rfl|rfl<;>omega
    ·intro v U V;unfold plL;rw[ab,L,M,G];rcases D with rfl|rfl<;>omega
   ·have I:wF z (c::l)=wF z l:=by
     show(if _ then _ else _)=_;rw[M,G,aa λg=>Y g.2]
    refine⟨λg=> ?_,λg=> ?_,λg1 g2=> ?_⟩
    ·rw[I];exact i1 (by rcases D with rfl|rfl<;>omega)
    ·rw[I];exact i2 g
    ·refine key (by rcases D with rfl|rfl<;>omega) g2 I ?_;intro v U V;rcases D with rfl|rfl<;>omega
  ·have I:wF z (c::l)=wF z l:=by
    show(if _ then _ else _)=_;rw[aa λg=>g.1 G]
   rw[G]at i1 T key;simp only[jc,fm]at i1 T key;refine⟨λg=> ?_,λg=> ?_,λg1 g2=> ?_⟩
   ·rw[I];exact i1 g
   ·rw[I];exact i2 g
   ·refine key g1 g2 I ?_;intro v U V;rcases D with rfl|rfl<;>omega
theorem Qr0 {t:Trk} (h:TQ t) {z:Int} (Y:i64 z):∀(k j:Nat),j+k=t.aE.length->wF z (t.aE.drop j)= -1/\Am Rm [I z, .vC Au (t.aE.map A8),I t.aE.length,I j]=some (2,[])\/
  Am Rm [I z, .vC Au (t.aE.map A8),I t.aE.length,I j]=some (1,[I (wF z (t.aE.drop j))])
 |0,j,hj=>by
  left;rw[eu (by omega)];refine⟨rfl,Bn (o:=(2,_)) ?_ (by simp)⟩;rw[Qst,Bc (by omega)]
 |k+1,j,hj=>by
  have D:j<t.aE.length:=by omega
  have a0:=h.count;have U:(0:Int)<=(j:Int)/\(j:Int)<(t.aE.length:Int):=by omega
  have O:=h.pos j D;have hl:=h.len;have hs:=h.s j D;have a3:=h.bC j D;have e:t.aE.drop j=pcA t.aE j::t.aE.drop (j+1):=by
   have e1:pcA t.aE j=t.aE[j]:=by unfold pcA;simp[D]
   rw[e1];exact KF _ _ D
  have M:Rm [I z, .vC Au (t.aE.map A8),I t.aE.length,I j]=if(pcA t.aE j).bC≠0/\0<=(z-(pcA t.aE j).s)*(pcA t.aE j).bC/\(z-(pcA t.aE j).s)*(pcA t.aE j).bC<=(pcA t.aE j).aR then
    some (1,[I ((pcA t.aE j).at_+(z-(pcA t.aE j).s)*(pcA t.aE j).bC)])else some (0,[I z, .vC Au (t.aE.map A8),I t.aE.length,I (j+1:Nat)]):=by
   rw[Qst];simp only[go_sem,ac,af,Tz D,ab U,Ad (x:=(j:Int)+1)];rw[ab];unfold eI at O;unfold i64 at Y;generalize pcA t.aE j=c at*;have L:∀y:Int,-9223372036854775808-2000000000000000<=y->y<=9223372036854775807+2000000000000000->(V y=y/\ -9223372036854775808<=y/\y<=9223372036854775807)\/(V y=y+18446744073709551616/\y< -9223372036854775808)\/(V y=y-18446744073709551616/\y>9223372036854775807):=by
    intro y y1 y2;have hw:=Zoo y;unfold i64 at hw;by_cases N: -9223372036854775808<=y/\y<=9223372036854775807
    ·exact .inl ⟨Ad N,N⟩
    ·have:=Z_ y;omega
   by_cases X:c.bC=0
   ·have T: ¬(c.bC≠0/\0<=(z-c.s)*c.bC/\(z-c.s)*c.bC<=c.aR):=λg=>g.1 X;rw[aa,aa T];rfl
   ·rw[ab X];have G:c.bC=1\/c.bC= -1:=by omega
    have a1:=L (z-c.s) (by omega) (by omega);have a4:V (V (z-c.s)*c.bC)=(z-c.s)*c.bC\/((V (V (z-c.s)*c.bC)<0\/V (V (z-c.s)*c.bC)>1000000000000000)/\((z-c.s)*c.bC<0\/(z-c.s)*c.bC>1000000000000000)):=by
     generalize V (z-c.s)=y at*;have a2:=L (y*c.bC) (by rcases G with G|G<;>rw[G]<;>omega) (by rcases G with G|G<;>rw[G]<;>omega);rcases G with G|G<;>rw[G]at a2⊢<;>omega
    generalize V (V (z-c.s)*c.bC)=n at*;by_cases N:0<=(z-c.s)*c.bC/\(z-c.s)*c.bC<=c.aR
    ·have en:n=(z-c.s)*c.bC:=by omega
     have T:c.bC≠0/\0<=(z-c.s)*c.bC/\(z-c.s)*c.bC<=c.aR:=⟨X,N⟩;rw[ab T,en,ab N.1,ab N.2,Ad]
    ·have T: ¬(c.bC≠0/\0<=(z-c.s)*c.bC/\(z-c.s)*c.bC<=c.aR):=λg=>N g.2;rw[aa T];by_cases c2:0<=n
     ·rw[ab c2,aa];rfl
     ·rw[aa c2];rfl
  rw[e];by_cases c:(pcA t.aE j).bC≠0/\0<=(z-(pcA t.aE j).s)*(pcA t.aE j).bC/\(z-(pcA t.aE j).s)*(pcA t.aE j).bC<=(pcA t.aE j).aR
  ·rw[ab c]at M;right;rw[Bn M (by simp)];unfold wF;rw[ab c]
  ·rw[aa c]at M;rw[BB M];unfold wF;rw[aa c];exact Qr0 h Y k (j+1) (by omega)
theorem Zgd (h:TQ t) {z:Int} (M:i64 z):Nx (Bw t++[I z])=some [I (A4 t z)]:=by
 have he:=Z88 Lv (t.aE.map A8) t.length t.aQ t.aT.x t.aT.y t.aT.z z;unfold Nx;refine dp he ?_;unfold A4;rw[ac];by_cases c:z=t.aQ
 ·rw[ab c,Cj (by simp[c])]
 ·rw[aa c,B4 (by simp[c])];rcases Qr0 h M t.aE.length 0 (by omega)with⟨L,G⟩|G
  ·rw[f8]at L;have D:Lv [I z, .vC Au (t.aE.map A8),I t.aE.length,I 0]=some (2,[]):=G;generalize Lv=N at*;rw[L];simp only[D,go_sem];rfl
  ·rw[f8]at G;have D:Lv [I z, .vC Au (t.aE.map A8),I t.aE.length,I 0]=some (1,[I (wF z t.aE)]):=G;generalize Lv=N at*;simp only[D,go_sem]
end Go.Bm
namespace Go.Bm
theorem Zi2 (l:Rw) (h:l.length<=100000):Out (λo=>(wA o 0).length<=l.length) (O_ [.vC Aa l]):=by
 show Out _ (Se (Am Ry) [.vC Aa l]);rw[Qwf];refine .bind (p:=λo=>o.1=1/\(wA o.2 0).length<=l.length) ?_ λo g=>by rw[g.1];exact .some g.2
 refine Cd (λs:Rw×Nat=>[.vC Aa s.1, .vC Aa l,I (s.2:Int)]) (λs=>1<=s.2/\s.2<=l.length+1/\s.1.length+1<=s.2) (λs=>l.length+1-s.2) _ ?_ ([],1) (by simp);rintro⟨v,i⟩ ⟨g1,g2,D⟩;dsimp only at*;rw[Q4l];rw[Ad (x:=(i:Int)-1),Ad (x:=(i:Int)+1)];refine .cond (λc=> ?_) (λc=> ?_)
 ·have c:=Bg c;refine .cond (λ_=> ?_) λc=>by simp at c;omega
  refine .cond (λ_=> ?_) λc=>by simp at c;omega
  refine .cond (λ_=> ?_) λc=>by rw[BF (by simp;omega)]at c;cases c
  exact .some (.inl ⟨rfl,(_,i+1),rfl,by simp;omega,by simp;omega⟩)
 ·have c:=Bd c;exact .some (.inr ⟨by simp,rfl,by show v.length<=l.length;omega⟩)
theorem Zv0 (l:Rw) (n:Int) (h:l.length<=100000):(NF [.vC Aa l,I n]).isSome=true:=by
 show(RB (Am Pu) [.vC Aa l,I n]).isSome=true;rw[Qq5];refine Out.is (p:=λ_=>True) ?_;refine .bind (p:=λo=>o.1=1\/o.1=2) ?_ λo g=>by rcases g with g|g<;>rw[g]<;>exact .some trivial
 refine Cd (λs:Nat=>[I n, .vC Aa l,I (l.length:Int),I (s:Int)]) (λs=>s<=l.length) (λs=>l.length-s) _ ?_ 0 (by simp);intro i g;rw[Q2x];rw[Ad (x:=(i:Int)+1)];refine .cond (λc=> ?_) (λc=> ?_)
 ·have c:=Bg c;refine .cond (λ_=> ?_) λc=>by simp at c;omega
  refine .cond (λ_=> .some (.inr ⟨by simp, .inl rfl⟩)) λ_=> .cond (λ_=> .some (.inr ⟨by simp, .inl rfl⟩)) λ_=> ?_;exact .some (.inl ⟨rfl,i+1,rfl,by omega,by omega⟩)
 ·exact .some (.inr ⟨by simp, .inr rfl⟩)
theorem Z54 (D:∀l:Rw,l.length<=100000->Out (λo=>(wA o 0).length<=l.length) (Z [.vC Aa l])) (hB:∀(l:Rw) n,l.length<=100000->(M [.vC Aa l,I n]).isSome=true)
  (G L N O T U V X Y:Int) (x9 l:Rw) (h:l.length<=100000):(Ta M Z [I G,I L,I N,I O,I T,I U,I V,I X,I Y, .vC Aa x9, .vC Aa l]).isSome=true:=by
 rw[Zbe];obtain⟨a,ha,ga⟩:=D l h;rw[ha];simp only[am];generalize wA a 0=la at*;obtain⟨b,hb,gb⟩:=D la (by omega);rw[hb];simp only[am];generalize wA b 0=lb at*;obtain⟨c,hc,gc⟩:=D lb (by omega);rw[hc];simp only[am];generalize wA c 0=lc at*;refine KX (hB _ _ (by omega)) λ_ _=>Fv (λ_=>rfl) λ_=>KX (hB _ _ (by omega)) λ_ _=>Fv (λ_=>rfl) λ_=>KX (hB _ _ (by omega)) λ_ _=>Fv (λ_=>rfl) λ_=>rfl
theorem Z4r (D G L M N O T U V:Int) (X l:Rw) (h:l.length<=100000):(KV [I D,I G,I L,I M,I N,I O,I T,I U,I V, .vC Aa X, .vC Aa l]).isSome=true:=Z54 Zi2 Zv0 D G L M N O T U V X l h
theorem Zp9 {x:Ax3} (O:0<=k/\k<=2) {l out:Rw} (N:out.length=l.length) (T:l.length<=100000):
  Out (λo=>o.1=1/\∃v:Rw,o.2= .vC Aa v:: .vC kPt l::I k::I k::AG x/\v.length=l.length) (Am (HN M) (.vC Aa out:: .vC kPt l::I k::I k::I (l.length:Int)::I 0::AG x)):=by
 refine Cd (λs:Rw×Nat=> .vC Aa s.1:: .vC kPt l::I k::I k::I (l.length:Int)::I (s.2:Int)::AG x) (λs=>s.1.length=l.length/\s.2<=l.length) (λs=>l.length-s.2) _ ?_ (out,0) ⟨N,by simp⟩;rintro⟨v,i⟩ ⟨g1,g2⟩;dsimp only at*;rw[Qxf];rw[Ad (x:=(i:Int)+1)];refine .cond (λc=> ?_) (λc=> ?_)
 ·have c:=Bg c;refine .cond (λ_=> ?_) λc=>by simp at c;omega
  refine .cond (λ_=> ?_) λD=> .cond (λ_=> ?_) λG=> .cond (λ_=> ?_) λL=> ?_
  ·refine .cond (λ_=> ?_) λc=>by simp at c;omega
   exact .some (.inl ⟨rfl,(_,i+1),rfl,by simp;omega,by simp;omega⟩)
  ·refine .cond (λ_=> ?_) λc=>by simp at c;omega
   exact .some (.inl ⟨rfl,(_,i+1),rfl,by simp;omega,by simp;omega⟩)
  ·refine .cond (λ_=> ?_) λc=>by simp at c;omega
   exact .some (.inl ⟨rfl,(_,i+1),rfl,by simp;omega,by simp;omega⟩)
  ·have D:=Bd D;have G:=Bd G;have L:=Bd L
   simp at D G L;omega
 ·exact .some (.inr ⟨by simp,rfl,v,rfl,g1⟩)
theorem Zig (hM:∀(D G L N O T U X Y:Int) (x9 l:Rw),l.length<=100000->(M [I D,I G,I L,I N,I O,I T,I U,I X,I Y, .vC Aa x9, .vC Aa l]).isSome=true) (x:Ax3) {l:Rw} (h1:l.length<=100000):
  (Qw M (Am (HN M)) (Am (NH M (Am (HN M)))) (AG x++[.vC kPt l])).isSome=true:=by
 show(Qw M (Am (HN M)) (Am (NH M (Am (HN M)))) [I x.a.step,I x.a.aS,I x.a.bD,I x.a.bE,I x.a.low,I x.a.aY,I x.a.bB,I x.a.aV,I x.a.aO, .vC Aa (x.a.aW.map Aj),I x.b.step,I x.b.aS,I x.b.bD,I x.b.bE,I x.b.low,I x.b.aY,I x.b.bB,I x.b.aV,I x.b.aO, .vC Aa (x.b.aW.map Aj),I x.c.step,I x.c.aS,I x.c.bD,I x.c.bE,I x.c.low,I x.c.aY,I x.c.bB,I x.c.aV,I x.c.aO, .vC Aa (x.c.aW.map Aj), .vC kPt l]).isSome=true;rw[Qtm];refine Out.is (p:=λ_=>True) ?_;refine .bind (p:=λo=>o.1=1\/o.1=2) ?_ λo g=>by rcases g with g|g<;>rw[g]<;>exact .some trivial
 refine Cd (λs:Nat=> .vC kPt l::I (s:Int)::AG x) (λs=>s<=3) (λs=>3-s) _ ?_ 0 (by omega);intro k hk;rw[Qve];refine .cond (λc=> ?_) (λc=> ?_)
 ·have c:=Bg c;refine .cond (λ_=> ?_) λc=>by simp at c
  refine .cond (λ_=> ?_) λc=>by simp at c;omega
  refine .bind (Zp9 (M:=M) (x:=x) (k:=(k:Int)) (by omega) (by simp) h1) λo g=> ?_;obtain⟨g1,v,g2,g3⟩:=g;obtain⟨o1,o2⟩:=o;subst g1;subst g2;refine .cond (λ_=> ?_) λc=>by simp at c
  have e:V ((k:Int)+1)=((k+1:Nat):Int):=by rw[Ad];rfl
  have hw:∀(D G L N O T U X Y:Int) (x9:Rw),(M [I D,I G,I L,I N,I O,I T,I U,I X,I Y, .vC Aa x9, .vC Aa v]).isSome=true:=λD G L N O T U X Y x9=>hM D G L N O T U X Y x9 v (by omega);refine .cond (λ_=> ?_) λc0=> .cond (λ_=> ?_) λc1=> .cond (λ_=> ?_) λc2=> ?_
  ·refine .ibind (hw _ _ _ _ _ _ _ _ _ _) λ_ _=> .cond (λ_=> .some (.inr ⟨by simp, .inl rfl⟩)) λ_=> .some (.inl ⟨rfl,k+1,?_,by omega,by omega⟩);simp only[gA,wA,bA,jA,nth,Ag,BQ,e]
  ·refine .ibind (hw _ _ _ _ _ _ _ _ _ _) λ_ _=> .cond (λ_=> .some (.inr ⟨by simp, .inl rfl⟩)) λ_=> .some (.inl ⟨rfl,k+1,?_,by omega,by omega⟩);simp only[gA,wA,bA,jA,nth,Ag,BQ,e]
  ·refine .ibind (hw _ _ _ _ _ _ _ _ _ _) λ_ _=> .cond (λ_=> .some (.inr ⟨by simp, .inl rfl⟩)) λ_=> .some (.inl ⟨rfl,k+1,?_,by omega,by omega⟩);simp only[gA,wA,bA,jA,nth,Ag,BQ,e]
  ·have c0:=Bd c0;have c1:=Bd c1;have c2:=Bd c2
   simp[gA,wA,bA,jA,nth,Ag]at c0 c1 c2;omega
 ·exact .some (.inr ⟨by simp, .inr rfl⟩)
theorem Zou (x:Ax3) {l:Rw} (D:l.length<=100000):(JW (AG x++[.vC kPt l])).isSome=true:=Zig Z4r x D
theorem Qm1 (u:Int):(Hs [I u]).isSome=true:=by
 show(UN [I u]).isSome=true;rw[Q84];exact Fv (λ_=>rfl) λ_=>rfl
structure Fix (p : Pth) (x : Ax3) (t : Trk) : Prop where
 p:GoodPath p
 x:Ax3M x
 t:TH t
theorem P7 {x:Ax3} (h:Fix p x t) (u:Int):D9 (pxt p x t [I u])=some (ptR (CR p x t u)):=Z68 h.p h.x h.t u
theorem Z3h {G L MU:Fn} {x:Ax3} (N:∀{l:Rw},l.length<=100000->(G (AG x++[.vC kPt l])).isSome=true) (O:∀u,(L (pxt p x t [I u])).isSome=true) (T:∀u,(MU [I u]).isSome=true) {way:Rw} (U:way.length<=100000):
  (TA G L MU (Am (SB G L MU)) (pxt p x t [.vC Aa way])).isSome=true:=by
 rw[Qub];refine Out.is (p:=λ_=>True) ?_;refine .bind (p:=λo=>o.1=1\/o.1=2) ?_ λo g=>by rcases g with g|g<;>rw[g]<;>exact .some trivial
 refine Cd (λs:Rw×Nat=> .vC kPt s.1:: .vC Aa way::I (way.length:Int)::I (s.2:Int)::pxt p x t []) (λs=>s.1.length<=4/\s.2<=way.length) (λs=>way.length-s.2) _ ?_ ([],0) (by simp);rintro⟨v,i⟩ ⟨g1,g2⟩;dsimp only at g1 g2;rw[Q4n];try dsimp only[D]
 rw[Ad (x:=(i:Int)+1)];refine .cond (λc=> ?_) (λc=> ?_)
 ·have c:=Bg c;refine .cond (λ_=> ?_) λc=>by simp at c;omega
  refine .ibind (T _) λa _=> .ibind (O _) λb _=> ?_;refine .cond (λ_=> ?_) λc=>by rw[BF (by simp;omega)]at c;cases c
  generalize [jA b 0,jA b 1,jA b 2]=q;refine .cond (λ_=> ?_) λM=> ?_
  ·refine .cond (λ_=> ?_) λc=>by simp at c;omega
   refine .cond (λ_=> ?_) λc=>by rw[BF (by simp)]at c;cases c
   refine .ibind (N (l:=List.drop (Int.toNat 1) (v++[q])) (by simp;omega)) λ_ _=> .cond (λ_=> .some (.inr ⟨by simp, .inl rfl⟩)) λ_=> ?_;exact .some (.inl ⟨rfl,(_,i+1),rfl,by simp;omega,by simp;omega⟩)
  ·have M:=Bd M;simp at M;refine .ibind (N (l:=v++[q]) (by simp;omega)) λ_ _=> .cond (λ_=> .some (.inr ⟨by simp, .inl rfl⟩)) λ_=> ?_;exact .some (.inl ⟨rfl,(_,i+1),rfl,by simp;omega,by simp;omega⟩)
 ·exact .some (.inr ⟨by simp, .inr rfl⟩)
theorem Quq {x:Ax3} (h:Fix p x t) {way:Rw} (D:way.length<=100000):(LK (pxt p x t [.vC Aa way])).isSome=true:=
 Z3h (Zou x) (λu=>by rw[P7 h u];rfl) Qm1 D
theorem Zbx (O T:Int) (U b1 b2:Bool) (V X Y x8 x9 D G L M N:Int):(Ok [I O,I T,B U,B b1,B b2,I V,I X,I Y,I x8,I x9,I D,I G,I L,I M,I N]).isSome=true:=by
 show(Ul [I O,I T,B U,B b1,B b2,I V,I X,I Y,I x8,I x9,I D,I G,I L,I M,I N]).isSome=true;rw[Q60]
 repeat' first|exact rfl|refine Fv (λ_=> ?_) (λ_=> ?_)
theorem UT {x:Ax3} (h:Fix p x t) (u:Int):i64 (AV t u):=by
 have:=Qxg h.t.q u;unfold i64;omega
theorem ZW:∀(l:List Sgm) (s:Int),l≠[]->(Br l s).1<l.length
 |[],_,h=>absurd rfl h
 |[g],s,_=>by unfold Br;split<;>simp
 |g::h::l,s,_=>by
  by_cases c:s<g.len
  ·rw[Br,ab c];simp
  ·rw[Q8l c];have:=ZW (h::l) (s-g.len) (by simp);simp at this⊢;omega
theorem Q6j {x:Ax3} (h:Fix p x t) {s:Int} (D:i64 s):∃i v:Int,EJ (Bl p++[I s])=some [I i,I v]/\(i= -1\/0<=i/\i<p.aF.length)/\(p.aF≠[]->0<=i):=by
 rw[Vj (h.p.ok) D];by_cases c:p.aF=[]
 ·rw[ab c];exact⟨-1,0,rfl, .inl rfl,λh=>absurd c h⟩
 ·rw[aa c];have:=ZW p.aF (max s 0) c;exact⟨_,_,rfl, .inr ⟨by omega,by omega⟩,λ_=>by omega⟩
theorem Z5p {V X Y MU:Fn} (hO:∀(x0 x1:Int) (D b1 b2:Bool) (x5 x6 x7 x8 x9 G L M N O:Int),(V [I x0,I x1,B D,B b1,B b2,I x5,I x6,I x7,I x8,I x9,I G,I L,I M,I N,I O]).isSome=true)
  (hF:∀s,i64 s->∃i v:Int,X (Bl p++[I s])=some [I i,I v]/\(i= -1\/0<=i/\i<p.aF.length)/\(p.aF≠[]->0<=i)) (hP:∀u,∃s,Y (Bw t++[I u])=some [I s]/\i64 s) (hU:∀u,(MU [I u]).isSome=true) (T:p.aF≠[])
  (a b c o0 o1:Int) (D b1 b2:Bool) (u:Int):
  (Ub V X Y MU (De p t [I a,I b,I c,I o0,I o1,B D,B b1,B b2,I u])).isSome=true:=by
 rw[Qwp];refine KX (hU _) λq _=> ?_;obtain⟨s,h1,h2⟩:=hP (gA q 0);rw[h1];simp only[am];obtain⟨i,v,g1,g2,U⟩:=hF s h2;simp only[gA,wA,bA,jA,nth,Ag];rw[g1];simp only[am,gA,wA,bA,jA,nth,Ag];have U:=U T;refine Fv (λ_=>KX (hO _ _ _ _ _ _ _ _ _ _ _ _ _ _ _) λ_ _=>rfl) λc=> ?_;simp at c;have:=c (ai U);omega
theorem Zl5 {x:Ax3} (h:Fix p x t) (D:p.aF≠[]) (a b c o0 o1:Int) (G b1 b2:Bool) (u:Int):
  (Lo (De p t [I a,I b,I c,I o0,I o1,B G,B b1,B b2,I u])).isSome=true:=
 Z5p Zbx (λ_ L=>Q6j h L) (λu=>⟨_,Rv h.t.q u,UT h u⟩) Qm1 D a b c o0 o1 G b1 b2 u
theorem Zp2 {a b c o0 o1:Int} {G b1 b2:Bool} (D:p.aF≠[]->∀u,(M (De p t [I a,I b,I c,I o0,I o1,B G,B b1,B b2,I u])).isSome=true)
  (O:∀a b c T U V X Y x8,Out (λo=>(wA o 0).length<=4096) (Z [I a,I b,I c,I T,I U,I V,I X,I Y,I x8])) (m0 m1 m2 m3 m4 m5:Int):
  (TX M Z (Am (RX M Z)) (De p t [I a,I b,I c,I o0,I o1,B G,B b1,B b2,I m0,I m1,I m2,I m3,I m4,I m5])).isSome=true:=by
 rw[Qt9];obtain⟨o,h1,h2⟩:=O a b c m0 m1 m2 m3 m4 m5;rw[h1];simp only[am];generalize wA o 0=sp at*;refine Fv (λ_=>rfl) λ_=>Fv (λ_=>rfl) λN=> ?_;have L:p.aF≠[]:=by
  intro e;rw[e]at N;simp at N
 have D:=D L;refine KX (D _) λ_ _=>Fv (λ_=>rfl) λ_=> ?_;refine Out.is (p:=λ_=>True) ?_;refine .bind (p:=λo=>o.1=1\/o.1=2) ?_ λo g=>by rcases g with g|g<;>rw[g]<;>exact .some trivial
 refine Cd (λs:Int×Nat=>I s.1:: .vC Aa sp::I (sp.length:Int)::I (s.2:Int)::De p t [I a,I b,I c,I o0,I o1,B G,B b1,B b2]) (λs=>s.2<=sp.length) (λs=>sp.length-s.2) _ ?_ (m0,0) (by simp);rintro⟨v,i⟩ g;dsimp only at g;rw[Qtd];rw[Ad (x:=(i:Int)+1)];refine .cond (λc=> ?_) (λc=> ?_)
 ·have c:=Bg c;refine .cond (λ_=> ?_) λc=>by simp at c;omega
  refine .ibind (D _) λ_ _=> .cond (λ_=> .some (.inr ⟨by simp, .inl rfl⟩)) λ_=> ?_;exact .some (.inl ⟨rfl,(_,i+1),rfl,by dsimp only;omega,by dsimp only;omega⟩)
 ·exact .some (.inr ⟨by simp, .inr rfl⟩)
theorem Zt6 {x:Ax3} (h:Fix p x t) (a b c o0 o1:Int) (G b1 b2:Bool) (m0 m1 m2 m3 m4 m5:Int):
  (KJ (De p t [I a,I b,I c,I o0,I o1,B G,B b1,B b2,I m0,I m1,I m2,I m3,I m4,I m5])).isSome=true:=
 Zp2 (λD u=>Zl5 h D a b c o0 o1 G b1 b2 u) Q93 m0 m1 m2 m3 m4 m5
theorem Z4k (I:X<i*4294967296+A) (L:J<4294967296) (D:X=C*i+Y) (h:4294967296<=C\/Y*4294967296+J<C*A):(X*4294967296+J)/(i*4294967296+A)<C:=by
 have G:0<i*4294967296+A:=by omega
 rw[fc G];rcases h with h|h
 ·have M:4294967296*(i*4294967296+A)<=C*(i*4294967296+A):=bq _ h;omega
 ·have e:C*(i*4294967296+A)=C*i*4294967296+C*A:=by rw[Nat.mul_add,ia]
  rw[e];clear e;generalize C*i=p at*;generalize C*A=t at*;subst D;rw[i9 p Y 4294967296,jd];exact Nat.add_lt_add_left h _
theorem Qxj {a b v u q r:Nat} (G:v<a*4294967296+b) (I:v=q*a+r) (h:q*b<=r*4294967296+u):q<=(v*4294967296+u)/(a*4294967296+b):=by
 have D:0<a*4294967296+b:=by omega
 rw[Nat.le_div_iff_mul_le D];have e:q*(a*4294967296+b)=q*a*4294967296+q*b:=by rw[Nat.mul_add,ia]
 rw[e];generalize q*a=p at*;generalize q*b=t at*;omega
theorem Q0w (D:X<i*4294967296+A) (G:J<4294967296):(X*4294967296+J)/(i*4294967296+A)<4294967296:=by
 rw[fc (by omega)];omega
theorem Qpr {q b:Nat} (D:q<4294967296) (hb:b<4294967296):q*b<=18446744065119617025:=by
 have:=eg (show q<=4294967295 by omega) (show b<=4294967295 by omega);omega
theorem Vv {α:Type} {F G:Nat->Nat->Option α} {a b v u Q:Nat} (D:(v*4294967296+u)/(a*4294967296+b)=Q) (hb:b<4294967296) (Y:2147483648<=a) (L:a<4294967296) (I:v<a*4294967296+b) (O:u<4294967296) {X:α}
  (T:∀q r:Nat,q<=4294967297->r<4294967296->F q r=if 4294967296<=q\/r*4294967296+u<q*b then(if 4294967296<=r+a then G (q-1) 0 else F (q-1) (r+a))else G q 0)
  (M:G Q 0=some X):∀(k q r:Nat),q<=Q+k->Q<=q->v=q*a+r->r<4294967296->q<=4294967297->F q r=some X
 |k,q,r,hk,h1,U,h3,h4=>by
  rw[T q r h4 h3];by_cases c:4294967296<=q\/r*4294967296+u<q*b
  ·rw[ab c];have h5:=Z4k I O U c;rw[D]at h5;have e:v=(q-1)*a+(r+a):=by
    have:(q-1)*a+a=q*a:=by rw[<-iu];congr 1;omega
    omega
   by_cases V:4294967296<=r+a
   ·rw[ab V];have h6:(q-1)*b<=(r+a)*4294967296+u:=by
     have:=eg (show q-1<=4294967296 by omega) (show b<=4294967296 by omega);omega
    have N:=Qxj I e h6;rw[D]at N;rw[show q-1=Q by omega];exact M
   ·rw[aa V]
    match k with
    |0=>omega
    |k+1=>exact Vv D hb Y L I O T M k (q-1) (r+a) (by omega) (by omega) e (by omega) (by omega)
  ·rw[aa c];have N:=Qxj (u:=u) I U (by omega);rw[D]at N;rw[show q=Q by omega];exact M
theorem Q33 (hb:A<4294967296) (G:2147483648<=i) (I:X<i*4294967296+A) (L:J<4294967296):(X*4294967296+J)/(i*4294967296+A)<=X/i/\X/i<=4294967297/\X=X/i*i+X%i/\X%i<i:=by
 have e:X=X/i*i+X%i:=by have:=gf X i;rw[ff]at this;omega
 have D:X%i<i:=il _ (by omega);refine⟨?_,?_,e,D⟩
 ·rw[<-Nat.lt_succ_iff,fc (by omega)];have e2:(X/i).succ*(i*4294967296+A)=(X/i*i+i)*4294967296+(X/i).succ*A:=by rw[Nat.mul_add,<-ia,iu]
  rw[e2];omega
 ·rw[<-Nat.lt_succ_iff,fc (by omega)];omega
theorem wr {x:Nat} (h:x<=18446744073709551615):wrap .u64 (x:Int)=x:=HQ (by omega)
theorem Zxk {y s v0:Int} (hb:A<4294967296) (V:2147483648<=i) (L:i<4294967296) (Y:X<i*4294967296+A) (hu:J<4294967296):
  Am (LW M) [U y,U s,U i,U A,U X,U J,U v0,U ((X/i:Nat):Int),U ((X%i:Nat):Int)]=some (1,[U y,U s,U i,U A,U X,U J,U v0,U (((X*4294967296+J)/(i*4294967296+A):Nat):Int)]):=by
 obtain⟨f1,f2,f3,f4⟩:=Q33 hb V Y hu;refine Vv (F:=λq r=>Am (LW M) [U y,U s,U i,U A,U X,U J,U v0,U q,U r]) (G:=λq _=>some (1,[U y,U s,U i,U A,U X,U J,U v0,U q])) rfl hb V L Y hu ?_ rfl (X/i) _ _ (Nat.le_add_left _ _) f1 f3 (by omega) f2;intro q r hq hr;have w1:wrap .u64 ((r:Int)+(i:Int))=((r+i:Nat):Int):=by rw[<-gi,wr (by omega)]
 have w3:wrap .u64 (wrap .u64 (4294967296*(r:Int))+(J:Int))=((r*4294967296+J:Nat):Int):=by rw[show(4294967296:Int)*r=((r*4294967296:Nat):Int) by omega,wr (by omega),<-gi,wr (by omega)]
 have w4:4294967296<=q->wrap .u64 ((q:Int)-1)=((q-1:Nat):Int):=λh=>by rw[show(q:Int)-1=((q-1:Nat):Int) by omega,wr (by omega)]
 have D:=Znq (DU:=M) y s i A X J v0 q r;rw[w1,w3]at D;by_cases N:4294967296<=q
 ·rw[Ea (show(q:Int)>=4294967296 by omega),w4 N]at D;show _=if _ then _ else _;rw[ab (.inl N)];by_cases I:4294967296<=r+i
  ·rw[Ea (show((r+i:Nat):Int)>=4294967296 by omega)]at D;rw[ab I];exact Bn D (by simp)
  ·rw[Bc (show¬((r+i:Nat):Int)>=4294967296 by omega)]at D;rw[aa I];exact BB D
 ·have O:=Qpr (q:=q) (b:=A) (by omega) hb;rw[Bc (show¬(q:Int)>=4294967296 by omega),<-cd,wr (cb O (by decide))]at D;show _=if _ then _ else _;by_cases T:r*4294967296+J<q*A
  ·rw[Ea (show((q*A:Nat):Int)>((r*4294967296+J:Nat):Int) by omega)]at D;rw[ab (.inr T)];have a0:0<q:=by
    rcases ez q with h|h
    ·rw[h]at T;omega
    ·exact h
   rw[show(q:Int)-1=((q-1:Nat):Int) by omega,wr (by omega)]at D;by_cases I:4294967296<=r+i
   ·rw[Ea (show((r+i:Nat):Int)>=4294967296 by omega)]at D;rw[ab I];exact Bn D (by simp)
   ·rw[Bc (show¬((r+i:Nat):Int)>=4294967296 by omega)]at D;rw[aa I];exact BB D
  ·rw[Bc (show¬((q*A:Nat):Int)>((r*4294967296+J:Nat):Int) by omega)]at D;rw[aa (λh=>h.elim N T)];exact Bn D (by simp)
theorem Zvl {y s q1 w:Int} (hb:A<4294967296) (Y:2147483648<=i) (L:i<4294967296) (hU:X<i*4294967296+A) (hu:J<4294967296):
  Am (Ps M N) [U y,U s,U i,U A,U J,U q1,U ((X%i:Nat):Int),U w,U ((X/i:Nat):Int)]=some (1,[U y,U s,U J,U q1,U w,U (((X*4294967296+J)/(i*4294967296+A):Nat):Int)]):=by
 obtain⟨f1,f2,f3,f4⟩:=Q33 hb Y hU hu;refine Vv (F:=λq r=>Am (Ps M N) [U y,U s,U i,U A,U J,U q1,U r,U w,U q]) (G:=λq _=>some (1,[U y,U s,U J,U q1,U w,U q])) rfl hb Y L hU hu ?_ rfl (X/i) _ _ (Nat.le_add_left _ _) f1 f3 (by omega) f2;intro q r hq hr;have w1:wrap .u64 ((r:Int)+(i:Int))=((r+i:Nat):Int):=by rw[<-gi,wr (by omega)]
 have w3:wrap .u64 (wrap .u64 (4294967296*(r:Int))+(J:Int))=((r*4294967296+J:Nat):Int):=by rw[show(4294967296:Int)*r=((r*4294967296:Nat):Int) by omega,wr (by omega),<-gi,wr (by omega)]
 have w4:4294967296<=q->wrap .u64 ((q:Int)-1)=((q-1:Nat):Int):=λh=>by rw[show(q:Int)-1=((q-1:Nat):Int) by omega,wr (by omega)]
 have D:=Zly (DU:=M) (N17:=N) y s i A J q1 r w q;rw[w1,w3]at D;by_cases O:4294967296<=q
 ·rw[Ea (show(q:Int)>=4294967296 by omega),w4 O]at D;show _=if _ then _ else _;rw[ab (.inl O)];by_cases I:4294967296<=r+i
  ·rw[Ea (show((r+i:Nat):Int)>=4294967296 by omega)]at D;rw[ab I];exact Bn D (by simp)
  ·rw[Bc (show¬((r+i:Nat):Int)>=4294967296 by omega)]at D;rw[aa I];exact BB D
 ·have T:=Qpr (q:=q) (b:=A) (by omega) hb;rw[Bc (show¬(q:Int)>=4294967296 by omega),<-cd,wr (cb T (by decide))]at D;show _=if _ then _ else _;by_cases V:r*4294967296+J<q*A
  ·rw[Ea (show((q*A:Nat):Int)>((r*4294967296+J:Nat):Int) by omega)]at D;rw[ab (.inr V)];have a0:0<q:=by
    rcases ez q with h|h
    ·rw[h]at V;omega
    ·exact h
   rw[show(q:Int)-1=((q-1:Nat):Int) by omega,wr (by omega)]at D;by_cases I:4294967296<=r+i
   ·rw[Ea (show((r+i:Nat):Int)>=4294967296 by omega)]at D;rw[ab I];exact Bn D (by simp)
   ·rw[Bc (show¬((r+i:Nat):Int)>=4294967296 by omega)]at D;rw[aa I];exact BB D
  ·rw[Bc (show¬((q*A:Nat):Int)>((r*4294967296+J:Nat):Int) by omega)]at D;rw[aa (λh=>h.elim O V)];exact Bn D (by simp)
theorem Q1a {s:Nat} (D:s<=63):(2:Int)^min (Int.toNat (s:Int)) IntKind.u64.bits=((2^s:Nat):Int):=by
 have e:min (Int.toNat (s:Int)) IntKind.u64.bits=s:=by
  show min (Int.toNat (s:Int)) 64=s;omega
 rw[e];simp
theorem Z2t {s:Nat} (D:s<=63):(2:Int)^min (Int.toNat ((64-s:Nat):Int)) IntKind.u64.bits=((2^(64-s):Nat):Int):=by
 have e:min (Int.toNat ((64-s:Nat):Int)) IntKind.u64.bits=64-s:=by
  show min (Int.toNat ((64-s:Nat):Int)) 64=64-s;omega
 rw[e];simp
theorem Q4h (x y:Nat):((x:Int)).fdiv (y:Int)=((x/y:Nat):Int):=by
 rw[fu _ (by omega)];rfl
theorem YN (x y:Nat):((x:Int)).tdiv (y:Int)=((x/y:Nat):Int):=by
 rw[bm (by omega)];rfl
theorem orP {A B s:Nat} (hB:B<2^s) (h:A*2^s+B<w64):wrap .u64 (((BitVec.ofInt IntKind.u64.bits ((A*2^s:Nat):Int)|||BitVec.ofInt IntKind.u64.bits (B:Int)).toNat:Nat):Int)=((A*2^s+B:Nat):Int):=by
 rw[Ca]at h;have e:(BitVec.ofInt IntKind.u64.bits ((A*2^s:Nat):Int)|||BitVec.ofInt IntKind.u64.bits (B:Int)).toNat=A*2^s+B:=by
  rw[BitVec.toNat_or];have e1:∀v:Nat,v<18446744073709551616->(BitVec.ofInt IntKind.u64.bits (v:Int)).toNat=v:=by
   intro v D;simp only[IntKind.bits,j9];omega
  have:=(Nat.two_pow_add_eq_or_of_lt hB A).symm;rw[ff]at this;generalize A*2^s=X at*;rw[e1 _ (by omega),e1 _ (by omega)];exact this
 rw[e,wr (by omega)]
theorem Qz0 {v u D y:Nat} (I:y<w64) (L:D=(v*4294967296+u)/y) (G:0<y):wrap .u64 (wrap .u64 (wrap .u64 ((v:Int)*4294967296)+(u:Int))-wrap .u64 ((D:Int)*(y:Int)))=(((v*4294967296+u)%y:Nat):Int):=by
 have M:=gf (v*4294967296+u) y;have N:=il (v*4294967296+u) G;rw[<-L,ff]at M;rw[Ca]at I;rw[NI,NI,NI,NI,<-cd];generalize D*y=p at*;generalize(v*4294967296+u)%y=r at*;omega
theorem Q5t (D:0<A) (G:i<w64):wrap .u64 ((i:Int)-wrap .u64 (wrap .u64 ((i/A:Nat):Int)*(A:Int)))=((i%A:Nat):Int):=by
 have I:=gf i A;have L:=il i D;have M:=ip i A;rw[Ca]at G;rw[wr (x:=i/A) (by omega),<-cd];rw[ff]at I;generalize i/A*A=p at*;generalize i%A=r at*;rw[wr (x:=p) (by omega),show(i:Int)-(p:Int)=(r:Int) by omega,wr (by omega)]
theorem Z5u {v u1 u0 Y:Nat} (D:0<Y):(v*w64+(u1*4294967296+u0))/Y=(v*4294967296+u1)/Y*4294967296+((v*4294967296+u1)%Y*4294967296+u0)/Y/\
  (v*w64+(u1*4294967296+u0))%Y=((v*4294967296+u1)%Y*4294967296+u0)%Y:=by
 have e:v*w64+(u1*4294967296+u0)=((v*4294967296+u1)%Y*4294967296+u0)+(v*4294967296+u1)/Y*4294967296*Y:=by
  have h:=gf (v*4294967296+u1) Y;rw[ff]at h;rw[Ca];generalize(v*4294967296+u1)%Y=r at*;have e2:(v*4294967296+u1)/Y*4294967296*Y=(v*4294967296+u1)/Y*Y*4294967296:=by rw[ia,ff 4294967296,<-ia]
  rw[e2];generalize(v*4294967296+u1)/Y*Y=p at*;omega
 rw[e,Nat.add_mul_div_right _ _ D,Nat.add_mul_mod_self_right];exact⟨Nat.add_comm _ _,rfl⟩
theorem Ztp {D lo y s:Nat} (h0:0<D) (h1:D<y) (a9:y<w64) (a5:lo<w64) (hs:s<=63) (h2:9223372036854775808<=y*2^s) (G:y*2^s<w64) (hM:M [U y]=some [I s]):
  Qcj M (Am (LW M)) (Am (Ps M (Am (LW M)))) [U D,U lo,U y]=some [U (((D*w64+lo)/y:Nat):Int),U (((D*w64+lo)%y:Nat):Int)]:=by
 have hP:0<2^s:=f9 _;have a1:2^s*2^(64-s)=w64:=by rw[Ca,<-Nat.pow_add,show s+(64-s)=64 by omega]
 have hT:0<2^(64-s):=f9 _;have es:wrap .u64 (s:Int)=s:=wr (by omega);have et:wrap .u64 (64-(s:Int))=((64-s:Nat):Int):=by rw[show(64:Int)-s=((64-s:Nat):Int) by omega,wr (by omega)]
 have hB:lo/2^(64-s)<2^s:=by rw[fc hT,a1];exact a5
 have hv:D*2^s+lo/2^(64-s)<y*2^s:=by
  have:D*2^s+2^s<=y*2^s:=by rw[<-iu];exact bq _ h1
  omega
 have hN:(D*w64+lo)*2^s=(D*2^s+lo/2^(64-s))*w64+lo*2^s%w64:=by
  have e1:lo*2^s/w64=lo/2^(64-s):=by
   rw[<-a1,ff lo,Nat.mul_div_mul_left _ _ hP]
  have e2:=gf (lo*2^s) w64;rw[e1]at e2;rw[i9,i9,jd,ff (lo/2^(64-s)),e2];congr 1;rw[ia,ff w64,ia]
 have hU:lo*2^s%w64<w64:=il _ RA;have ey:wrap .u64 ((y:Int)*((2^s:Nat):Int))=((y*2^s:Nat):Int):=by rw[<-cd,wr (Nat.le_of_lt_succ (by rw[Ca]at G;exact G))]
 have eh:wrap .u64 ((D:Int)*((2^s:Nat):Int))=((D*2^s:Nat):Int):=by
  rw[<-cd,wr (Nat.le_of_lt_succ (by have:=fa h1 hP;rw[Ca]at G;exact Nat.lt_trans this G))]
 have el:wrap .u64 ((lo:Int)*((2^s:Nat):Int))=((lo*2^s%w64:Nat):Int):=by
  rw[<-cd,NI,Ca];rfl
 have eo:=orP (A:=D) (B:=lo/2^(64-s)) (s:=s) hB (by omega);have hq:(D*w64+lo)/y=(D*w64+lo)*2^s/(y*2^s):=(Nat.mul_div_mul_right _ _ hP).symm;have hr:(D*w64+lo)%y=(D*w64+lo)*2^s%(y*2^s)/2^s:=by rw[Nat.mul_mod_mul_right,Nat.mul_div_cancel _ hP]
 rw[hq,hr,hN];rw[Qx9];simp only[hM,am,HU,Mk,LP,Q2,PE,TZ,Qdu,Qch,HH,gA,jA,wA,bA,es,et,Q1a hs,Z2t hs,ey,eh,el,Q4h,eo];rw[B4 (by simp;omega),Bc (show¬(y:Int)<=D by omega),B4 (by simp;omega),Bc (show¬(s:Int)<0 by omega),Bc (show¬(s:Int)<0 by omega),Bc (show¬((64-s:Nat):Int)<0 by omega),Bc (show¬(s:Int)<0 by omega)];rw[Qyi,Q1b _ G,Qyi,Q1b _ hU];have V:y*2^s=y*2^s/4294967296*4294967296+y*2^s%4294967296:=by omega
 have hW:lo*2^s%w64=lo*2^s%w64/4294967296*4294967296+lo*2^s%w64%4294967296:=by omega
 have hb:y*2^s%4294967296<4294967296:=il _ (by omega);have a2:lo*2^s%w64%4294967296<4294967296:=il _ (by omega);have a3:lo*2^s%w64/4294967296<4294967296:=by rw[Ca]at hU⊢;omega
 have ha:2147483648<=y*2^s/4294967296:=by omega
 have a4:y*2^s/4294967296<4294967296:=by rw[Ca]at G;omega
 clear hN hq hr eh el eo ey hB;generalize D*2^s+lo/2^(64-s)=v at*;generalize lo*2^s%w64=w at*;generalize y*2^s=Y at*;generalize w/4294967296=u1 at*;generalize w%4294967296=u0 at*;generalize Y/4294967296=a at*;generalize Y%4294967296=b at*;subst hW;rw[Bc (show¬(a:Int)=0 by omega),YN,Q5t (by omega) (Nat.lt_trans hv G),wr (x:=v/a) (by have:=ip v a;rw[Ca]at G;omega)];have hl:=Zxk (M:=M) (y:=(Y:Int)) (s:=s) (v0:=u0) hb ha a4 (by rw[<-V];exact hv) a3;rw[hl];rw[<-V];have L:0<Y:=by omega
 have X:=Qz0 (v:=v) (u:=u1) (y:=Y) G rfl L;have a6:(v*4294967296+u1)/Y<4294967296:=by rw[V];exact Q0w (by rw[<-V];exact hv) a3
 have O:=il (v*4294967296+u1) L;obtain⟨k1,k2⟩:=Z5u (v:=v) (u1:=u1) (u0:=u0) L;rw[k1,k2];clear hl k1 k2;obtain⟨q1,g1⟩:∃q1,(v*4294967296+u1)/Y=q1:=⟨_,rfl⟩;obtain⟨T,g2⟩:∃T,(v*4294967296+u1)%Y=T:=⟨_,rfl⟩;rw[g1]at X a6⊢;rw[g2]at X O⊢;simp only[am,HU,Mk,LP,Q2,PE,TZ,Qdu,Qch,HH,X];rw[show Nat.beq 1 1=true from rfl,ak,Bc (show¬(a:Int)=0 by omega),YN,Q5t (by omega) (Nat.lt_trans O G),wr (x:=T/a) (by have:=ip T a;rw[Ca]at G;omega)];have a7:=Zvl (M:=M) (N:=Am (LW M)) (y:=(Y:Int)) (s:=s) (q1:=q1) (w:=T) hb ha a4 (by rw[<-V];exact O) a2;rw[a7];rw[<-V];have a0:=Qz0 (v:=T) (u:=u0) (y:=Y) G rfl L;have a8:(T*4294967296+u0)/Y<4294967296:=by rw[V];exact Q0w (by rw[<-V];exact O) a2
 obtain⟨q0,g3⟩:∃q0,(T*4294967296+u0)/Y=q0:=⟨_,rfl⟩;obtain⟨r0,g4⟩:∃r0,(T*4294967296+u0)%Y=r0:=⟨_,rfl⟩;rw[g3]at a0 a8⊢;rw[g4]at a0⊢;simp only[am,HU,Mk,LP,Q2,PE,TZ,HH,a0];rw[show Nat.beq 1 1=true from rfl,ak,Bc (show¬(s:Int)<0 by omega),Q1a hs,Q4h];have w1:wrap .u64 (wrap .u64 ((q1:Int)*4294967296)+(q0:Int))=((q1*4294967296+q0:Nat):Int):=by
  rw[show(q1:Int)*4294967296=((q1*4294967296:Nat):Int) by omega,wr (by omega),<-gi,wr (by omega)]
 rw[w1]
theorem Zsu (T:0<i) (h:i<w64):∃s:Nat,IE [U i]=some [I s]/\s<=63/\9223372036854775808<=i*2^s/\i*2^s<w64:=by
 have G:=Ca;obtain⟨b1,b2,b3⟩:=Lib.bitLenAux_bounds 64 i (by rw[<-show w64=2^64 by rw[G]];exact h) (by omega);have N:Lib.bitLen i=Lib.bitLenAux 64 i:=rfl;generalize hb:Lib.bitLenAux 64 i=L at*;have M:L<=64:=by
  by_cases c:L<=64
  ·exact c
  ·have:=Nat.pow_le_pow_right (show 0<2 by omega) (show 64<=L-1 by omega);rw[show(2:Nat)^64=18446744073709551616 from rfl]at this;omega
 refine⟨64-L,?_,by omega,?_,?_⟩
 ·unfold IE;have D:FI=18446744073709551616:=rfl;have O:inU (i:Int)=true:=by
   simp only[inU,D,aj,dl];omega
  simp only[HU,HH,gA,jA,wA,bA,O,ak,af,N];rw[show(64:Int)-(L:Int)=((64-L:Nat):Int) by omega]
 ·have e:2^(L-1)*2^(64-L)=9223372036854775808:=by rw[<-Nat.pow_add,show L-1+(64-L)=63 by omega]
  rw[<-e];exact bq _ b2
 ·have e:2^L*2^(64-L)=w64:=by rw[<-Nat.pow_add,show L+(64-L)=64 by omega,G]
  rw[<-e];exact fa b3 (f9 _)
theorem Z6n (G:i<X) (I:X<w64) (D:A<w64):GL [U i,U A,U X]=some [U (((i*w64+A)/X:Nat):Int),U (((i*w64+A)%X:Nat):Int)]:=by
 rcases ez i with h|h
 ·subst h;rw[Nat.zero_mul,fg];exact Q7f D G
 ·obtain⟨s,e,e1,e2,e3⟩:=Zsu (show 0<X by omega) I;exact Ztp h G I D e1 e2 e3 e
structure Plan3 (a b c : Int) : Prop where
 a:1<=a/\a<=65536
 b:2<=b/\b<=65536
 c:1<=c/\c<=16777216
abbrev Gy (m0 m1 m3 m4 v:Int):List AC:=[I (V (m0+v)),I v,I (V (v-m1)),I m0,I m3,I m4]
theorem Qfa (m0 m1 m2 m3 m4 m5 v:Int):Mh [I m0,I m1,I m2,I m3,I m4,I m5,I v]=some (Gy m0 m1 m3 m4 v):=by
 show Vi [I m0,I m1,I m2,I m3,I m4,I m5,I v]=some (Gy m0 m1 m3 m4 v);rw[Z28]
theorem F6 (a:AC) (l:List AC):nth .vD (a::l) 0=a:=rfl
theorem LM (a:AC) (l:List AC) (n:Nat):nth .vD (a::l) (n+1)=nth .vD l n:=rfl
theorem JB (n:Int):Ag (.int .i64 n)=n:=rfl
theorem Z6x {x:Ax3} (G:∀u,(M (pxt p x t [I u])).isSome=true) (T:0<=t.length/\t.length<=900000000000000) (D u2:Int) (U:u2-D<=1000000000000):
  (Xs M (Am (Qk4 M)) (pxt p x t [I D,I u2])).isSome=true:=by
 rw[Zq3];have L:0<=mx 0 (mn D t.length)/\mx 0 (mn D t.length)<=t.length/\mx 0 (mn u2 t.length)-mx 0 (mn D t.length)<=1000000000000/\mx 0 (mn u2 t.length)<=t.length:=by
  unfold mx mn
  (repeat' split)<;>omega
 obtain⟨V,X,Y,k4⟩:=L;generalize mx 0 (mn D t.length)=f at*;generalize mx 0 (mn u2 t.length)=e at*;refine KX (G _) λo _=> ?_;refine Out.is (p:=λ_=>True) ?_;refine .bind (p:=λo=>o.1=1) ?_ λo g=>by rw[g];exact .some trivial
 show Out _ (Am _ (.vC kPt []::I e::I f::pxt p x t [I (gA o 0),I (gA o 1),I (gA o 2)]));generalize gA o 0=w0;generalize gA o 1=N;generalize gA o 2=O;refine Cd (λs:Rw×Int×Int×Int×Int=> .vC kPt s.1::I e::I s.2.1::pxt p x t [I s.2.2.1,I s.2.2.2.1,I s.2.2.2.2]) (λs=>f<=s.2.1/\s.2.1<=t.length/\(s.1.length:Int)<=3*(s.2.1-f)) (λs=>(e-s.2.1).toNat) _ ?_ ([],f,w0,N,O) (by simp;omega);rintro⟨v,u,a0,a1,a2⟩ ⟨q1,q2,q3⟩;dsimp only at*;rw[Z83];try dsimp only[OL]
 rw[Ad (x:=u+1)];refine .cond (λc=> ?_) (λ_=> .some (.inr ⟨by simp,rfl⟩));have c:=Bg c;refine .ibind (G _) λo _=> ?_
 repeat' first
  |(refine .cond (λ_=> ?_) λc=>by rw[BF (by simp;omega)]at c;cases c)
  |refine .cond (λ_=> ?_) (λ_=> ?_)
 all_goals refine Out.some (Or.inl ⟨rfl,(_,u+1,_,_,_),rfl,by simp;omega,by show(e-(u+1)).toNat<(e-u).toNat;omega⟩)
theorem Z8q {x:Ax3} (h:Fix p x t) (D u2:Int) (G:u2-D<=1000000000000):(K6 (pxt p x t [I D,I u2])).isSome=true:=
 Z6x (λu=>by rw[P7 h u];rfl) h.t.q.len D u2 G
def BZ (k b:Int):Int:=if b<=0 then 0 else(b-1)/k*b-k*((b-1)/k*((b-1)/k+1)/2)
def Ci (j k v a:Int):Prop:= -j<=a/\a<=j/\BZ k (-a)<=v/\v<=16777216-BZ k a/\(v=0->a<=k)
instance (j k v a:Int):Decidable (Ci j k v a):=by unfold Ci;infer_instance
theorem Q3c (I:2<=k/\k<=65536) (hb:0<b/\b<=1048576):
  0<=(b-1)/k/\(b-1)/k<=524288/\k*((b-1)/k)<=b-1/\0<=(b-1)/k*b/\(b-1)/k*b<=549755813888/\0<=(b-1)/k*((b-1)/k+1)/\(b-1)/k*((b-1)/k+1)<=274878431232:=by
 have D:0<=(b-1)/k:=Int.ediv_nonneg (by omega) (by omega);have L:k*((b-1)/k)<=b-1:=Int.mul_ediv_self_le (by omega);have M:2*((b-1)/k)<=k*((b-1)/k):=ax I.1 D;have G:(b-1)/k<=524288:=by omega
 have N:(b-1)/k*b<=524288*1048576:=db G hb.2 (by omega) (by omega);have O:(b-1)/k*((b-1)/k+1)<=524288*524289:=db G (by omega) (by omega) (by omega);exact⟨D,G,L,bv D (by omega),by omega,bv D (by omega),by omega⟩
theorem Il (h:b<=0):BZ k b=0:=by simp[BZ,h]
theorem RD (h:b<=k):BZ k b=0:=by
 unfold BZ;split
 ·rfl
 ·rw[kn (by omega) (by omega)];simp
theorem Ziv (m:Int):m*(m+1)/2=(m-1)*m/2+m:=by
 have:m*(m+1)=(m-1)*m+m*2:=by
  rw[kg,jo,Int.mul_one,ex];omega
 rw[this,Int.add_mul_ediv_right _ _ (by omega)]
theorem X8 (D:0<k) (h:k<b):BZ k b=(b-k)+BZ k (b-k):=by
 have e1:(b-1)/k=(b-k-1)/k+1:=by
  have:b-1=(b-k-1)+k*1:=by omega
  rw[this,Int.add_mul_ediv_left _ _ (by omega)]
 unfold BZ;rw[aa,aa,e1];generalize(b-k-1)/k=m;rw[Ziv (m+1)];have e2:m+1-1=m:=by omega
 rw[e2,jo k,d7 m 1 b,Int.mul_sub m b k,jo k m 1,iv k m];omega
theorem Qqb {k:Int} (D:0<k):∀(n:Nat) (b:Int),b<=n->0<=BZ k b
 |0,b,h=>by rw[Il (by omega)];omega
 |n+1,b,h=>by
  by_cases hb:b<=k
  ·rw[RD hb];omega
  ·rw[X8 D (by omega)];have:=Qqb D n (b-k) (by omega);omega
theorem IZ (D:0<k):0<=BZ k b:=Qqb D b.toNat b (by omega)
theorem Qvh (D:2<=k/\k<=65536) (hb:b<=1048576):BZ k b<=549755813888:=by
 unfold BZ;split
 ·omega
 ·have p:=Q3c (k:=k) (b:=b) D ⟨by omega,hb⟩;generalize(b-1)/k=m at p⊢;obtain⟨G,I,L,M,N,O,T⟩:=p;have U:0<=k*(m*(m+1)/2):=bv (by omega) (by omega);omega
def bs (k v:Int):Nat->Int->Int->Int
 |0,low,_=>low
 |n+1,low,aY=>if low<aY then
   if BZ k (aY-(aY-low)/2)<=v-(aY-(aY-low)/2)then bs k v n (aY-(aY-low)/2) aY else bs k v n low (aY-(aY-low)/2-1)
  else low
def AJ (j k v a:Int):Int:= -(bs k v 20 (-a-k) (min (k-a) j))
theorem Qk6 (k v:Int):∀(n:Nat) (low aY:Int),low<=bs k v n low aY/\bs k v n low aY<=max low aY
 |0,low,aY=>by simp only[bs];omega
 |n+1,low,aY=>by
  unfold bs;split
  ·split
   ·have:=Qk6 k v n (aY-(aY-low)/2) aY;omega
   ·have:=Qk6 k v n low (aY-(aY-low)/2-1);omega
  ·omega
theorem Qkv (k v:Int):∀(n:Nat) (low aY:Int),low<=aY->aY-low<2^n->BZ k low<=v-low->
  BZ k (bs k v n low aY)<=v-bs k v n low aY/\low<=bs k v n low aY/\bs k v n low aY<=aY/\(bs k v n low aY=aY\/v-(bs k v n low aY+1)<BZ k (bs k v n low aY+1))
 |0,low,aY,I,M,G=>by
  simp only[bs];have:aY-low<1:=by simpa using M
  exact⟨G,by omega,I, .inl (by omega)⟩
 |n+1,low,aY,I,M,G=>by
  have N:(2:Int)^(n+1)=2*2^n:=by rw[Int.pow_succ];omega
  unfold bs;by_cases D:low<aY
  ·rw[ab D];by_cases L:BZ k (aY-(aY-low)/2)<=v-(aY-(aY-low)/2)
   ·rw[ab L];obtain⟨a,b,c,d⟩:=Qkv k v n (aY-(aY-low)/2) aY (by omega) (by omega) L;exact⟨a,by omega,c,d⟩
   ·rw[aa L];obtain⟨a,b,c,d⟩:=Qkv k v n low (aY-(aY-low)/2-1) (by omega) (by omega) G;refine⟨a,b,by omega, .inr ?_⟩;rcases d with d|d
    ·have e:bs k v n low (aY-(aY-low)/2-1)+1=aY-(aY-low)/2:=by omega
     rw[e];omega
    ·exact d
  ·rw[aa D];exact⟨G,by omega,I, .inl (by omega)⟩
theorem SH (N:Plan3 j k r) (O:Ci j k v a) {B:Int} (hB:B=bs k v 20 (-a-k) (min (k-a) j)):
  BZ k B<=v-B/\ -a-k<=B/\B<=k-a/\B<=j/\(B=min (k-a) j\/v-(B+1)<BZ k (B+1))/\0<=v:=by
 obtain⟨⟨X,Y⟩,⟨p3,p4⟩,p5,p6⟩:=N;obtain⟨h1,h2,T,h4,h5⟩:=O;have G:0<k:=by omega
 have l0:=IZ (b:= -a) G;have D:BZ k (-a-k)<=v-(-a-k):=by
  by_cases U:k< -a
  ·rw[X8 G U]at T;omega
  ·rw[Il (by omega)];omega
 obtain⟨I,L,V,M⟩:=Qkv k v 20 (-a-k) (min (k-a) j) (by omega) (by simp;omega) D;rw[<-hB]at I L V M;exact⟨I,L,by omega,by omega,M,by omega⟩
theorem closed (M:Plan3 j k r) (N:Ci j k v a):
  Ci j k (v+AJ j k v a) (AJ j k v a)/\AJ j k v a-a<=k/\a-AJ j k v a<=k/\(0<a\/(v=0/\AJ j k v a=0)\/AJ j k v a<0):=by
 obtain⟨B,hB⟩:∃B,B=bs k v 20 (-a-k) (min (k-a) j):=⟨_,rfl⟩;have hb:AJ j k v a= -B:=by unfold AJ;rw[hB]
 obtain⟨q1,q2,q3,q4,D,q6⟩:=SH M N hB;rw[hb];obtain⟨⟨p1,p2⟩,⟨p3,p4⟩,p5,p6⟩:=M;obtain⟨h1,h2,h3,h4,h5⟩:=N;have L:0<k:=by omega
 have top:B+1<=0->B=min (k-a) j:=by
  intro h;rcases D with D|D
  ·exact D
  ·rw[Il h]at D;omega
 have U: -a<=B\/0<=B:=by
  by_cases G:B+1<=0
  ·have:=top G;omega
  ·right;omega
 have I:a<=0->0<=B:=λO=>by
  by_cases G:B+1<=0
  ·have:=top G;omega
  ·omega
 have la:=IZ (b:=a) L;have V: -j<=B:=by
  by_cases G:B+1<=0
  ·have:=top G;omega
  ·omega
 have e1: -(-B)=B:=by omega
 refine⟨⟨by omega,by omega,by rw[e1];omega,?_,?_⟩,by omega,by omega,?_⟩
 ·by_cases G:0<=B
  ·rw[Il (b:= -B) (by omega)];omega
  ·have ht:=top (by omega);have X:B=k-a:=by omega
   have e2: -B=a-k:=by omega
   have hs:=X8 (k:=k) (b:=a) L (by omega);rw[e2];omega
 ·intro T;omega
 ·by_cases O:0<a
  ·exact .inl O
  ·right;have Y:=I (by omega);by_cases T:v=0
   ·left;have:=IZ (b:=B) L;exact⟨T,by omega⟩
   ·right;by_cases hz:B=0
    ·rcases D with D|D
     ·omega
     ·rw[hz,RD (k:=k) (b:=0+1) (by omega)]at D;omega
    ·omega
def Bt (j k:Int):Nat->Int->Int->List Int×Bool
 |0,v,_=>([],decide (v<=0))
 |n+1,v,a=>if v<=0 then([],true)else((v+AJ j k v a)::(Bt j k n (v+AJ j k v a) (AJ j k v a)).1,(Bt j k n (v+AJ j k v a) (AJ j k v a)).2)
theorem Q9b (j k:Int):∀(n:Nat) (v a:Int),(Bt j k n v a).2=true->Bt j k (n+1) v a=Bt j k n v a
 |0,v,a,h=>by
  have h:v<=0:=of_decide_eq_true h;unfold Bt;rw[ab h];show([],true)=([],decide (v<=0));rw[ai h]
 |n+1,v,a,h=>by
  unfold Bt at h⊢;by_cases c:v<=0
  ·rw[ab c,ab c]
  ·rw[aa c]at h;rw[aa c,aa c,Q9b j k n _ _ h]
theorem E5 (D:Plan3 j k r) (G:Ci j k v a): -65536<=a/\a<=65536/\0<=v/\v<=16777216:=by
 obtain⟨I,L,M,N,-⟩:=G;have O:=D.a;have T:=D.b
 have U:=IZ (k:=k) (b:=a) (by omega);have V:=IZ (k:=k) (b:= -a) (by omega);omega
end Go.Bm
noncomputable section
namespace Go.Bm
theorem Zbf {a k c:Int} (D:2<=k/\k<=65536) {d:Int} (M:d<=1048576):Hx [I a,I k,I c,I d]=some [I (BZ k d)]:=by
 show Qix _=_;rw[Qzb];by_cases h:d<=0
 ·rw[Cj (ai h),Il h]
 ·rw[B4 (al h),B4 (al (by omega)),B4 (al (by omega))];obtain⟨N,O,T,U,V,G,X⟩:=Q3c D (show 0<d/\d<=1048576 by omega);rw[Ad (x:=d-1),bm (show 0<=d-1 by omega)];unfold BZ;rw[aa h];have Y:0<=k*((d-1)/k*((d-1)/k+1)/2):=bv (by omega) (by omega);have L:k*((d-1)/k*((d-1)/k+1)/2)<=65536*274878431232:=db D.2 (by omega) (by omega) (by omega);generalize hq:(d-1)/k=q at*;rw[Ad (x:=q),Ad (x:=q*d),Ad (x:=q+1),Ad (x:=q*(q+1)),bm G];generalize q*(q+1)=y at*;generalize q*d=z at*;rw[Ad (x:=y/2),Ad (x:=k*(y/2)),Ad]
theorem Zhn {a k c:Int} (N:Plan3 a k c) (O:∀{d:Int},d<=1048576->M [I a,I k,I c,I d]=some [I (BZ k d)]) (v x:Int):S0 M [I a,I k,I c,I v,I x]=some [B (decide (Ci a k v x))]:=by
 have U:=N.a;have T:=N.b
 rw[Qum,Ad (x:=0-a)];refine eC (λh=> ?_) λh=> ?_
 ·have h:x<0-a:=Bg h;rw[al (λq=>by have:=q.1;omega)]
 have h: ¬x<0-a:=Bd h;refine eC (λG=> ?_) λG=> ?_
 ·have G:x>a:=Bg G;rw[al (λq=>by have:=q.2.1;omega)]
 have G: ¬x>a:=Bd G;have X:=Qvh (b:= -x) T (by omega);have Y:=Qvh (b:=x) T (by omega);have l3:=IZ (k:=k) (b:=x) (by omega);have fin: ¬(v=0/\x>k)->((M [I a,I k,I c,I (V (0-x))]).bind λo=>bif decide (v>=gA o 0)then(M [I a,I k,I c,I x]).bind λo2=>some [B (decide (v<=V (16777216-gA o2 0)))]else some [B false])=some [B (decide (Ci a k v x))]:=λhz=>by
  rw[Ad (x:=0-x),show(0:Int)-x= -x by omega];refine eB (O (by omega)) (eC (λq=> ?_) λq=> ?_)
  ·have q:v>=BZ k (-x):=Bg q;refine eB (O (by omega)) ?_;show some [B (decide (v<=V (16777216-BZ k x)))]=_;rw[Ad];have e:(v<=16777216-BZ k x)↔Ci a k v x:=⟨λe=>⟨by omega,by omega,q,e,λz=>by omega⟩,λe=>e.2.2.2.1⟩;rw[decide_eq_decide.2 e]
  ·have q: ¬v>=BZ k (-x):=Bd q;rw[al (λw=>q w.2.2.1)]
 refine eC (λD=>eC (λL=> ?_) λL=> ?_) λD=> ?_
 ·have D:v=0:=eq_of_beq D;have L:x>k:=Bg L;rw[al (λq=>by have:=q.2.2.2.2 D;omega)]
 ·exact fin λw=>Bd L w.2
 ·exact fin λw=>by rw[beT w.1]at D;cases D
theorem Q1x {a k c:Int} (D:Plan3 a k c) (v x:Int):Hn [I a,I k,I c,I v,I x]=some [B (decide (Ci a k v x))]:=Zhn D (λG=>Zbf D.b G) v x
theorem Zd4:∀(n:Nat) {low aY:Int},¬low<aY->bs k v n low aY=low
 |0,_,_,_=>rfl
 |n+1,_,_,h=>by unfold bs;rw[aa h]
theorem Z3a {M MV:Fn} {a k c v:Int} (N:∀{d:Int},d<=1048576->M [I a,I k,I c,I d]=some [I (BZ k d)]) (T: -1099511627776<=v/\v<=1099511627776):∀(n:Nat) (low aY:Int),aY-low<2^n-> -262144<=low->aY<=262144->low<=262144-> -262145<=aY->
  Am (Mt M MV) [I v,I low,I aY,I a,I k,I c]=some (1,[I (bs k v n low aY)]):=by
 have D:∀(n:Nat) {low aY:Int},¬low<aY->Am (Mt M MV) [I v,I low,I aY,I a,I k,I c]=some (1,[I (bs k v n low aY)]):=λn low aY h=>by
  rw[Zd4 n h];refine Bn ?_ (by simp);rw[Xo,B4 (al h)]
 intro n;induction n with
 |zero=>
  intro low aY h _ _ _ _;have h:aY-low<1:=by simpa using h
  exact D 0 (by omega)
 |succ n L=>
  intro low aY h U X Y h4;have O:(2:Int)^(n+1)=2*2^n:=by rw[Int.pow_succ];omega
  rw[O]at h;by_cases cc:low<aY
  ·have e1:V (aY-V ((V (aY-low)).tdiv 2))=aY-(aY-low)/2:=by
    rw[Ad (x:=aY-low),bm (show 0<=aY-low by omega),Ad (x:=(aY-low)/2),Ad]
   have e2:V (v-(aY-(aY-low)/2))=v-(aY-(aY-low)/2):=Ad;have e3:V (aY-(aY-low)/2-1)=aY-(aY-low)/2-1:=Ad;have G:=Xo M MV v low aY a k c;rw[Cj (ai cc),e1,e2,e3,N (by omega)]at G;unfold bs;rw[ab cc];by_cases q:BZ k (aY-(aY-low)/2)<=v-(aY-(aY-low)/2)
   ·rw[ab q];rw[BB (G.trans (eB rfl (eT (ai (show v-(aY-(aY-low)/2)>=BZ k (aY-(aY-low)/2)from q)) rfl)))];exact L _ _ (by omega) (by omega) (by omega) (by omega) (by omega)
   ·rw[aa q];rw[BB (G.trans (eB rfl (eF (al (show¬v-(aY-(aY-low)/2)>=BZ k (aY-(aY-low)/2)from q)) rfl)))];exact L _ _ (by omega) (by omega) (by omega) (by omega) (by omega)
  ·exact D (n+1) cc
theorem Zex {a k c v x:Int} (D:Plan3 a k c) (G:Ci a k v x) (L:∀{d:Int},d<=1048576->M [I a,I k,I c,I d]=some [I (BZ k d)]) (hV:Z [I a,I k,I c]=some [B true]):
  SW M Z (Am (Mt M Z)) [I a,I k,I c,I v,I x]=some [I (AJ a k v x)]:=by
 have N:=E5 D G;have O:=D.a;have T:=D.b
 rw[Q8s];have m1:mx x v=max x v:=by unfold mx;split<;>omega
 have m2:mn x v=min x v:=by unfold mn;split<;>omega
 rw[m1,m2];refine eB hV (eF rfl (eF (al (by omega)) (eF (al (by omega)) ?_)));have m3:mn (V (k-x)) a=min (k-x) a:=by rw[Ad (x:=k-x)];unfold mn;split<;>omega
 rw[m3,Ad (x:=0-x),Ad (x:=0-x-k),show(0:Int)-x-k= -x-k by omega];refine eB (Z3a (MV:=Z) L (by omega) 20 (-x-k) (min (k-x) a) (by simp;omega) (by omega) (by omega) (by omega) (by omega)) (eT rfl ?_);have hb:=Qk6 k v 20 (-x-k) (min (k-x) a);show some [I (V (0-bs k v 20 (-x-k) (min (k-x) a)))]=_;unfold AJ;rw[Ad,Int.zero_sub]
theorem Qx3 {a k c:Int} (D:Plan3 a k c):EZ [I a,I k,I c]=some [B true]:=by
 rw[S8,ai];exact⟨D.a.1,D.a.2,D.b.1,D.b.2,D.c.1,D.c.2⟩
theorem Qqj {a k c v x:Int} (D:Plan3 a k c) (G:Ci a k v x):F4 [I a,I k,I c,I v,I x]=some [I (AJ a k v x)]:=
 Zex D G (λL=>Zbf D.b L) (Qx3 D)
def AO (a k v x:Int):List Int×Bool:=if Ci a k v x/\(Bt a k 4096 v x).2=true then((Bt a k 4096 v x).1,true)else([],false)
theorem Zir {D MR MV:Fn} {a k c:Int} (L:Plan3 a k c) (hB:∀{v x:Int},Ci a k v x->D [I a,I k,I c,I v,I x]=some [I (AJ a k v x)]):∀(n:Nat) (pre:List Int) (v x:Int),pre.length+n=4096->Ci a k v x->
  Am (J1 D MR MV) [.vC Aa (pre.map Aj),I v,I x,I a,I k,I c]=if(Bt a k n v x).2=true then some (2,[.vC Aa ((pre++(Bt a k n v x).1).map Aj)])else some (1,[B false]):=by
 have fin:∀(n:Nat) (pre:List Int) (v x:Int),v<=0->Am (J1 D MR MV) [.vC Aa (pre.map Aj),I v,I x,I a,I k,I c]=if(Bt a k n v x).2=true then some (2,[.vC Aa ((pre++(Bt a k n v x).1).map Aj)])else some (1,[B false]):=λn pre v x h=>by
  have e:Bt a k n v x=([],true):=by
   cases n with
   |zero=>show([],decide (v<=0))=([],true);rw[ai h]
   |succ n=>unfold Bt;rw[ab h]
  rw[e,ab rfl];refine Bn ?_ (by simp);rw[Tg,B4 (al (by omega)),jb]
 intro n;induction n with
 |zero=>
  intro pre v x U G;by_cases h:v<=0
  ·exact fin 0 pre v x h
  ·have e:Bt a k 0 v x=([],false):=by show([],decide (v<=0))=([],false);rw[al h]
   rw[e,aa (by simp)];refine Bn ?_ (by simp);rw[Tg,Cj (ai (by omega)),Cj (beT (by rw[ac];omega))]
 |succ n X=>
  intro pre v x U G;by_cases h:v<=0
  ·exact fin (n+1) pre v x h
  ·have N:=closed L G;have Y:=E5 L G;have O:=E5 L N.1;have T:=Tg D MR MV (pre.map Aj) v x a k c;rw[Cj (ai (by omega)),B4 (beF (by rw[ac];omega)),hB G]at T;have hw:V (v+AJ a k v x)=v+AJ a k v x:=Ad;have M:J1 D MR MV [.vC Aa (pre.map Aj),I v,I x,I a,I k,I c]=some (0,[.vC Aa ((pre++[v+AJ a k v x]).map Aj),I (v+AJ a k v x),I (AJ a k v x),I a,I k,I c]):=by
    refine T.trans (eB rfl ?_);show cond ((List.length (pre.map Aj++[[I (V (v+AJ a k v x))]])*8).ble 140737488355328) (some (0,[AC.vC Aa (pre.map Aj++[[I (V (v+AJ a k v x))]]),I (V (v+AJ a k v x)),I (AJ a k v x),I a,I k,I c])) none=_;rw[hw,BF (by simp;omega),bt];rfl
   rw[BB M,X (pre++[v+AJ a k v x]) _ _ (by simp;omega) N.1];have e:Bt a k (n+1) v x=((v+AJ a k v x)::(Bt a k n (v+AJ a k v x) (AJ a k v x)).1,(Bt a k n (v+AJ a k v x) (AJ a k v x)).2):=by
    show(if v<=0 then _ else _)=_;rw[aa h]
   rw[e];simp only[df,az,bf]
theorem Z1q {a k c:Int} (G:Plan3 a k c) (hB:∀{v x:Int},Ci a k v x->M [I a,I k,I c,I v,I x]=some [I (AJ a k v x)]) (hV:W [I a,I k,I c]=some [B true])
  (L:∀v x,Z [I a,I k,I c,I v,I x]=some [B (decide (Ci a k v x))]) (v x:Int):
  Tt M Z W (Am (J1 M Z W)) [I a,I k,I c,I v,I x]=some [.vC Aa ((AO a k v x).1.map Aj),B (AO a k v x).2]:=by
 rw[Qqf];refine eB hV (eF rfl (eB (L v x) ?_));unfold AO;refine eC (λh=> ?_) λh=> ?_
 ·have h: ¬Ci a k v x:=by
   intro q;have h:(!decide (Ci a k v x))=true:=h;rw[ai q]at h;cases h
  rw[aa (λw=>h w.1)];rfl
 ·have h:Ci a k v x:=by
   have h:(!decide (Ci a k v x))=false:=h;by_cases q:Ci a k v x
   ·exact q
   ·rw[al q]at h;cases h
  have D:=Zir (MR:=Z) (MV:=W) G hB 4096 [] v x (by simp) h;by_cases q:(Bt a k 4096 v x).2=true
  ·rw[ab q]at D;rw[ab ⟨h,q⟩];exact eB D rfl
  ·rw[aa q]at D;rw[aa (λw=>q w.2)];exact eB D rfl
theorem Zaa {a k c:Int} (D:Plan3 a k c) (v x:Int):LN [I a,I k,I c,I v,I x]=some [.vC Aa ((AO a k v x).1.map Aj),B (AO a k v x).2]:=
 Z1q D (λG=>Qqj D G) (Qx3 D) (Q1x D) v x
def BI (u:Int):List Int->List Int
 |[]=>[]
 |v::l=>(u+v)::BI (u+v) l
def Cq (u:Int):List Int->Int
 |[]=>u
 |v::l=>Cq (u+v) l
theorem Qw0 (v:Int):∀(u:Int) (l:List Int),BI u (l++[v])=BI u l++[Cq u l+v]
 |_,[]=>rfl
 |u,w::l=>by simp only[az,BI,Cq,Qw0 v (u+w) l]
theorem Qpq (v:Int):∀(u:Int) (l:List Int),Cq u (l++[v])=Cq u l+v
 |_,[]=>rfl
 |u,w::l=>by simp only[az,Cq,Qpq v (u+w) l]
theorem Kq:∀(u:Int) (l:List Int),(BI u l).length=l.length
 |_,[]=>rfl
 |u,w::l=>by simp[BI,Kq (u+w) l]
theorem Yp:∀(u:Int) (l:List Int),l≠[]->(BI u l)[(BI u l).length-1]? =some (Cq u l)
 |u,[v],_=>rfl
 |u,v::w::l,_=>by
  have h:=Yp (u+v) (w::l) (by simp);rw[Kq]at h⊢;simpa [BI,Cq]using h
theorem Qo5 {N:Int}:∀(u:Int) (l:List Int),(∀v∈l,0<=v/\v<=N)->u<=Cq u l/\Cq u l<=u+l.length*N
 |u,[],_=>by simp[Cq]
 |u,v::l,h=>by
  have G:=h v (by simp);have I:=Qo5 (N:=N) (u+v) l λw D=>h w (by simp[D]);simp only[Cq,bp];have e:((l.length+1:Nat):Int)*N=l.length*N+N:=by
   rw[gi,d7];simp
  rw[e];omega
theorem Qz1 {a k c:Int} (D:Plan3 a k c):∀(n:Nat) (v x:Int),Ci a k v x->(Bt a k n v x).1.length<=n/\∀w∈(Bt a k n v x).1,0<=w/\w<=16777216
 |0,v,x,_=>⟨by simp[Bt],λw h=>by simp[Bt]at h⟩
 |n+1,v,x,h=>by
  have I:=closed D h;have M:=E5 D I.1;have L:=Qz1 D n _ _ I.1;unfold Bt;by_cases q:v<=0
  ·rw[ab q];exact⟨by simp,λw h=>by cases h⟩
  ·rw[aa q];refine⟨by simp only[bp];omega,λw G=> ?_⟩;rcases av.1 G with rfl|G
   ·omega
   ·exact L.2 w G
theorem PO {a k c:Int} (D:Plan3 a k c) (v x:Int):(AO a k v x).1.length<=4096/\∀w∈(AO a k v x).1,0<=w/\w<=16777216:=by
 unfold AO;split
 ·rename_i h;exact Qz1 D 4096 v x h.1
 ·exact⟨by simp,λw h=>by cases h⟩
theorem Q8c {α:Type} (l:List α) (x y:α) (r:List α):(l++x::r).set l.length y=l++y::r:=by
 rw[List.set_append_right _ _ (cm _)];simp
theorem Zwk {sp:List Int} (hu: -1000000000000000<=u/\u<=1000000000000000) (hl:sp.length<=4096) (D:∀v∈sp,0<=v/\v<=16777216):
  Am (I4 M) [.vC Aa (List.replicate sp.length [I 0]),I u, .vC Aa (sp.map Aj),I sp.length,I 0]=some (1,[.vC Aa ((BI u sp).map Aj)]):=by
 have key:Out (λo=>o=(1,[.vC Aa ((BI u sp).map Aj)])) (Am (I4 M) [.vC Aa ((BI u (sp.take 0)).map Aj++List.replicate (sp.length-0) [I 0]),I (Cq u (sp.take 0)), .vC Aa (sp.map Aj),I sp.length,I ((0:Nat):Int)]):=by
  refine Cd (λi:Nat=>[.vC Aa ((BI u (sp.take i)).map Aj++List.replicate (sp.length-i) [I 0]),I (Cq u (sp.take i)), .vC Aa (sp.map Aj),I sp.length,I (i:Int)]) (λi=>i<=sp.length) (λi=>sp.length-i) _ ?_ 0 (by simp);intro i G;rw[Q0b];refine .cond (λc=> ?_) λc=> ?_
  ·have c:(i:Int)<(sp.length:Int):=Bg c;have G:i<sp.length:=by omega
   refine .cond (λ_=> ?_) λe=>(inB (by omega) (by rw[ac];exact c) e).elim;refine .cond (λ_=> ?_) λe=>(inB (by omega) (by simp[Kq];omega) e).elim;have O:nth [] (sp.map Aj) (i:Int).toNat=Aj sp[i]:=by
    rw[af,E1 [] _ i (by rw[ac];exact G),fj]
   have T:=Qo5 (N:=16777216) u (sp.take i) λv L=>D v (dy L);rw[List.length_take_of_le (by omega)]at T;have L:=D _ (ca G);have U:sp.take (i+1)=sp.take i++[sp[i]]:=by
    rw[gv,ag G];rfl
   rw[O];show Out _ (some (0,[AC.vC Aa (((BI u (sp.take i)).map Aj++List.replicate (sp.length-i) [I 0]).set (i:Int).toNat [I (V (Cq u (sp.take i)+sp[i]))]),I (V (Cq u (sp.take i)+sp[i])), .vC Aa (sp.map Aj),I sp.length,I (V ((i:Int)+1))]));rw[Ad (x:=Cq u (sp.take i)+sp[i]),Ad (x:=(i:Int)+1),af];refine .some (.inl ⟨rfl,i+1,?_,by omega,by omega⟩);have X:((BI u (sp.take i)).map Aj).length=i:=by rw[ac,Kq,List.length_take_of_le (by omega)]
   have Y:sp.length-i=(sp.length-(i+1))+1:=by omega
   rw[U,Qw0,Qpq,Y,jh,bt];have:=Q8c ((BI u (sp.take i)).map Aj) [I 0] [I (Cq u (sp.take i)+sp[i])] (List.replicate (sp.length-(i+1)) [I 0]);rw[X]at this;rw[this];simp;rfl
  ·have c: ¬(i:Int)<(sp.length:Int):=Bd c;refine .some (.inr ⟨by simp,?_⟩);rw[jm (by omega),show sp.length-i=0 by omega];simp
 obtain⟨o,h1,rfl⟩:=key;exact h1
theorem Zqj {a k c v x:Int} (D:M [I a,I k,I c,I v,I x]=some [.vC Aa ((AO a k v x).1.map Aj),B (AO a k v x).2]) (hb:(AO a k v x).1.length<=4096/\∀w∈(AO a k v x).1,0<=w/\w<=16777216)
  {u:Int} (G: -1000000000000000<=u/\u<=1000000000000000) (L N O:Int) (T:(AO a k v x).2=false->(AO a k v x).1=[]):
  Rn M (Am (I4 M)) [I a,I k,I c,I u,I v,I x,I L,I N,I O]=some [.vC Aa ((BI u (AO a k v x).1).map Aj),B (AO a k v x).2]:=by
 rw[Qcb];generalize AO a k v x=z at*;refine eB D (eC (λh=> ?_) λh=> ?_)
 ·have h:z.2=false:=by simpa [bA,nth,Dz]using h
  rw[h,T h];rfl
 ·have h:z.2=true:=by simpa [bA,nth,Dz]using h
  refine eT (ai rfl) (eT ?_ ?_)
  ·show(decide (0<=((z.1.map Aj).length:Int))&&decide (((z.1.map Aj).length:Int)*8<=140737488355328))=true;rw[ac,ai (show(0:Int)<=(z.1.length:Int) by omega),ai (show(z.1.length:Int)*8<=140737488355328 by omega)];rfl
  ·have U:=Zwk (M:=M) G hb.1 hb.2;refine dp (iz (λq=>Option.bind q _) (show Am (I4 M) [.vC Aa (List.replicate ((z.1.map Aj).length:Int).toNat [I 0]),I u, .vC Aa (z.1.map Aj),I (z.1.map Aj).length,I 0]=some (1,[.vC Aa ((BI u z.1).map Aj)])from by rw[ac,af];exact U)) ?_;rw[h];rfl
theorem Qna {a k c:Int} (D:Plan3 a k c) {u:Int} (N: -1000000000000000<=u/\u<=1000000000000000) (v x G L M:Int):
  EA [I a,I k,I c,I u,I v,I x,I G,I L,I M]=some [.vC Aa ((BI u (AO a k v x).1).map Aj),B (AO a k v x).2]:=
 Zqj (Zaa D v x) (PO D v x) N G L M λh=>by
  unfold AO at h⊢;split at h
  ·cases h
  ·rename_i q;rw[aa q]
end Go.Bm
