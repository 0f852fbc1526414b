/- laid together -/
import Derived.Test.YtommijghjlikkaaGreatPrAtF
import Derived.Test.YtommijghjlikkaaGreatMx3
import Derived.Lib.ItoaNum
set_option linter.unusedVariables false
set_option linter.unusedSimpArgs false
set_option maxRecDepth 100000
open Go.IntKind (wrap)
namespace Go.Bm
open Classical
theorem Zic {α:Type} (d x:α) (l:List α):nth d (x::l) 40=nth d l 39:=by simp[nth]
theorem Zfi {α:Type} (d x:α) (l:List α):nth d (x::l) 41=nth d l 40:=by simp[nth]
theorem Zrh {α:Type} (d x:α) (l:List α):nth d (x::l) 42=nth d l 41:=by simp[nth]
theorem Zka {α:Type} (d x:α) (l:List α):nth d (x::l) 43=nth d l 42:=by simp[nth]
theorem Zc4 {α:Type} (d x:α) (l:List α):nth d (x::l) 44=nth d l 43:=by simp[nth]
theorem Zy0 {α:Type} (d x:α) (l:List α):nth d (x::l) 45=nth d l 44:=by simp[nth]
theorem Zon {α:Type} (d x:α) (l:List α):nth d (x::l) 46=nth d l 45:=by simp[nth]
theorem Zsl {α:Type} (d x:α) (l:List α):nth d (x::l) 47=nth d l 46:=by simp[nth]
theorem Zg8 {α:Type} (d x:α) (l:List α):nth d (x::l) 48=nth d l 47:=by simp[nth]
theorem Zr9 {α:Type} (d x:α) (l:List α):nth d (x::l) 49=nth d l 48:=by simp[nth]
theorem Zjc {α:Type} (d x:α) (l:List α):nth d (x::l) 50=nth d l 49:=by simp[nth]
theorem Z64 {α:Type} (d x:α) (l:List α):nth d (x::l) 51=nth d l 50:=by simp[nth]
theorem Zj8 {α:Type} (d x:α) (l:List α):nth d (x::l) 52=nth d l 51:=by simp[nth]
theorem Z66 {α:Type} (d x:α) (l:List α):nth d (x::l) 53=nth d l 52:=by simp[nth]
theorem Zml {α:Type} (d x:α) (l:List α):nth d (x::l) 54=nth d l 53:=by simp[nth]
theorem Z33 {α:Type} (d x:α) (l:List α):nth d (x::l) 55=nth d l 54:=by simp[nth]
attribute [go_sem] Zic Zfi Zrh Zka Zc4 Zy0 Zon Zsl Zg8 Zr9 Zjc Z64 Zj8 Z66 Zml Z33
theorem Gn (a b:Int):mn a b=min a b:=by unfold mn;rw[Int.min_def];split<;>split<;>omega
theorem LY (a b:Int):mx a b=max a b:=by unfold mx;rw[Int.max_def];split<;>split<;>omega
def SM (now a b mv:Int):Int:=if b>a then mv else if b<a then-mv else now
def DP (now a b:Pt) (mv:Int):Pt:=⟨SM now.x a.x b.x mv,SM now.y a.y b.y mv,SM now.z a.z b.z mv⟩
def slk (was dirs n v:Int):Int:=if was=dirs then v else max v n
def CQ (x:Ax3) (was dirs:Pt):Int:=slk was.z dirs.z x.c.back (slk was.y dirs.y x.b.back (slk was.x dirs.x x.a.back 0))
def pc0:Pce:=⟨0,0,0,0,⟨0,0,0⟩,⟨0,0,0⟩⟩
def Bh (l:List Pce):Pce:=l.getD (l.length-1) pc0
def Fz (t:Trk) (c:Pce):Trk:=
 if t.aE≠[]/\c.move≠0/\(Bh t.aE).move=c.move/\(Bh t.aE).dirs=c.dirs then
  {t with aE:=t.aE.set (t.aE.length-1) {Bh t.aE with units:=(Bh t.aE).units+c.units},length:=t.length+c.units}
 else{t with aE:=t.aE++[{c with at_:=t.length}],length:=t.length+c.units}
def Az (l:List Sgm) (i:Nat):Int:=AX (l.take i)
def Cx (x:Ax3) (mv:Int) (a b:Pt) (s units:Int) (st:Trk×Pt):Trk×Pt:=
 (Fz (if CQ x st.2 (DP st.2 a b mv) > 0 then Fz st.1 ⟨0, CQ x st.2 (DP st.2 a b mv), s, 0, st.2, DP st.2 a b mv⟩ else st.1)
  ⟨0,units,s,mv,DP st.2 a b mv,DP st.2 a b mv⟩,DP st.2 a b mv)
def H5 (p:Pth) (x:Ax3) (mv lo hi:Int) (i:Nat) (s:Trk×Pt):Trk×Pt:=
 if max (Az p.aF i) lo<min (Az p.aF (i+1)) hi then
  Cx x mv (Eb p.start p.aF i) (sgA p.aF i).to (if mv<0 then min (Az p.aF (i+1)) hi else max (Az p.aF i) lo) (min (Az p.aF (i+1)) hi-max (Az p.aF i) lo) s
 else s
def EA (n:Nat) (mv:Int) (j:Nat):Nat:=if mv<0 then n-1-j else j
def Ci (p:Pth) (x:Ax3) (mv lo hi:Int) (t0:Trk×Pt):Nat->Trk×Pt
 |0=>t0
 |j+1=>H5 p x mv lo hi (EA p.aF.length mv j) (Ci p x mv lo hi t0 j)
def BS (n hi:Int):Int:=max 0 (min n hi)
def ER (p:Pth) (x:Ax3) (d:Pt) (from_ to:Int):Trk:=
 let n:=AX p.aF
 let f:=BS from_ n
 let t:=BS to n
 (Ci p x (if f>t then-1 else 1) (min f t) (max f t) (⟨[],0,f,d⟩,d) p.aF.length).1
structure Ax3OK (x : Ax3) : Prop where
 a:0<=x.a.back/\x.a.back<=1000
 b:0<=x.b.back/\x.b.back<=1000
 c:0<=x.c.back/\x.c.back<=1000
theorem RU {x:Ax3} (h:Ax3OK x) (a b:Pt):0<=CQ x a b/\CQ x a b<=1000:=by
 obtain⟨h1,h2,h3⟩:=h;unfold CQ slk
 (repeat' split)<;>omega
structure TB (t : Trk) (n m : Int) : Prop where
 count:(t.aE.length:Int)<=n
 len:0<=t.length/\t.length<=m
 each:∀c∈t.aE,0<=c.units/\c.units<=t.length
theorem Q6d {l:List Pce} (h:l≠[]):Bh l∈l:=by
 have hp:0<l.length:=by cases l with
  |nil=>exact absurd rfl h
  |cons _ _=>simp
 have hlt:l.length-1<l.length:=by omega
 unfold Bh;rw[List.getD_eq_getElem?_getD,List.getElem?_eq_getElem hlt,Option.getD_some];exact List.getElem_mem _
theorem Qh0 {t:Trk} {n m:Int} (h:TB t n m) {c:Pce} {k:Int} (hc:0<=c.units/\c.units<=k):TB (Fz t c) (n+1) (m+k):=by
 obtain⟨h1,h2,h3⟩:=h;unfold Fz;by_cases g:t.aE≠[]/\c.move≠0/\(Bh t.aE).move=c.move/\(Bh t.aE).dirs=c.dirs
 ·rw[if_pos g];refine⟨by simp only[List.length_set];omega,by simp only;omega,?_⟩;intro q hq;rcases List.mem_or_eq_of_mem_set hq with hq|rfl
  ·have:=h3 q hq;simp only;omega
  ·have:=h3 _ (Q6d g.1);simp only;omega
 ·rw[if_neg g];refine⟨by simp only[List.length_append,List.length_cons,List.length_nil];omega,by simp only;omega,?_⟩;intro q hq;rcases List.mem_append.1 hq with hq|hq
  ·have:=h3 q hq;simp only;omega
  ·rw[List.mem_singleton]at hq;subst hq;simp only;omega
theorem Qvc (t:Trk) (c:Pce):(Fz t c).start=t.start/\(Fz t c).dirs=t.dirs:=by
 unfold Fz;split<;>exact⟨rfl,rfl⟩
theorem Sx (l:List Sgm):Az l 0=0:=by unfold Az;rw[List.take_zero];rfl
theorem QJ {l:List Sgm} {i:Nat} (h:i<l.length):Az l (i+1)=Az l i+(sgA l i).len:=by
 unfold Az;rw[List.take_add_one,List.getElem?_eq_getElem h,Option.toList_some,Vf,J9 h]
theorem Zag (l:List Sgm):Az l l.length=AX l:=by unfold Az;rw[List.take_length]
theorem Qkk {l:List Sgm} (h:SegOK l):∀i,i<=l.length->0<=Az l i/\Az l i<=i*268435456
 |0,_=>by rw[Sx];simp
 |i+1,hi=>by
  have:=Qkk h i (by omega);have:=h.seg _ (FE (show i<l.length by omega));rw[QJ (by omega)];omega
theorem Zdu {p:Pth} {x:Ax3} {mv lo hi:Int} {i:Nat} {s:Trk×Pt} {n m:Int} (hx:Ax3OK x) (hp:SegOK p.aF) (hi':i<p.aF.length) (h:TB s.1 n m):TB (H5 p x mv lo hi i s).1 (n+2) (m+268436456):=by
 have hl:=hp.seg _ (FE hi');have e:=QJ hi';unfold H5;by_cases c:max (Az p.aF i) lo<min (Az p.aF (i+1)) hi
 ·rw[if_pos c];unfold Cx;have hs:=RU hx s.2 (DP s.2 (Eb p.start p.aF i) (sgA p.aF i).to mv);have e1:n+2=n+1+1:=by omega
  have e2:m+268436456=m+1000+268435456:=by omega
  rw[e1,e2];refine Qh0 ?_ (by simp only;omega);by_cases c2:CQ x s.2 (DP s.2 (Eb p.start p.aF i) (sgA p.aF i).to mv)>0
  ·rw[if_pos c2];exact Qh0 h (by simp only;omega)
  ·rw[if_neg c2];exact⟨by have:=h.count;omega,by have:=h.len;omega,h.each⟩
 ·rw[if_neg c];exact⟨by have:=h.count;omega,by have:=h.len;omega,h.each⟩
theorem Vz {n j:Nat} (mv:Int) (h:j<n):EA n mv j<n:=by unfold EA;split<;>omega
theorem Qi8 {p:Pth} {x:Ax3} {mv lo hi f:Int} {d:Pt} (hx:Ax3OK x) (hp:SegOK p.aF):∀j,j<=p.aF.length->TB (Ci p x mv lo hi (⟨[],0,f,d⟩,d) j).1 (j*2) (j*268436456)
 |0,_=>⟨by simp[Ci],by simp[Ci],by simp[Ci]⟩
 |j+1,hj=>by
  have h:=Zdu (mv:=mv) (lo:=lo) (hi:=hi) hx hp (Vz mv (show j<p.aF.length by omega)) (Qi8 (mv:=mv) (lo:=lo) (hi:=hi) (f:=f) (d:=d) hx hp j (by omega));rw[Ci];have e1:((j+1:Nat):Int)*2=j*2+2:=by omega
  have e2:((j+1:Nat):Int)*268436456=j*268436456+268436456:=by omega
  rw[e1,e2];exact h
theorem Qtk {p:Pth} {x:Ax3} {mv lo hi:Int} {i:Nat} (s:Trk×Pt):(H5 p x mv lo hi i s).1.start=s.1.start/\(H5 p x mv lo hi i s).1.dirs=s.1.dirs:=by
 unfold H5;by_cases c:max (Az p.aF i) lo<min (Az p.aF (i+1)) hi
 ·rw[if_pos c];unfold Cx;simp only[Qvc];by_cases c2:CQ x s.2 (DP s.2 (Eb p.start p.aF i) (sgA p.aF i).to mv)>0
  ·rw[if_pos c2];simp only[Qvc];exact⟨trivial,trivial⟩
  ·rw[if_neg c2];exact⟨rfl,rfl⟩
 ·rw[if_neg c];exact⟨rfl,rfl⟩
end Go.Bm
namespace Go.Bm
open Classical
def ET (x:Ax3) (mv:Int) (Q:Int->Pt->Prop):Int->Int->Pt->List Pce->Prop
 |_,_,_,[]=>True
 |at_,s,d,c::l=>c.at_=at_/\c.s=s/\1<=c.units/\((c.move=mv/\c.was=c.dirs/\CQ x d c.dirs=0/\∀k,0<=k->k<c.units->Q (s+mv*k) c.dirs)\/(c.move=0/\c.was=d/\c.units=CQ x d c.dirs))/\ET x mv Q (at_+c.units) (s+c.move*c.units) c.dirs l
def Em:Int->List Pce->Int
 |a,[]=>a
 |a,c::l=>Em (a+c.units) l
def Gj:Int->List Pce->Int
 |s,[]=>s
 |s,c::l=>Gj (s+c.move*c.units) l
def H4:Pt->List Pce->Pt
 |d,[]=>d
 |_,c::l=>H4 c.dirs l
theorem Ug (c:Pce):∀(a:Int) (l:List Pce),Em a (l++[c])=Em a l+c.units
 |_,[]=>rfl
 |_,k::l=>Ug c _ l
theorem Rc (c:Pce):∀(s:Int) (l:List Pce),Gj s (l++[c])=Gj s l+c.move*c.units
 |_,[]=>rfl
 |_,k::l=>Rc c _ l
theorem S2 (c:Pce):∀(d:Pt) (l:List Pce),H4 d (l++[c])=c.dirs
 |_,[]=>rfl
 |_,k::l=>S2 c _ l
theorem RH {x:Ax3} {mv:Int} {Q:Int->Pt->Prop} {c:Pce}:∀{at_ s:Int} {d:Pt} {l:List Pce},
  ET x mv Q at_ s d (l++[c])↔ET x mv Q at_ s d l/\c.at_=Em at_ l/\c.s=Gj s l/\1<=c.units/\((c.move=mv/\c.was=c.dirs/\CQ x (H4 d l) c.dirs=0/\∀k,0<=k->k<c.units->Q (Gj s l+mv*k) c.dirs)\/(c.move=0/\c.was=H4 d l/\c.units=CQ x (H4 d l) c.dirs))
 |at_,s,d,[]=>by
  simp only[List.nil_append,ET,Em,Gj,H4,and_true,true_and]
 |at_,s,d,k::l=>by
  simp only[List.cons_append,ET,Em,Gj,H4];rw[RH];constructor
  ·rintro⟨h1,h2,h4,h5,h6,h7⟩;exact⟨⟨h1,h2,h4,h5,h6⟩,h7⟩
  ·rintro⟨⟨h1,h2,h4,h5,h6⟩,h7⟩;exact⟨h1,h2,h4,h5,h6,h7⟩
theorem Znf {l:List Pce} (h:l≠[]) (v:Pce):l.set (l.length-1) v=l.dropLast++[v]:=by
 have e:=List.dropLast_concat_getLast h;have hl:l.length-1=l.dropLast.length:=by rw[List.length_dropLast]
 conv=>lhs;arg 1;rw[<-e]
 rw[hl,List.set_append_right _ _ (Nat.le_refl _),Nat.sub_self];rfl
theorem Z2v {l:List Pce} (h:l≠[]):l.dropLast++[Bh l]=l:=by
 have e:=List.dropLast_concat_getLast h;have hp:0<l.length:=by
  cases l with
  |nil=>exact absurd rfl h
  |cons _ _=>simp
 have hlt:l.length-1<l.length:=by omega
 have hl:Bh l=l.getLast h:=by
  unfold Bh;rw[List.getD_eq_getElem?_getD,List.getElem?_eq_getElem hlt,Option.getD_some,List.getLast_eq_getElem]
 rw[hl];exact e
structure TC (x : Ax3) (mv : Int) (Q : Int -> Pt -> Prop) (t : Trk) (s : Int) (d : Pt) : Prop where
 ch:ET x mv Q 0 t.start t.dirs t.aE
 len:Em 0 t.aE=t.length
 s:Gj t.start t.aE=s
 d:H4 t.dirs t.aE=d
theorem Qn6 {x:Ax3} {mv:Int} {Q:Int->Pt->Prop} {t:Trk} {s:Int} {d:Pt} (hm:mv≠0) (h:TC x mv Q t s d) {c:Pce} (hs:c.s=s) (hu:1<=c.units)
  (hc:(c.move=mv/\c.was=c.dirs/\CQ x d c.dirs=0/\∀k,0<=k->k<c.units->Q (s+mv*k) c.dirs)\/(c.move=0/\c.was=d/\c.units=CQ x d c.dirs)):TC x mv Q (Fz t c) (s+c.move*c.units) c.dirs:=by
 obtain⟨h1,h2,h3,h4⟩:=h;unfold Fz;by_cases g:t.aE≠[]/\c.move≠0/\(Bh t.aE).move=c.move/\(Bh t.aE).dirs=c.dirs
 ·rw[if_pos g];obtain⟨g1,g2,g3,g4⟩:=g;have e:=Z2v g1;rw[Znf g1];rw[<-e]at h1 h2 h3 h4;rw[RH]at h1;rw[Ug]at h2;rw[Rc]at h3;rw[S2]at h4;generalize t.aE.dropLast=I at*;generalize Bh t.aE=L at*;obtain⟨k0,k1,k2,k4,k5⟩:=h1
  replace hc:=hc.resolve_right fun h=>g2 h.1
  replace k5:=k5.resolve_right fun h=>g2 (g3▸h.1)
  obtain⟨c1,c2,-,c3⟩:=hc;obtain⟨q1,q2,q4,q3⟩:=k5;refine⟨?_,?_,?_,?_⟩
  ·show ET x mv Q 0 t.start t.dirs (I++[_]);rw[RH];refine⟨k0,k1,k2,by simp only;omega, .inl ⟨q1,q2,q4,?_⟩⟩;intro k hk0 hk1;simp only at hk1;by_cases hlt:k<L.units
   ·exact q3 k hk0 hlt
   ·have:=c3 (k-L.units) (by omega) (by omega);rw[<-h3,q1,<-g4]at this;have ea:Gj t.start I+mv*L.units+mv*(k-L.units)=Gj t.start I+mv*k:=by rw[Int.mul_sub];omega
    rw[ea]at this;exact this
  ·show Em 0 (I++[_])=t.length+c.units;rw[Ug];simp only;omega
  ·show Gj t.start (I++[_])=s+c.move*c.units;rw[Rc];simp only;rw[g3]at h3⊢;rw[Int.mul_add];omega
  ·show H4 t.dirs (I++[_])=c.dirs;rw[S2];exact g4
 ·rw[if_neg g];refine⟨?_,?_,?_,?_⟩
  ·show ET x mv Q 0 t.start t.dirs (t.aE++[_]);rw[RH];refine⟨h1,h2.symm,by rw[h3];exact hs,hu,?_⟩;rw[h3,h4];exact hc
  ·show Em 0 (t.aE++[_])=t.length+c.units;rw[Ug,h2]
  ·show Gj t.start (t.aE++[_])=s+c.move*c.units;rw[Rc,h3]
  ·show H4 t.dirs (t.aE++[_])=c.dirs;rw[S2]
theorem Z0c (x:Ax3) (d:Pt):CQ x d d=0:=by unfold CQ slk;simp
theorem Qz8 {x:Ax3} {mv:Int} {Q:Int->Pt->Prop} {t:Trk} {s units:Int} {d a b:Pt} (hm:mv≠0) (hx:∀w d,0<=CQ x w d) (h:TC x mv Q t s d) (hu:1<=units) (hQ:∀k,0<=k->k<units->Q (s+mv*k) (DP d a b mv)):
  TC x mv Q (Cx x mv a b s units (t,d)).1 (s+mv*units) (DP d a b mv):=by
 unfold Cx;simp only;generalize DP d a b mv=nx at*;by_cases c:CQ x d nx>0
 ·rw[if_pos c];have h1:=Qn6 hm h (c:=⟨0,CQ x d nx,s,0,d,nx⟩) rfl (by simp only;omega) (.inr ⟨rfl,rfl,rfl⟩);simp only[Int.zero_mul,Int.add_zero]at h1;exact Qn6 hm h1 (c:=⟨0,units,s,mv,nx,nx⟩) rfl hu (.inl ⟨rfl,rfl,Z0c x nx,hQ⟩)
 ·rw[if_neg c];have:=hx d nx;exact Qn6 hm h (c:=⟨0,units,s,mv,nx,nx⟩) rfl hu (.inl ⟨rfl,rfl,by simp only;omega,hQ⟩)
def JO (l:List Sgm) (mv lo hi:Int) (j:Nat):Int:=if mv<0 then min (max (Az l (l.length-j)) lo) hi else min (max (Az l j) lo) hi
def Qws (p:Pth) (mv:Int) (Q:Int->Pt->Prop):Prop:=∀i,i<p.aF.length->∀(d:Pt) (s:Int),Az p.aF i<=s->s<=Az p.aF (i+1)->Az p.aF i<=s+mv->s+mv<=Az p.aF (i+1)->Q s (DP d (Eb p.start p.aF i) (sgA p.aF i).to mv)
theorem Qtw {p:Pth} {x:Ax3} {mv lo hi f:Int} {d:Pt} {Q:Int->Pt->Prop} (hv:mv=1\/mv= -1) (hx:Ax3OK x) (hp:SegOK p.aF) (hlo:0<=lo/\lo<=hi/\hi<=AX p.aF) (hf:(mv=1/\f=lo)\/(mv= -1/\f=hi)) (hQ:Qws p mv Q):
  ∀j,j<=p.aF.length->TC x mv Q (Ci p x mv lo hi (⟨[],0,f,d⟩,d) j).1 (JO p.aF mv lo hi j) (Ci p x mv lo hi (⟨[],0,f,d⟩,d) j).2
 |0,_=>by
  have hs:JO p.aF mv lo hi 0=f:=by
   unfold JO;have:=Zag p.aF;rcases hf with⟨rfl,rfl⟩|⟨rfl,rfl⟩
   ·rw[if_neg (by omega),Sx];omega
   ·rw[if_pos (by omega),Nat.sub_zero,this];omega
  rw[hs];exact⟨trivial,rfl,rfl,rfl⟩
 |j+1,hj=>by
  have ih:=Qtw hv hx hp hlo hf hQ (f:=f) (d:=d) j (by omega);have hil:=Vz mv (show j<p.aF.length by omega);have hg:=hp.seg _ (FE hil);have hsucc:=QJ hil;have hq:=hQ _ hil;rw[Ci];unfold H5;have hcase:(mv=1/\EA p.aF.length mv j=j)\/(mv= -1/\EA p.aF.length mv j=p.aF.length-1-j):=by
   unfold EA;rcases hv with rfl|rfl
   ·exact .inl ⟨rfl,if_neg (by omega)⟩
   ·exact .inr ⟨rfl,if_pos (by omega)⟩
  have hway:JO p.aF mv lo hi j=(if mv<0 then min (max (Az p.aF (EA p.aF.length mv j+1)) lo) hi else min (max (Az p.aF (EA p.aF.length mv j)) lo) hi)/\
    JO p.aF mv lo hi (j+1)=(if mv<0 then min (max (Az p.aF (EA p.aF.length mv j)) lo) hi else min (max (Az p.aF (EA p.aF.length mv j+1)) lo) hi):=by
   unfold JO;rcases hcase with⟨rfl,e⟩|⟨rfl,e⟩
   ·rw[e,if_neg (by omega),if_neg (by omega),if_neg (by omega),if_neg (by omega)];exact⟨rfl,rfl⟩
   ·rw[e,if_pos (by omega),if_pos (by omega),if_pos (by omega),if_pos (by omega),show p.aF.length-1-j+1=p.aF.length-j by omega,show p.aF.length-(j+1)=p.aF.length-1-j by omega];exact⟨rfl,rfl⟩
  rw[hway.1]at ih;rw[hway.2];generalize EA p.aF.length mv j=i at*;generalize Ci p x mv lo hi (⟨[],0,f,d⟩,d) j=w at*;obtain⟨t,dn⟩:=w;simp only at ih⊢;by_cases c:max (Az p.aF i) lo<min (Az p.aF (i+1)) hi
  ·rw[if_pos c];rcases hcase with⟨rfl,-⟩|⟨rfl,-⟩
   ·rw[if_neg (by omega)]at ih⊢;rw[if_neg (by omega)];have e1:min (max (Az p.aF i) lo) hi=max (Az p.aF i) lo:=by omega
    rw[e1]at ih;have:=Qz8 (a:=Eb p.start p.aF i) (b:=(sgA p.aF i).to) (units:=min (Az p.aF (i+1)) hi-max (Az p.aF i) lo) (by omega) (fun w d=>(RU hx w d).1) ih (by omega) (fun k h0 h1=>hq dn _ (by omega) (by omega) (by omega) (by omega));have e2:max (Az p.aF i) lo+1*(min (Az p.aF (i+1)) hi-max (Az p.aF i) lo)=min (max (Az p.aF (i+1)) lo) hi:=by omega
    rw[e2]at this;exact this
   ·rw[if_pos (by omega)]at ih⊢;rw[if_pos (by omega)];have e1:min (max (Az p.aF (i+1)) lo) hi=min (Az p.aF (i+1)) hi:=by omega
    rw[e1]at ih;have:=Qz8 (a:=Eb p.start p.aF i) (b:=(sgA p.aF i).to) (units:=min (Az p.aF (i+1)) hi-max (Az p.aF i) lo) (by omega) (fun w d=>(RU hx w d).1) ih (by omega) (fun k h0 h1=>hq dn _ (by omega) (by omega) (by omega) (by omega));have e2:min (Az p.aF (i+1)) hi+ -1*(min (Az p.aF (i+1)) hi-max (Az p.aF i) lo)=min (max (Az p.aF i) lo) hi:=by omega
    rw[e2]at this;exact this
  ·rw[if_neg c];have e:(if mv<0 then min (max (Az p.aF (i+1)) lo) hi else min (max (Az p.aF i) lo) hi)=(if mv<0 then min (max (Az p.aF i) lo) hi else min (max (Az p.aF (i+1)) lo) hi):=by
    split<;>omega
   rw[<-e];exact ih
end Go.Bm
namespace Go.Bm
open Classical
theorem Zp1 {l:List Pce} (h:l≠[]):nth [] (l.map AA) (l.length-1)=AA (Bh l):=by
 have hp:0<l.length:=by cases l with
  |nil=>exact absurd rfl h
  |cons _ _=>simp
 unfold Bh;have hlt:l.length-1<l.length:=by omega
 rw[I5 _ _ _ _ hlt,List.getD_eq_getElem?_getD,List.getElem?_eq_getElem hlt,Option.getD_some]
theorem Q12 {a b:Pt}:a=b↔a.x=b.x/\a.y=b.y/\a.z=b.z:=DS
theorem Z6s {t:Trk} {c:Pce} {n m k:Int} (h:TB t n m) (hn:n<=10000000) (hm:m<=1000000000000000000) (hk:k<=1000000000000000000) (hc:0<=c.units/\c.units<=k):
  ZO [.view Ap (t.aE.map AA),I c.at_,I c.units,I c.s,I c.move,I c.was.x,I c.was.y,I c.was.z,I c.dirs.x,I c.dirs.y,I c.dirs.z,I t.length,I t.start,I t.dirs.x,I t.dirs.y,I t.dirs.z]=some (AS (Fz t c)):=by
 obtain⟨h1,h2,h3⟩:=h;have hw:wrap .i64 (t.length+c.units)=t.length+c.units:=Ae (by omega);have hble:((t.aE.map AA++[[I t.length,I c.units,I c.s,I c.move,I c.was.x,I c.was.y,I c.was.z,I c.dirs.x,I c.dirs.y,I c.dirs.z]]).length*80).ble 140737488355328=true:=by
  rw[Nat.ble_eq,List.length_append,List.length_map];simp only[List.length_cons,List.length_nil];omega
 have hble':(t.aE.map AA++[[I t.length,I c.units,I c.s,I c.move,I c.was.x,I c.was.y,I c.was.z,I c.dirs.x,I c.dirs.y,I c.dirs.z]]).length*80<=140737488355328:=Nat.le_of_ble_eq_true hble;have happ:some [AC.view Ap (t.aE.map AA++[[I t.length,I c.units,I c.s,I c.move,I c.was.x,I c.was.y,I c.was.z,I c.dirs.x,I c.dirs.y,I c.dirs.z]]),I (t.length+c.units),I t.start,I t.dirs.x,I t.dirs.y,I t.dirs.z]=
   some (AS {t with aE:=t.aE++[{c with at_:=t.length}],length:=t.length+c.units}):=by
  simp only[AS,List.map_append,List.map_cons,List.map_nil]
 by_cases c1:t.aE=[]
 ·have hg: ¬(t.aE≠[]/\c.move≠0/\(Bh t.aE).move=c.move/\(Bh t.aE).dirs=c.dirs):=fun g=>g.1 c1;unfold Fz;rw[if_neg hg,<-happ];rw[Q8h,List.length_map,AM (by rw[c1];simp),Bi hble,hw]
 ·have hp:0<t.aE.length:=by
   cases hh:t.aE with
   |nil=>exact absurd hh c1
   |cons _ _=>simp
  have e1:wrap .i64 ((t.aE.length:Int)-1)=((t.aE.length-1:Nat):Int):=by rw[Ae (by omega)];omega
  have hin:(0:Int)<=((t.aE.length-1:Nat):Int)/\((t.aE.length-1:Nat):Int)<(t.aE.length:Int):=by omega
  have hl:=h3 _ (Q6d c1);have hw2:wrap .i64 ((Bh t.aE).units+c.units)=(Bh t.aE).units+c.units:=Ae (by omega);have hset:some [AC.view Ap ((t.aE.map AA).set (t.aE.length-1) [I (Bh t.aE).at_,I ((Bh t.aE).units+c.units),I (Bh t.aE).s,I (Bh t.aE).move,I (Bh t.aE).was.x,I (Bh t.aE).was.y,I (Bh t.aE).was.z,I (Bh t.aE).dirs.x,I (Bh t.aE).dirs.y,I (Bh t.aE).dirs.z]),I (t.length+c.units),I t.start,I t.dirs.x,I t.dirs.y,I t.dirs.z]=
   some (AS {t with aE:=t.aE.set (t.aE.length-1) {Bh t.aE with units:=(Bh t.aE).units+c.units},length:=t.length+c.units}):=by
   simp only[AS,List.map_set]
  have hr:=Zp1 c1;have main : ∀ R, R = (if c.move ≠ 0 then if (Bh t.aE).move = c.move then if (Bh t.aE).dirs.x = c.dirs.x /\ (Bh t.aE).dirs.y = c.dirs.y /\ (Bh t.aE).dirs.z = c.dirs.z then
    some (AS {t with aE:=t.aE.set (t.aE.length-1) {Bh t.aE with units:=(Bh t.aE).units+c.units},length:=t.length+c.units})
    else some (AS {t with aE:=t.aE++[{c with at_:=t.length}],length:=t.length+c.units})else some (AS {t with aE:=t.aE++[{c with at_:=t.length}],length:=t.length+c.units})else some (AS {t with aE:=t.aE++[{c with at_:=t.length}],length:=t.length+c.units}))->R=some (AS (Fz t c)):=by
   intro R hR;rw[hR];unfold Fz;by_cases g1:c.move≠0
   ·by_cases g2:(Bh t.aE).move=c.move
    ·by_cases g3:(Bh t.aE).dirs.x=c.dirs.x/\(Bh t.aE).dirs.y=c.dirs.y/\(Bh t.aE).dirs.z=c.dirs.z
     ·rw[if_pos g1,if_pos g2,if_pos g3,if_pos ⟨c1,g1,g2,Q12.2 g3⟩]
     ·rw[if_pos g1,if_pos g2,if_neg g3,if_neg fun g=>g3 (Q12.1 g.2.2.2)]
    ·rw[if_pos g1,if_neg g2,if_neg fun g=>g2 g.2.2.1]
   ·rw[if_neg g1,if_neg fun g=>g1 g.2.1]
  refine main _ ?_;rw[<-happ,<-hset];rw[Q8h,List.length_map,e1,Int.toNat_natCast,hr];simp only[go_sem,hw,hw2,if_pos hin,if_pos hble'];rw[if_pos (by omega)];simp only[and_true]
theorem Z31 (x:Ax3) (w d:Pt):Oz (AF x++[I w.x,I w.y,I w.z,I d.x,I d.y,I d.z])=some [I (CQ x w d)]:=by
 have he:=Zmc x.a.step x.a.speed x.a.accel x.a.jerk x.a.low x.a.high x.a.back x.a.origin x.a.spacing (x.a.pitch.map As) x.b.step x.b.speed x.b.accel x.b.jerk x.b.low x.b.high x.b.back x.b.origin x.b.spacing (x.b.pitch.map As) x.c.step x.c.speed x.c.accel x.c.jerk x.c.low x.c.high x.c.back x.c.origin x.c.spacing (x.c.pitch.map As) w.x w.y w.z d.x d.y d.z;unfold Oz;refine Eq.trans he ?_;unfold CQ slk;simp only[go_sem,LY]
 (repeat' split)<;>first|rfl|(exfalso;omega)
theorem Z7b (n a b:Pt) {mv:Int} (hm:mv=1\/mv= -1):OV [I n.x,I n.y,I n.z,I a.x,I a.y,I a.z,I b.x,I b.y,I b.z,I mv]=some (ptR (DP n a b mv)):=by
 unfold OV;rw[Zhn];have e:wrap .i64 (0-mv)= -mv:=by rw[Ae (by omega)];omega
 unfold DP SM;simp only[go_sem,e]
 (repeat' split)<;>first|rfl|(exfalso;omega)
theorem Qi0 {n hi:Int}:He [I n,I hi]=some [I (BS n hi)]:=by
 unfold He;rw[Z2t];simp only[Gn,LY];rfl
theorem Zsc {MU MT MA:Fn} {x:Ax3} {mv:Int} {a b:Pt} {s units:Int} {t:Trk} {now:Pt} {n m k:Int} (hx:Ax3OK x) (h:TB t n m) (hn:n<=9000000) (hm:m<=900000000000000000) (hk:k<=900000000000000000) (hu:0<=units/\units<=k)
  (hT:MT [I now.x,I now.y,I now.z,I a.x,I a.y,I a.z,I b.x,I b.y,I b.z,I mv]=some (ptR (DP now a b mv))) (hU:∀w d:Pt,MU (AF x++[I w.x,I w.y,I w.z,I d.x,I d.y,I d.z])=some [I (CQ x w d)])
  (hA : ∀ {t : Trk} {c : Pce} {n m k : Int}, TB t n m -> n <= 10000000 -> m <= 1000000000000000000 -> k <= 1000000000000000000 -> (0 <= c.units /\ c.units <= k) ->
   MA [.view Ap (t.aE.map AA),I c.at_,I c.units,I c.s,I c.move,I c.was.x,I c.was.y,I c.was.z,I c.dirs.x,I c.dirs.y,I c.dirs.z,I t.length,I t.start,I t.dirs.x,I t.dirs.y,I t.dirs.z]=some (AS (Fz t c))):
  Yn MU MT MA (.view Ap (t.aE.map AA)::I a.x::I a.y::I a.z::I b.x::I b.y::I b.z::I s::I units::I now.x::I now.y::I now.z::I mv::(AF x++[I t.length,I t.start,I t.dirs.x,I t.dirs.y,I t.dirs.z]))=
   some (.view Ap ((Cx x mv a b s units (t, now)).1.aE.map AA) :: I (Cx x mv a b s units (t, now)).2.x :: I (Cx x mv a b s units (t, now)).2.y :: I (Cx x mv a b s units (t, now)).2.z :: I mv :: (AF x ++
    [I (Cx x mv a b s units (t,now)).1.length,I (Cx x mv a b s units (t,now)).1.start,I (Cx x mv a b s units (t,now)).1.dirs.x,I (Cx x mv a b s units (t,now)).1.dirs.y,I (Cx x mv a b s units (t,now)).1.dirs.z])):=by
 have he:=Z4n MU MT MA (t.aE.map AA) a.x a.y a.z b.x b.y b.z s units now.x now.y now.z mv x.a.step x.a.speed x.a.accel x.a.jerk x.a.low x.a.high x.a.back x.a.origin x.a.spacing (x.a.pitch.map As) x.b.step x.b.speed x.b.accel x.b.jerk x.b.low x.b.high x.b.back x.b.origin x.b.spacing (x.b.pitch.map As) x.c.step x.c.speed x.c.accel x.c.jerk x.c.low x.c.high x.c.back x.c.origin x.c.spacing (x.c.pitch.map As) t.length t.start t.dirs.x t.dirs.y t.dirs.z;refine Eq.trans he ?_;have hs:=RU hx now (DP now a b mv);have hU':=hU now (DP now a b mv);simp only[AF,List.cons_append,List.nil_append]at hU'⊢;unfold Cx;simp only;generalize DP now a b mv=nx at*;simp only[hT,go_sem,hU'];by_cases c:CQ x now nx>0
 ·have h1:=hA (c:=⟨0,CQ x now nx,s,0,now,nx⟩) h (by omega) (by omega) (k:=1000) (by omega) (by simp only;omega);have hb:=Qh0 (k:=1000) h (c:=⟨0,CQ x now nx,s,0,now,nx⟩) (by simp only;omega);have h2:=hA (c:=⟨0,units,s,mv,nx,nx⟩) hb (by omega) (by omega) (k:=k) (by omega) hu;simp only at h1 h2;rw[if_pos c,if_pos c];simp only[h1,AS,go_sem,h2]
 ·have h2:=hA (c:=⟨0,units,s,mv,nx,nx⟩) h (by omega) (by omega) (k:=k) (by omega) hu;simp only at h2;rw[if_neg c,if_neg c];simp only[h2,AS,go_sem]
theorem Zbp {x:Ax3} {mv:Int} {a b:Pt} {s units:Int} {t:Trk} {now:Pt} {n m k:Int} (hv:mv=1\/mv= -1) (hx:Ax3OK x) (h:TB t n m) (hn:n<=9000000) (hm:m<=900000000000000000) (hk:k<=900000000000000000) (hu:0<=units/\units<=k):
  Fm (.view Ap (t.aE.map AA)::I a.x::I a.y::I a.z::I b.x::I b.y::I b.z::I s::I units::I now.x::I now.y::I now.z::I mv::(AF x++[I t.length,I t.start,I t.dirs.x,I t.dirs.y,I t.dirs.z]))=
   some (.view Ap ((Cx x mv a b s units (t, now)).1.aE.map AA) :: I (Cx x mv a b s units (t, now)).2.x :: I (Cx x mv a b s units (t, now)).2.y :: I (Cx x mv a b s units (t, now)).2.z :: I mv :: (AF x ++
    [I (Cx x mv a b s units (t,now)).1.length,I (Cx x mv a b s units (t,now)).1.start,I (Cx x mv a b s units (t,now)).1.dirs.x,I (Cx x mv a b s units (t,now)).1.dirs.y,I (Cx x mv a b s units (t,now)).1.dirs.z])):=
 Zsc hx h hn hm hk hu (Z7b now a b hv) (Z31 x) fun h1 h2 h3 h4 h5=>Z6s h1 h2 h3 h4 h5
end Go.Bm
namespace Go.Bm
open Classical
end Go.Bm
namespace Go.Bm
open Classical
def E8 (l:List Sgm) (j:Nat):Rw:=(List.range j).map fun i=>[I (Az l i)]
theorem Ri (l:List Sgm) (j:Nat):(E8 l j).length=j:=by simp[E8]
theorem Z17 (l:List Sgm) (j:Nat):E8 l (j+1)=E8 l j++[[I (Az l j)]]:=by unfold E8;rw[List.range_succ,List.map_append];rfl
theorem Z7r {l:List Sgm} {n i:Nat} (h:i<n):nth [] (E8 l n) i=[I (Az l i)]:=by
 have hlt:i<(E8 l n).length:=by rw[Ri];exact h
 rw[HI [] _ i hlt];simp[E8]
abbrev Qr (p:Pth) (x:Ax3) (lo hi mv:Int) (t:Trk) (now:Pt) (at_:Int) (bl:Rw) (j:Nat):List AC:=
 [.view Aa bl, .view Ap (t.aE.map AA),I lo,I hi,I mv,I at_, .view Ag (p.aF.map Au),I p.aF.length,I j,I p.start.x,I p.start.y,I p.start.z, .view Ag (p.aF.map Au), .view AD (p.aD.map At),I now.x,I now.y,I now.z,I mv,I x.a.step,I x.a.speed,I x.a.accel,I x.a.jerk,I x.a.low,I x.a.high,I x.a.back,I x.a.origin,I x.a.spacing, .view Aa (x.a.pitch.map As),I x.b.step,I x.b.speed,I x.b.accel,I x.b.jerk,I x.b.low,I x.b.high,I x.b.back,I x.b.origin,I x.b.spacing, .view Aa (x.b.pitch.map As),I x.c.step,I x.c.speed,I x.c.accel,I x.c.jerk,I x.c.low,I x.c.high,I x.c.back,I x.c.origin,I x.c.spacing, .view Aa (x.c.pitch.map As),I t.length,I t.start,I t.dirs.x,I t.dirs.y,I t.dirs.z]
theorem Q59 {M:Fn} {p:Pth} {x:Ax3} {lo hi mv:Int} {t:Trk} {now:Pt} (h:SegOK p.aF):∀(k j:Nat),j+k=p.aF.length->
  An (Ss M) (Qr p x lo hi mv t now (Az p.aF j) (E8 p.aF j) j)=some (1,[.view Aa (E8 p.aF p.aF.length), .view Ap (t.aE.map AA),I lo,I hi,I mv,I p.start.x,I p.start.y,I p.start.z, .view Ag (p.aF.map Au), .view AD (p.aD.map At),I now.x,I now.y,I now.z,I mv,I x.a.step,I x.a.speed,I x.a.accel,I x.a.jerk,I x.a.low,I x.a.high,I x.a.back,I x.a.origin,I x.a.spacing, .view Aa (x.a.pitch.map As),I x.b.step,I x.b.speed,I x.b.accel,I x.b.jerk,I x.b.low,I x.b.high,I x.b.back,I x.b.origin,I x.b.spacing, .view Aa (x.b.pitch.map As),I x.c.step,I x.c.speed,I x.c.accel,I x.c.jerk,I x.c.low,I x.c.high,I x.c.back,I x.c.origin,I x.c.spacing, .view Aa (x.c.pitch.map As),I t.length,I t.start,I t.dirs.x,I t.dirs.y,I t.dirs.z])
 |0,j,hj=>by
  have hj':j=p.aF.length:=by omega
  refine A3 (o:=(1,_)) ?_ (by simp);rw[Q1l,AM (by omega),hj']
 |k+1,j,hj=>by
  have hlt:j<p.aF.length:=by omega
  have hcnt:=h.count;have hpos:=Qkk h j (by omega);have hg:=h.seg _ (FE hlt);have hst:Ss M (Qr p x lo hi mv t now (Az p.aF j) (E8 p.aF j) j)=some (0,Qr p x lo hi mv t now (Az p.aF (j+1)) (E8 p.aF (j+1)) (j+1)):=by
   have hle:(E8 p.aF j++[[I (Az p.aF j)]]).length*8<=140737488355328:=by rw[List.length_append,Ri];simp only[List.length_cons,List.length_nil];omega
   have e1:wrap .i64 ((j:Int)+1)=((j+1:Nat):Int):=by rw[Ae (by omega)];omega
   rw[Q1l];simp only[go_sem,List.length_map,Int.toNat_natCast,HL hlt,if_pos hle,e1,Z17];rw[if_pos (by omega),if_pos (by omega),Ae (x:=Az p.aF j+(sgA p.aF j).len) (by omega),QJ hlt]
  rw[Bj hst];exact Q59 h k (j+1) (by omega)
abbrev PD (p:Pth) (x:Ax3) (lo hi mv:Int) (t:Trk) (now:Pt) (j:Nat):List AC:=
 [.view Aa (E8 p.aF p.aF.length), .view Ap (t.aE.map AA),I lo,I hi,I mv,I p.aF.length,I j,I p.start.x,I p.start.y,I p.start.z, .view Ag (p.aF.map Au), .view AD (p.aD.map At),I now.x,I now.y,I now.z,I mv,I x.a.step,I x.a.speed,I x.a.accel,I x.a.jerk,I x.a.low,I x.a.high,I x.a.back,I x.a.origin,I x.a.spacing, .view Aa (x.a.pitch.map As),I x.b.step,I x.b.speed,I x.b.accel,I x.b.jerk,I x.b.low,I x.b.high,I x.b.back,I x.b.origin,I x.b.spacing, .view Aa (x.b.pitch.map As),I x.c.step,I x.c.speed,I x.c.accel,I x.c.jerk,I x.c.low,I x.c.high,I x.c.back,I x.c.origin,I x.c.spacing, .view Aa (x.c.pitch.map As),I t.length,I t.start,I t.dirs.x,I t.dirs.y,I t.dirs.z]
abbrev FL (x:Ax3) (mv:Int) (t:Trk) (now:Pt):List AC:=[.view Ap (t.aE.map AA),I now.x,I now.y,I now.z,I mv,I x.a.step,I x.a.speed,I x.a.accel,I x.a.jerk,I x.a.low,I x.a.high,I x.a.back,I x.a.origin,I x.a.spacing, .view Aa (x.a.pitch.map As),I x.b.step,I x.b.speed,I x.b.accel,I x.b.jerk,I x.b.low,I x.b.high,I x.b.back,I x.b.origin,I x.b.spacing, .view Aa (x.b.pitch.map As),I x.c.step,I x.c.speed,I x.c.accel,I x.c.jerk,I x.c.low,I x.c.high,I x.c.back,I x.c.origin,I x.c.spacing, .view Aa (x.c.pitch.map As),I t.length,I t.start,I t.dirs.x,I t.dirs.y,I t.dirs.z]
theorem Zht {MV:Fn} {N:Lp} {p:Pth} {x:Ax3} {lo hi mv:Int} {t:Trk} {now:Pt} {n m:Int} {j:Nat} (hv:mv=1\/mv= -1) (hp:GoodPath p) (hx:Ax3OK x) (h:TB t n m) (hn:n<=9000000) (hm:m<=900000000000000000)
  (hj:j<p.aF.length)
  (hV:∀{a b:Pt} {s units:Int},(0<=units/\units<=268435456)->MV [.view Ap (t.aE.map AA),I a.x,I a.y,I a.z,I b.x,I b.y,I b.z,I s,I units,I now.x,I now.y,I now.z,I mv,I x.a.step,I x.a.speed,I x.a.accel,I x.a.jerk,I x.a.low,I x.a.high,I x.a.back,I x.a.origin,I x.a.spacing, .view Aa (x.a.pitch.map As),I x.b.step,I x.b.speed,I x.b.accel,I x.b.jerk,I x.b.low,I x.b.high,I x.b.back,I x.b.origin,I x.b.spacing, .view Aa (x.b.pitch.map As),I x.c.step,I x.c.speed,I x.c.accel,I x.c.jerk,I x.c.low,I x.c.high,I x.c.back,I x.c.origin,I x.c.spacing, .view Aa (x.c.pitch.map As),I t.length,I t.start,I t.dirs.x,I t.dirs.y,I t.dirs.z]=some (FL x mv (Cx x mv a b s units (t,now)).1 (Cx x mv a b s units (t,now)).2)):
  Uk MV N (PD p x lo hi mv t now j)=some (0,PD p x lo hi mv (H5 p x mv lo hi (EA p.aF.length mv j) (t,now)).1 (H5 p x mv lo hi (EA p.aF.length mv j) (t,now)).2 (j+1)):=by
 have hok:=hp.ok;have hcnt:=hok.count;have hil0:=Vz mv hj;have hcase:(mv=1/\EA p.aF.length mv j=j)\/(mv= -1/\EA p.aF.length mv j=p.aF.length-1-j):=by
  unfold EA;rcases hv with rfl|rfl
  ·exact .inl ⟨rfl,if_neg (by omega)⟩
  ·exact .inr ⟨rfl,if_pos (by omega)⟩
 obtain⟨i,hix⟩:∃i,EA p.aF.length mv j=i:=⟨_,rfl⟩;rw[hix]at hil0 hcase⊢;have hil:i<p.aF.length:=hil0;have hg:=hok.seg _ (FE hil);have hr:=HL hil;have hb:=Z7r (l:=p.aF) hil;have hpos:=Qkk hok i (by omega);have hsucc:=QJ hil;have hin:(0:Int)<=(i:Nat)/\(i:Int)<(p.aF.length:Int):=by omega
 have hin0:(j:Int)<(p.aF.length:Int):=by omega
 have e1:wrap .i64 ((j:Int)+1)=((j+1:Nat):Int):=by rw[Ae (by omega)];omega
 have hI:wrap .i64 (wrap .i64 ((p.aF.length:Int)-1)-(j:Int))=((p.aF.length-1-j:Nat):Int):=by rw[Ae (x:=(p.aF.length:Int)-1) (by omega),Ae (by omega)];omega
 have hw:wrap .i64 (Az p.aF i+(sgA p.aF i).len)=Az p.aF (i+1):=by rw[hsucc,Ae (by omega)]
 have hwd:max (Az p.aF i) lo<min (Az p.aF (i+1)) hi->wrap .i64 (min (Az p.aF (i+1)) hi-max (Az p.aF i) lo)=min (Az p.aF (i+1)) hi-max (Az p.aF i) lo:=fun _=>Ae (by omega);have hd:max (Az p.aF i) lo<min (Az p.aF (i+1)) hi->0<=min (Az p.aF (i+1)) hi-max (Az p.aF i) lo/\min (Az p.aF (i+1)) hi-max (Az p.aF i) lo<=268435456:=fun _=>by omega
 have hI1:i≠0->wrap .i64 ((i:Int)-1)=((i-1:Nat):Int)/\((0:Int)<=((i-1:Nat):Int)/\((i-1:Nat):Int)<(p.aF.length:Int))/\nth [] (p.aF.map Au) (i-1)=Au (sgA p.aF (i-1))/\Eb p.start p.aF i=(sgA p.aF (i-1)).to:=by
  intro h0;refine⟨by rw[Ae (by omega)];omega,by omega,HL (by omega),?_⟩;obtain⟨q,rfl⟩:∃q,i=q+1:=⟨i-1,by omega⟩;exact QA (by omega)
 unfold H5;rw[Q1e];rcases hcase with⟨rfl,rfl⟩|⟨rfl,ei⟩
 ·simp only[go_sem,List.length_map,Ri,Int.toNat_natCast,hr,hb,if_pos hin,if_pos hin0,LY,Gn,hw,e1];rw[if_neg (by omega)];by_cases c:max (Az p.aF i) lo<min (Az p.aF (i+1)) hi
  ·rw[if_neg (by omega),if_pos c,hwd c];by_cases c0:i=0
   ·rw[if_neg (by omega)];have hV':=hV (a:=p.start) (b:=(sgA p.aF i).to) (s:=max (Az p.aF i) lo) (hd c);subst c0;rw[Jq];rw[if_neg (by omega),hV'];simp only[FL,go_sem];rfl
   ·obtain⟨k1,k2,k3,k4⟩:=hI1 c0;rw[if_pos (by omega),k1];have hV':=hV (a:=(sgA p.aF (i-1)).to) (b:=(sgA p.aF i).to) (s:=max (Az p.aF i) lo) (hd c);rw[k4];simp only[Int.toNat_natCast,k3,go_sem,if_pos k2];rw[if_neg (by omega),hV'];simp only[FL,go_sem];rfl
  ·rw[if_pos (by omega),if_neg c]
 ·rw[<-ei]at hI;simp only[go_sem,List.length_map,Ri,hI,Int.toNat_natCast,hr,hb,if_pos hin,if_pos hin0,LY,Gn,hw,e1];rw[if_pos (by omega)];by_cases c:max (Az p.aF i) lo<min (Az p.aF (i+1)) hi
  ·rw[if_neg (by omega),if_pos c,hwd c];by_cases c0:i=0
   ·rw[if_neg (by omega)];have hV':=hV (a:=p.start) (b:=(sgA p.aF i).to) (s:=min (Az p.aF (i+1)) hi) (hd c);subst c0;rw[Jq];rw[if_pos (by omega),hV'];simp only[FL,go_sem];rfl
   ·obtain⟨k1,k2,k3,k4⟩:=hI1 c0;rw[if_pos (by omega),k1];have hV':=hV (a:=(sgA p.aF (i-1)).to) (b:=(sgA p.aF i).to) (s:=min (Az p.aF (i+1)) hi) (hd c);rw[k4];simp only[Int.toNat_natCast,k3,go_sem,if_pos k2];rw[if_pos (by omega),hV'];simp only[FL,go_sem];rfl
  ·rw[if_pos (by omega),if_neg c]
end Go.Bm
namespace Go.Bm
open Classical
def pcA (l:List Pce) (i:Nat):Pce:=l.getD i pc0
def eI (l:List Pce) (i:Nat):Int:=(pcA l i).at_+(pcA l i).units
def fI:List Pce->Int->Nat
 |[],_=>0
 |c::l,u=>if u<=c.at_+c.units then 0 else fI l u+1
theorem Id (c:Pce) (l:List Pce) (i:Nat):pcA (c::l) (i+1)=pcA l i:=by unfold pcA;simp
theorem KN (c:Pce) (l:List Pce):pcA (c::l) 0=c:=by unfold pcA;simp
theorem K8 {l:List Pce} {i:Nat} (h:i<l.length):nth [] (l.map AA) i=AA (pcA l i):=by
 have e:pcA l i=l[i]:=by unfold pcA;simp[h]
 rw[e];exact I5 _ _ _ _ h
theorem Py:∀{l:List Pce} {u:Int} {j:Nat},j<l.length->u<=eI l j->fI l u<=j
 |c::l,u,0,_,h=>by
  unfold eI at h;rw[KN]at h;unfold fI;rw[if_pos h];exact Nat.le_refl _
 |c::l,u,j+1,hj,h=>by
  unfold fI;by_cases c0:u<=c.at_+c.units
  ·rw[if_pos c0];omega
  ·rw[if_neg c0];have:fI l u<=j:=Py (by simpa using hj) (by unfold eI at h⊢;rw[Id]at h;exact h);omega
theorem Qi1:∀{l:List Pce} {u:Int},fI l u<l.length->u<=eI l (fI l u)
 |[],_,h=>by simp at h
 |c::l,u,h=>by
  unfold fI at h⊢;by_cases c0:u<=c.at_+c.units
  ·rw[if_pos c0];unfold eI;rw[KN];exact c0
  ·rw[if_neg c0]at h⊢;have:=Qi1 (l:=l) (u:=u) (by simpa using h);unfold eI at this⊢;rw[Id];exact this
structure TQ (t : Trk) : Prop where
 count:t.aE.length<=10000000
 len:0<=t.length/\t.length<=900000000000000
 pos:∀i,i<t.aE.length->0<=(pcA t.aE i).at_/\1<=(pcA t.aE i).units/\eI t.aE i<=t.length
 mono:∀i j,i<=j->j<t.aE.length->eI t.aE i<=eI t.aE j
 last:t.aE≠[]->eI t.aE (t.aE.length-1)=t.length
 start:0<=t.start/\t.start<=263886834032640
 s:∀i,i<t.aE.length-> -900000000000000<=(pcA t.aE i).s/\(pcA t.aE i).s<=2000000000000000
 move:∀i,i<t.aE.length->(pcA t.aE i).move=0\/(pcA t.aE i).move=1\/(pcA t.aE i).move= -1
def clT (t:Trk) (u:Int):Int:=BS u t.length
theorem N_ {t:Trk} (h:TQ t) (u:Int):0<=clT t u/\clT t u<=t.length:=by have:=h.len;unfold clT BS;omega
def iT (t:Trk) (u:Int):Nat:=fI t.aE (clT t u)
theorem Jl {t:Trk} (h:TQ t) (u:Int) (hne:t.aE≠[]):iT t u<t.aE.length:=by
 have hp:0<t.aE.length:=by
  cases hh:t.aE with
  |nil=>exact absurd hh hne
  |cons _ _=>simp
 have:=Py (l:=t.aE) (u:=clT t u) (j:=t.aE.length-1) (by omega) (by rw[h.last hne];exact(N_ h u).2);unfold iT;omega
def Be (t:Trk) (u:Int):Int:=if t.aE=[]then t.start else(pcA t.aE (iT t u)).s+(pcA t.aE (iT t u)).move*(clT t u-(pcA t.aE (iT t u)).at_)
theorem Qua {t:Trk} (h:TQ t) {u:Int}:∀(k j:Nat),j+k=t.aE.length->j<=fI t.aE u->fI t.aE u<t.aE.length->
  An TK [I u, .view Ap (t.aE.map AA),I t.aE.length,I j]=some (1,[I (fI t.aE u),I u])
 |0,j,hj,h1,h2=>by omega
 |k+1,j,hj,h1,h2=>by
  have hlt:j<t.aE.length:=by omega
  have hcnt:=h.count;have hin:(0:Int)<=(j:Int)/\(j:Int)<(t.aE.length:Int):=by omega
  have hpos:=h.pos j hlt;have hl:=h.len;have hw:wrap .i64 ((pcA t.aE j).at_+(pcA t.aE j).units)=eI t.aE j:=by unfold eI at hpos⊢;exact Ae (by omega)
  have hst:TK [I u, .view Ap (t.aE.map AA),I t.aE.length,I j]=if u<=eI t.aE j then some (1,[I j,I u])else some (0,[I u, .view Ap (t.aE.map AA),I t.aE.length,I (j+1:Nat)]):=by
   rw[Qwq];simp only[go_sem,List.length_map,Int.toNat_natCast,K8 hlt,if_pos hin,hw,Ae (x:=(j:Int)+1) (by omega)];rw[if_pos (by omega)];rfl
  by_cases c:u<=eI t.aE j
  ·rw[if_pos c]at hst;have:=Py hlt c;rw[A3 hst (by simp),show fI t.aE u=j by omega]
  ·rw[if_neg c]at hst;have:fI t.aE u≠j:=fun e=>c (by have:=Qi1 h2;rw[e]at this;exact this);rw[Bj hst];exact Qua h k (j+1) (by omega) (by omega) h2
theorem Qu4 {t:Trk} (h:TQ t) (u:Int):IL (AS t++[I u])=some [I (if t.aE=[]then-1 else(iT t u:Int)),I (clT t u)]:=by
 have he:=Z15 Md (t.aE.map AA) t.length t.start t.dirs.x t.dirs.y t.dirs.z u;unfold IL;refine Eq.trans he ?_;have ec:mn (mx u 0) t.length=clT t u:=by have:=h.len;rw[Gn,LY];unfold clT BS;omega
 rw[ec,List.length_map];by_cases c:t.aE=[]
 ·have hl:Md [I (clT t u), .view Ap (t.aE.map AA),I t.aE.length,I 0]=some (2,[I (clT t u)]):=by
   refine A3 (o:=(2,_)) ?_ (by simp);rw[Qwq,c,AM (by simp)]
  rw[if_pos c];generalize Md=N at*;simp only[hl,go_sem];rfl
 ·have hi:=Jl h u c;have hl:=Qua h (u:=clT t u) t.aE.length 0 (by omega) (by omega) hi;have hl':Md [I (clT t u), .view Ap (t.aE.map AA),I t.aE.length,I 0]=some (1,[I (iT t u:Int),I (clT t u)]):=hl;rw[if_neg c];generalize Md=N at*;simp only[hl',go_sem]
theorem X7 {t:Trk} (h:TQ t) {u:Int} (hi:fI t.aE u<t.aE.length):∀(k lo hi:Nat),hi-lo<=k->lo<=fI t.aE u->fI t.aE u<=hi->hi<t.aE.length->
  An TN [I u,I lo,I hi, .view Ap (t.aE.map AA),I t.length,I t.start,I t.dirs.x,I t.dirs.y,I t.dirs.z]=some (1,[I (fI t.aE u)])
 |k,lo,hi,hk,h1,h2,h3=>by
  have hcnt:=h.count;have hl:=h.len;by_cases c:lo<hi
  ·have em:wrap .i64 ((wrap .i64 ((lo:Int)+hi)).tdiv 2)=(((lo+hi)/2:Nat):Int):=by
    rw[Ae (x:=(lo:Int)+hi) (by omega),Int.tdiv_eq_ediv_of_nonneg (by omega),Ae (by omega)];omega
   have hm1:lo<=(lo+hi)/2/\(lo+hi)/2<hi:=by omega
   generalize(lo+hi)/2=m at*;have hlt:m<t.aE.length:=by omega
   have hpos:=h.pos m hlt;have hin:(0:Int)<=(m:Int)/\(m:Int)<(t.aE.length:Int):=by omega
   have hw:wrap .i64 ((pcA t.aE m).at_+(pcA t.aE m).units)=eI t.aE m:=by unfold eI at hpos⊢;exact Ae (by omega)
   have hst:TN [I u,I lo,I hi, .view Ap (t.aE.map AA),I t.length,I t.start,I t.dirs.x,I t.dirs.y,I t.dirs.z]=if u<=eI t.aE m then some (0,[I u,I lo,I m, .view Ap (t.aE.map AA),I t.length,I t.start,I t.dirs.x,I t.dirs.y,I t.dirs.z])else some (0,[I u,I (m+1:Nat),I hi, .view Ap (t.aE.map AA),I t.length,I t.start,I t.dirs.x,I t.dirs.y,I t.dirs.z]):=by
    rw[ZJ,em];simp only[go_sem,List.length_map,Int.toNat_natCast,K8 hlt,if_pos hin,hw,Ae (x:=(m:Int)+1) (by omega)];rw[if_pos (by omega)];rfl
   by_cases c2:u<=eI t.aE m
   ·rw[if_pos c2]at hst;rw[Bj hst];cases k with
    |zero=>omega
    |succ k=>exact X7 h (by omega) k lo m (by omega) h1 (Py hlt c2) hlt
   ·rw[if_neg c2]at hst;rw[Bj hst];have hgt:m<fI t.aE u:=by
     by_cases c3:fI t.aE u<=m
     ·exact absurd (Int.le_trans (Qi1 (by omega)) (h.mono _ _ c3 hlt)) c2
     ·omega
    cases k with
    |zero=>omega
    |succ k=>exact X7 h (by omega) k (m+1) hi (by omega) (by omega) h2 h3
  ·refine A3 (o:=(1,_)) ?_ (by simp);rw[ZJ,AM (by omega),show fI t.aE u=hi by omega]
theorem Q68 {t:Trk} (h:TQ t) (u:Int):Jb (AS t++[I (clT t u)])=some [I (if t.aE=[]then-1 else(iT t u:Int))]:=by
 have he:=Zda L6 (t.aE.map AA) t.length t.start t.dirs.x t.dirs.y t.dirs.z (clT t u);unfold Jb;refine Eq.trans he ?_;rw[List.length_map];have hcnt:=h.count;by_cases c:t.aE=[]
 ·have hl:L6 [I (clT t u),I 0,I (-1), .view Ap (t.aE.map AA),I t.length,I t.start,I t.dirs.x,I t.dirs.y,I t.dirs.z]=some (1,[I (-1)]):=by
   refine A3 (o:=(1,_)) ?_ (by simp);rw[ZJ,AM (by omega)]
  have e1:wrap .i64 ((t.aE.length:Int)-1)= -1:=by rw[c];rfl
  rw[if_pos c,e1];generalize L6=N at*;simp only[hl,go_sem]
 ·have hp:0<t.aE.length:=by
   cases hh:t.aE with
   |nil=>exact absurd hh c
   |cons _ _=>simp
  have hi:=Jl h u c;have hl:=X7 h (u:=clT t u) hi t.aE.length 0 (t.aE.length-1) (by omega) (by omega) (by unfold iT at hi;omega) (by omega);have hl':L6 [I (clT t u),I 0,I (t.aE.length-1:Nat), .view Ap (t.aE.map AA),I t.length,I t.start,I t.dirs.x,I t.dirs.y,I t.dirs.z]=some (1,[I (iT t u:Int)]):=hl;have e1:wrap .i64 ((t.aE.length:Int)-1)=((t.aE.length-1:Nat):Int):=by rw[Ae (by omega)];omega
  rw[if_neg c,e1];generalize L6=N at*;simp only[hl',go_sem]
theorem Qsf {t:Trk} (h:TQ t) (u:Int) (hne:t.aE≠[]):
  wrap .i64 ((pcA t.aE (iT t u)).s+wrap .i64 ((pcA t.aE (iT t u)).move*wrap .i64 (clT t u-(pcA t.aE (iT t u)).at_)))=Be t u:=by
 have hi:=Jl h u hne;have h1:=h.pos _ hi;have h2:=h.s _ hi;have h3:=h.move _ hi;have h4:=N_ h u;have h5:=h.len;unfold Be eI at*;rw[if_neg hne,Ae (x:=clT t u-_) (by omega)];generalize pcA t.aE (iT t u)=c at*;have hb:(-900000000000000<=c.move*(clT t u-c.at_)/\c.move*(clT t u-c.at_)<=900000000000000):=by
  rcases h3 with h3|h3|h3<;>rw[h3]<;>omega
 rw[Ae (x:=c.move*_) (by omega),Ae (by omega)]
theorem Zpr {M:Fn} {t:Trk} (h:TQ t) {u:Int} (hM:M (AS t++[I u])=some [I (if t.aE=[]then-1 else(iT t u:Int)),I (clT t u)]):Qgt M (AS t++[I u])=some [I (Be t u)]:=by
 have he:=Zhr M (t.aE.map AA) t.length t.start t.dirs.x t.dirs.y t.dirs.z u;refine Eq.trans he ?_;simp only[AS,List.cons_append,List.nil_append]at hM;by_cases c:t.aE=[]
 ·rw[if_pos c]at hM;simp only[hM,go_sem];rw[if_pos (by omega)];unfold Be;rw[if_pos c]
 ·have hi:=Jl h u c;have hcnt:=h.count;have hin:(0:Int)<=(iT t u:Int)/\(iT t u:Int)<(t.aE.length:Int):=by omega
  rw[if_neg c]at hM;simp only[hM,go_sem,List.length_map,if_pos hin,Int.toNat_natCast,K8 hi,Qsf h u c];rw[if_neg (by omega)]
theorem Zle {t:Trk} (h:TQ t) (u:Int):Pf (AS t++[I u])=some [I (Be t u)]:=Zpr h (Qu4 h u)
theorem Zye {MF MC:Fn} {t:Trk} (h:TQ t) {u:Int} (hC:MC [I u,I t.length]=some [I (clT t u)]) (hM:MF (AS t++[I (clT t u)])=some [I (if t.aE=[]then-1 else(iT t u:Int))]):Qcj MF MC (AS t++[I u])=some [I (Be t u)]:=by
 have he:=Zzt MF MC (t.aE.map AA) t.length t.start t.dirs.x t.dirs.y t.dirs.z u;refine Eq.trans he ?_;simp only[AS,List.cons_append,List.nil_append]at hM;by_cases c:t.aE=[]
 ·rw[if_pos c]at hM;simp only[hC,hM,go_sem];rw[if_pos (by omega)];unfold Be;rw[if_pos c]
 ·have hi:=Jl h u c;have hcnt:=h.count;have hin:(0:Int)<=(iT t u:Int)/\(iT t u:Int)<(t.aE.length:Int):=by omega
  rw[if_neg c]at hM;simp only[hC,hM,go_sem,List.length_map,if_pos hin,Int.toNat_natCast,K8 hi,Qsf h u c];rw[if_neg (by omega)]
theorem S8 {t:Trk} (h:TQ t) (u:Int):Ev (AS t++[I u])=some [I (Be t u)]:=Zye h Qi0 (Q68 h u)
end Go.Bm
namespace Go.Bm
open Classical
def HW (sp:Int) (l:List Int):Prop:=(∀v∈l,-4096<=v/\v<=4096)/\∀i,i+1<l.length-> -sp<=4*(l.getD (i+1) 0-l.getD i 0)/\4*(l.getD (i+1) 0-l.getD i 0)<=sp
structure AxOK (a : Axs) : Prop where
 step:4<=a.step/\a.step<=64
 back:0<=a.back/\a.back<=6
 origin: -200<=a.origin/\a.origin<=200
 spacing:a.pitch≠[]->4<=a.spacing/\a.spacing<=123
 pitch:HW a.spacing a.pitch
 count:a.pitch.length<=4
 lim:1<=a.speed/\a.speed<=1000/\2<=a.accel/\a.accel<=1000/\4<=a.jerk/\a.jerk<=1000/\a.low= -16777216/\a.high=16777216
theorem Uj {l m:List Int} {i:Nat} (h:i<l.length):(l++m).getD i 0=l.getD i 0:=by simp[List.getD_eq_getElem?_getD,List.getElem?_append_left h]
theorem Zqw (l m:List Int) (v:Int):(l++v::m).getD l.length 0=v:=by simp[List.getD_eq_getElem?_getD]
theorem Z6b {sp v w:Int} {l:List Int} (h:HW sp (l++[v])) (hw: -4096<=w/\w<=4096) (hd: -sp<=4*(w-v)/\4*(w-v)<=sp):HW sp (l++[v]++[w]):=by
 refine⟨?_,?_⟩
 ·intro x hx;rcases List.mem_append.1 hx with hx|hx
  ·exact h.1 x hx
  ·rw[List.mem_singleton]at hx;subst hx;exact hw
 ·intro i hi;simp only[List.length_append,List.length_cons,List.length_nil]at hi;by_cases c:i+1<(l++[v]).length
  ·have:=h.2 i c;have c':i<(l++[v]).length:=by omega
   rw[Uj c,Uj c'];exact this
  ·simp only[List.length_append,List.length_cons,List.length_nil]at c;have e:i=l.length:=by omega
   subst e;have g1:(l++[v]++[w]).getD (l.length+1) 0=w:=by
    simp
   have g2:(l++[v]++[w]).getD l.length 0=v:=by
    rw[List.append_assoc];exact Zqw l ([]++[w]) v
   rw[g1,g2];exact hd
theorem Zyg {sp v:Int} {l:List Int} (h:HW sp (l++[v])):HW sp l:=by
 refine⟨fun x hx=>h.1 x (by simp[hx]),fun i hi=> ?_⟩;have:=h.2 i (by simp;omega);rw[Uj hi,Uj (by omega)]at this;exact this
theorem Zlh {sp v:Int} (hv: -4096<=v/\v<=4096):HW sp ([]++[v]):=⟨fun x hx=>by simp at hx;subst hx;exact hv,fun i hi=>by simp at hi⟩
theorem Zyl {v:Int} (h:0<=v/\v<6):∃x,Af (nth .dead (nth [] [[I 8],[I 4],[I 5],[I 16],[I 23],[I 64]] v.toNat) 0)=x/\4<=x/\x<=64:=by
 have hc:v=0\/v=1\/v=2\/v=3\/v=4\/v=5:=by omega
 rcases hc with rfl|rfl|rfl|rfl|rfl|rfl<;>exact⟨_,rfl,by decide⟩
theorem Qmp {v:Int} (h:0<=v/\v<5):∃x y z,Af (nth .dead (nth [] [[I 40],[I 1],[I 3],[I 9],[I 1000]] v.toNat) 0)=x/\Af (nth .dead (nth [] [[I 20],[I 2],[I 3],[I 5],[I 1000]] v.toNat) 0)=y/\Af (nth .dead (nth [] [[I 30],[I 4],[I 5],[I 8],[I 1000]] v.toNat) 0)=z/\1<=x/\x<=1000/\2<=y/\y<=1000/\4<=z/\z<=1000:=by
 have hc:v=0\/v=1\/v=2\/v=3\/v=4:=by omega
 rcases hc with rfl|rfl|rfl|rfl|rfl<;>exact⟨_,_,_,rfl,rfl,rfl,by decide⟩
theorem Zip {v:Int} (h:0<=v/\v<4):∃x,Af (nth .dead (nth [] [[I 0],[I 1],[I 3],[I 6]] v.toNat) 0)=x/\0<=x/\x<=6:=by
 have hc:v=0\/v=1\/v=2\/v=3:=by omega
 rcases hc with rfl|rfl|rfl|rfl<;>exact⟨_,rfl,by decide⟩
abbrev axS (l:Rw) (pit:List Int) (n v:Int) (j:Nat) (a:Axs) (k:Nat):List AC:=
 [.view Aa [], .view Aa (pit.map As),I n,I v,I j,I 0,I 0,I 0,I 0,I 0,I 0,I 0,I 0,I 0,I a.step,I a.speed,I a.accel,I a.jerk,I a.low,I a.high,I a.back,I a.origin,I a.spacing, .view Aa l,I k]
theorem Qt1 {MN:Fn} {l:Rw} (hN:GK l MN) {a:Axs} (hsp:4<=a.spacing/\a.spacing<=123):∀(r j:Nat) (pit:List Int) (v:Int) (k:Nat),j+r<=4->pit.length=j->HW a.spacing (pit++[v])->
  ∃(pit':List Int) (k':Nat),An (Ti MN) (axS l pit (j+r:Nat) v j a k)=some (1,[.view Aa [], .view Aa (pit'.map As),I 0,I 0,I 0,I 0,I 0,I 0,I 0,I 0,I 0,I a.step,I a.speed,I a.accel,I a.jerk,I a.low,I a.high,I a.back,I a.origin,I a.spacing, .view Aa l,I k'])/\pit'.length=j+r/\HW a.spacing pit'
 |0,j,pit,v,k,_,hl,h=>by
  refine⟨pit,k,A3 (o:=(1,_)) ?_ (by simp),by omega,Zyg h⟩;rw[Q5y,AM (by omega)]
 |r+1,j,pit,v,k,hj,hl,h=>by
  have hv:=h.1 v (by simp);have e4:wrap .i64 (a.spacing.tdiv 4)=a.spacing/4:=by rw[Int.tdiv_eq_ediv_of_nonneg (by omega),Ae (by omega)]
  have e5:wrap .i64 (wrap .i64 (2*(a.spacing/4))+1)=2*(a.spacing/4)+1:=by rw[Ae (x:=2*(a.spacing/4)) (by omega),Ae (by omega)]
  obtain⟨w,k1,hw,w0,w1,-⟩:=hN k (n:=2*(a.spacing/4)+1) (by omega);have e6:wrap .i64 (wrap .i64 (v+w)-a.spacing/4)=v+w-a.spacing/4:=by rw[Ae (x:=v+w) (by omega),Ae (by omega)]
  have hle:(pit.map As++[[I v]]).length*8<=140737488355328:=by rw[List.length_append,List.length_map];simp only[List.length_cons,List.length_nil];omega
  have hst:Ti MN (axS l pit (j+(r+1):Nat) v j a k)=some (0,axS l (pit++[v]) (j+1+r:Nat) (min (max (v+w-a.spacing/4) (-4096)) 4096) (j+1) a k1):=by
   rw[Q5y];simp only[go_sem,if_pos hle,e4,e5,hw,e6,Gn,LY];rw[if_pos (by omega),Ae (x:=(j:Int)+1) (by omega),show j+(r+1)=j+1+r by omega];simp only[axS,List.map_append,List.map_cons,List.map_nil,As,Int.natCast_add,Int.cast_ofNat_Int]
  rw[Bj hst];obtain⟨p',k',h1,h2,h3⟩:=Qt1 hN hsp r (j+1) (pit++[v]) (min (max (v+w-a.spacing/4) (-4096)) 4096) k1 (by omega) (by simp[hl]) (Z6b h (by omega) (by omega));exact⟨p',k',h1,by omega,h3⟩
theorem Z37 {MN:Fn} {N:Lp} {l:Rw} (hN:GK l MN)
  (hL:∀{a:Axs} {n:Nat} {v:Int} {k:Nat},(4<=a.spacing/\a.spacing<=123)->n<=4->HW a.spacing ([]++[v])->∃(pit':List Int) (k':Nat),N (axS l [] n v 0 a k)=some (1,[.view Aa [], .view Aa (pit'.map As),I 0,I 0,I 0,I 0,I 0,I 0,I 0,I 0,I 0,I a.step,I a.speed,I a.accel,I a.jerk,I a.low,I a.high,I a.back,I a.origin,I a.spacing, .view Aa l,I k'])/\pit'.length=n/\HW a.spacing pit') (k:Nat):
  ∃(a:Axs) (k':Nat),Qh3 MN N [.view Aa l,I k]=some (AJ a++[.view Aa l,I k'])/\AxOK a:=by
 obtain⟨v1,k1,h1,a1,b1,-⟩:=hN k (n:=6) (by omega);obtain⟨v2,k2,h2,a2,b2,-⟩:=hN k1 (n:=4) (by omega);obtain⟨v3,k3,h3,a3,b3,-⟩:=hN k2 (n:=5) (by omega);obtain⟨v4,k4,h4,a4,b4,-⟩:=hN k3 (n:=5) (by omega);obtain⟨v5,k5,h5,a5,b5,-⟩:=hN k4 (n:=5) (by omega);obtain⟨v6,k6,h6,a6,b6,-⟩:=hN k5 (n:=5) (by omega);obtain⟨v7,k7,h7,a7,b7,-⟩:=hN k6 (n:=400) (by omega);obtain⟨v8,k8,h8,a8,b8,-⟩:=hN k7 (n:=120) (by omega);obtain⟨v9,k9,h9,a9,b9,-⟩:=hN k8 (n:=9) (by omega);obtain⟨x1,e1,s1⟩:=Zyl ⟨a1,b1⟩;obtain⟨x2,e2,s2⟩:=Zip ⟨a2,b2⟩;have i1:(0:Int)<=v1/\v1<(([[I 8],[I 4],[I 5],[I 16],[I 23],[I 64]]:Rw).length:Int):=⟨a1,by simp;omega⟩;have i2:(0:Int)<=v2/\v2<(([[I 0],[I 1],[I 3],[I 6]]:Rw).length:Int):=⟨a2,by simp;omega⟩;have i3:(0:Int)<=v3/\v3<(([[I 40],[I 1],[I 3],[I 9],[I 1000]]:Rw).length:Int):=⟨a3,by simp;omega⟩;have i4:(0:Int)<=v4/\v4<(([[I 20],[I 2],[I 3],[I 5],[I 1000]]:Rw).length:Int):=⟨a4,by simp;omega⟩;have i5:(0:Int)<=v5/\v5<(([[I 30],[I 4],[I 5],[I 8],[I 1000]]:Rw).length:Int):=⟨a5,by simp;omega⟩;obtain⟨x3,_,_,hx3,-,-,s3,t3,-⟩:=Qmp ⟨a3,b3⟩;obtain⟨_,x4,_,-,hx4,-,-,-,s4,t4,-⟩:=Qmp ⟨a4,b4⟩;obtain⟨_,_,x5,-,-,hx5,-,-,-,-,s5,t5⟩:=Qmp ⟨a5,b5⟩;have main : ∀ R, R = (if v6 = 0 then some [I x1, I x3, I x4, I x5, I (-16777216), I 16777216, I x2, I 0, I 0, .view Aa [], .view Aa l, I k6] else
   (N (axS l [] v6.toNat (v9-4) 0 ⟨x1,x3,x4,x5,-16777216,16777216,x2,v7-200,4+v8,[]⟩ k9)).bind fun o=>if o.1=1 then some [I (Af (nth .dead o.2 11)),I (Af (nth .dead o.2 12)),I (Af (nth .dead o.2 13)),I (Af (nth .dead o.2 14)),I (Af (nth .dead o.2 15)),I (Af (nth .dead o.2 16)),I (Af (nth .dead o.2 17)),I (Af (nth .dead o.2 18)),I (Af (nth .dead o.2 19)), .view Aa (BI (nth .dead o.2 1)), .view Aa (BI (nth .dead o.2 20)),I (Af (nth .dead o.2 21))]else none)->
   ∃(a:Axs) (k':Nat),R=some (AJ a++[.view Aa l,I k'])/\AxOK a:=by
  intro R hR;by_cases c:v6=0
  ·rw[if_pos c]at hR;refine⟨⟨x1,x3,x4,x5,-16777216,16777216,x2,0,0,[]⟩,k6,hR,?_⟩;exact⟨s1,s2,by simp,fun h=>absurd rfl h,⟨by simp,by simp⟩,by simp,⟨s3,t3,s4,t4,s5,t5,rfl,rfl⟩⟩
  ·rw[if_neg c]at hR;obtain⟨pit,k',g1,g2,g3⟩:=hL (a:=⟨x1,x3,x4,x5,-16777216,16777216,x2,v7-200,4+v8,[]⟩) (n:=v6.toNat) (v:=v9-4) (k:=k9) (by simp only;omega) (by omega) (Zlh (by omega));rw[g1]at hR;refine⟨⟨x1,x3,x4,x5,-16777216,16777216,x2,v7-200,4+v8,pit⟩,k',?_,?_⟩
   ·rw[hR];simp only[go_sem];try rfl
   ·exact⟨s1,s2,by simp only;omega,fun _=>by simp only;omega,g3,by simp only;omega,⟨s3,t3,s4,t4,s5,t5,rfl,rfl⟩⟩
 refine main _ ?_;rw[Z1t];simp only[go_sem,h1,h2,h3,h4,h5,h6,if_pos i1,if_pos i2,if_pos i3,if_pos i4,if_pos i5,e1,e2,hx3,hx4,hx5];by_cases c:v6=0
 ·rw[if_pos c,if_pos c]
 ·rw[if_neg c,if_neg c];simp only[h7,h8,h9,go_sem,Ae (x:=v9-4) (by omega),Ae (x:=v7-200) (by omega),Ae (x:=4+v8) (by omega)];have e:((v6.toNat:Nat):Int)=v6:=by omega
  simp only[axS,e,List.map_nil];rfl
theorem Qeb {l:Rw} (hl:Src l) (k:Nat):∃(a:Axs) (k':Nat),Nm [.view Aa l,I k]=some (AJ a++[.view Aa l,I k'])/\AxOK a:=by
 refine Z37 (N:=Qg1) (Hv hl) (fun{a n v k} hs hn hv=> ?_) k;obtain⟨p,k',h1,h2,h3⟩:=Qt1 (MN:=Bv) (Hv hl) hs n 0 [] v k (by omega) rfl hv;rw[Nat.zero_add]at h1 h2;exact⟨p,k',h1,h2,h3⟩
structure Ax3M (x : Ax3) : Prop where
 a:AxOK x.a
 b:AxOK x.b
 c:AxOK x.c
theorem Ax3M.ok {x:Ax3} (h:Ax3M x):Ax3OK x:=⟨by have:=h.a.back;omega,by have:=h.b.back;omega,by have:=h.c.back;omega⟩
theorem Z0j {l:Rw} (hl:Src l):∃x:Ax3,NE [.view Aa l]=some (AF x)/\Ax3M x:=by
 obtain⟨a,k1,h1,g1⟩:=Qeb hl 0;obtain⟨b,k2,h2,g2⟩:=Qeb hl k1;obtain⟨c,k3,h3,g3⟩:=Qeb hl k2;refine⟨⟨a,b,c⟩,?_,g1,g2,g3⟩;have hf:=Qv l;unfold NE;generalize Nm=MA at*;generalize Co=MF at*;rw[Zy4];have h1':MA [.view Aa l,I 0]=some (AJ a++[.view Aa l,I k1]):=h1;simp only[AJ,List.cons_append,List.nil_append]at h1' h2 h3;simp only[go_sem,hf,h1',h2,h3]
end Go.Bm
namespace Go.Bm
open Classical
theorem Z1j {p:Pth} {x:Ax3} {mv lo hi f:Int} {d:Pt} (j:Nat):(Ci p x mv lo hi (⟨[],0,f,d⟩,d) j).1.start=f/\(Ci p x mv lo hi (⟨[],0,f,d⟩,d) j).1.dirs=d:=by
 induction j with
 |zero=>exact⟨rfl,rfl⟩
 |succ j ih=>rw[Ci,(Qtk _).1,(Qtk _).2];exact ih
theorem Quq {p:Pth} {x:Ax3} {lo hi mv f:Int} {d:Pt} (hv:mv=1\/mv= -1) (hp:GoodPath p) (hx:Ax3OK x):∀(k j:Nat),j+k=p.aF.length->∀w,w=Ci p x mv lo hi (⟨[],0,f,d⟩,d) j->
  An (Uk Fm Mi) (PD p x lo hi mv w.1 w.2 j)=some (1,FL x mv (Ci p x mv lo hi (⟨[],0,f,d⟩,d) p.aF.length).1 (Ci p x mv lo hi (⟨[],0,f,d⟩,d) p.aF.length).2)
 |0,j,hj,w,hw=>by
  have hj':j=p.aF.length:=by omega
  refine A3 (o:=(1,_)) ?_ (by simp);rw[Q1e,AM (by omega),hw,hj']
 |k+1,j,hj,w,hw=>by
  have hcnt:=hp.count;have hb:=Qi8 (mv:=mv) (lo:=lo) (hi:=hi) (f:=f) (d:=d) hx hp.ok j (by omega);rw[<-hw]at hb;have hst:=Zht (MV:=Fm) (N:=Mi) (lo:=lo) (hi:=hi) (now:=w.2) (j:=j) hv hp hx hb (by omega) (by omega) (by omega) (fun{a b s units} hu=>Zbp hv hx hb (by omega) (by omega) (k:=268435456) (by omega) hu);rw[Bj hst];exact Quq hv hp hx k (j+1) (by omega) _ (by rw[Ci,<-hw])
theorem Ztq {MV:Fn} {N4 N10:Lp} {p:Pth} {x:Ax3} {lo hi mv f:Int} {d:Pt}
  (h4:N4 (Qr p x lo hi mv ⟨[],0,f,d⟩ d 0 [] 0)=some (1,[.view Aa (E8 p.aF p.aF.length), .view Ap [],I lo,I hi,I mv,I p.start.x,I p.start.y,I p.start.z, .view Ag (p.aF.map Au), .view AD (p.aD.map At),I d.x,I d.y,I d.z,I mv,I x.a.step,I x.a.speed,I x.a.accel,I x.a.jerk,I x.a.low,I x.a.high,I x.a.back,I x.a.origin,I x.a.spacing, .view Aa (x.a.pitch.map As),I x.b.step,I x.b.speed,I x.b.accel,I x.b.jerk,I x.b.low,I x.b.high,I x.b.back,I x.b.origin,I x.b.spacing, .view Aa (x.b.pitch.map As),I x.c.step,I x.c.speed,I x.c.accel,I x.c.jerk,I x.c.low,I x.c.high,I x.c.back,I x.c.origin,I x.c.spacing, .view Aa (x.c.pitch.map As),I 0,I f,I d.x,I d.y,I d.z]))
  (h10:N10 (PD p x lo hi mv ⟨[],0,f,d⟩ d 0)=some (1,FL x mv (Ci p x mv lo hi (⟨[],0,f,d⟩,d) p.aF.length).1 (Ci p x mv lo hi (⟨[],0,f,d⟩,d) p.aF.length).2)):
  Qdj MV N4 N10 [.view Ap [],I p.start.x,I p.start.y,I p.start.z, .view Ag (p.aF.map Au), .view AD (p.aD.map At),I lo,I hi,I mv,I d.x,I d.y,I d.z,I mv,I x.a.step,I x.a.speed,I x.a.accel,I x.a.jerk,I x.a.low,I x.a.high,I x.a.back,I x.a.origin,I x.a.spacing, .view Aa (x.a.pitch.map As),I x.b.step,I x.b.speed,I x.b.accel,I x.b.jerk,I x.b.low,I x.b.high,I x.b.back,I x.b.origin,I x.b.spacing, .view Aa (x.b.pitch.map As),I x.c.step,I x.c.speed,I x.c.accel,I x.c.jerk,I x.c.low,I x.c.high,I x.c.back,I x.c.origin,I x.c.spacing, .view Aa (x.c.pitch.map As),I 0,I f,I d.x,I d.y,I d.z]=some (FL x mv (Ci p x mv lo hi (⟨[],0,f,d⟩,d) p.aF.length).1 (Ci p x mv lo hi (⟨[],0,f,d⟩,d) p.aF.length).2):=by
 rw[Zn2];simp only[Qr,List.map_nil,Int.cast_ofNat_Int]at h4;simp only[PD,FL,List.map_nil,Int.cast_ofNat_Int]at h10;simp only[go_sem,List.length_map,h4,h10]
theorem Zb6 {p:Pth} {x:Ax3} {lo hi mv f:Int} {d:Pt} (hv:mv=1\/mv= -1) (hp:GoodPath p) (hx:Ax3OK x):
  QG [.view Ap [],I p.start.x,I p.start.y,I p.start.z, .view Ag (p.aF.map Au), .view AD (p.aD.map At),I lo,I hi,I mv,I d.x,I d.y,I d.z,I mv,I x.a.step,I x.a.speed,I x.a.accel,I x.a.jerk,I x.a.low,I x.a.high,I x.a.back,I x.a.origin,I x.a.spacing, .view Aa (x.a.pitch.map As),I x.b.step,I x.b.speed,I x.b.accel,I x.b.jerk,I x.b.low,I x.b.high,I x.b.back,I x.b.origin,I x.b.spacing, .view Aa (x.b.pitch.map As),I x.c.step,I x.c.speed,I x.c.accel,I x.c.jerk,I x.c.low,I x.c.high,I x.c.back,I x.c.origin,I x.c.spacing, .view Aa (x.c.pitch.map As),I 0,I f,I d.x,I d.y,I d.z]=some (FL x mv (Ci p x mv lo hi (⟨[],0,f,d⟩,d) p.aF.length).1 (Ci p x mv lo hi (⟨[],0,f,d⟩,d) p.aF.length).2):=by
 refine Ztq (MV:=Fm) (N4:=Mi) (N10:=Qbb) ?_ (Quq hv hp hx p.aF.length 0 (by omega) _ rfl);have h:=Q59 (M:=Fm) (x:=x) (lo:=lo) (hi:=hi) (mv:=mv) (t:=⟨[],0,f,d⟩) (now:=d) hp.ok p.aF.length 0 (by omega);rw[Sx]at h;exact h
theorem Zsn {ME M2 M1 MC ML:Fn} {p:Pth} {x:Ax3} {d:Pt} {from_ to:Int} (hL:ML (AH p)=some [I (AX p.aF)]) (hC:∀n h:Int,MC [I n,I h]=some [I (BS n h)])
  (hE:∀{lo hi mv f:Int},(mv=1\/mv= -1)->ME [.view Ap [],I p.start.x,I p.start.y,I p.start.z, .view Ag (p.aF.map Au), .view AD (p.aD.map At),I lo,I hi,I mv,I d.x,I d.y,I d.z,I mv,I x.a.step,I x.a.speed,I x.a.accel,I x.a.jerk,I x.a.low,I x.a.high,I x.a.back,I x.a.origin,I x.a.spacing, .view Aa (x.a.pitch.map As),I x.b.step,I x.b.speed,I x.b.accel,I x.b.jerk,I x.b.low,I x.b.high,I x.b.back,I x.b.origin,I x.b.spacing, .view Aa (x.b.pitch.map As),I x.c.step,I x.c.speed,I x.c.accel,I x.c.jerk,I x.c.low,I x.c.high,I x.c.back,I x.c.origin,I x.c.spacing, .view Aa (x.c.pitch.map As),I 0,I f,I d.x,I d.y,I d.z]=some (FL x mv (Ci p x mv lo hi (⟨[],0,f,d⟩,d) p.aF.length).1 (Ci p x mv lo hi (⟨[],0,f,d⟩,d) p.aF.length).2)):
  Qcy ME M2 M1 MC ML (AH p++AF x++[I d.x,I d.y,I d.z,I from_,I to])=some (AS (ER p x d from_ to)):=by
 have he:=Zee ME M2 M1 MC ML p.start.x p.start.y p.start.z (p.aF.map Au) (p.aD.map At) x.a.step x.a.speed x.a.accel x.a.jerk x.a.low x.a.high x.a.back x.a.origin x.a.spacing (x.a.pitch.map As) x.b.step x.b.speed x.b.accel x.b.jerk x.b.low x.b.high x.b.back x.b.origin x.b.spacing (x.b.pitch.map As) x.c.step x.c.speed x.c.accel x.c.jerk x.c.low x.c.high x.c.back x.c.origin x.c.spacing (x.c.pitch.map As) d.x d.y d.z from_ to;refine Eq.trans he ?_;unfold ER;simp only[AH]at hL;simp only[hL,hC,go_sem,Gn,LY];generalize BS from_ (AX p.aF)=f at*;generalize BS to (AX p.aF)=t at*;by_cases c:t<f
 ·have h:=hE (lo:=min f t) (hi:=max f t) (mv:= -1) (f:=f) (.inr rfl);simp only[FL]at h;simp only[h,go_sem,c,if_true]
 ·have h:=hE (lo:=min f t) (hi:=max f t) (mv:=1) (f:=f) (.inl rfl);simp only[FL]at h;simp only[h,go_sem,c,if_false]
theorem Zvg {p:Pth} {x:Ax3} {d:Pt} {from_ to:Int} (hp:GoodPath p) (hx:Ax3OK x):Pn (AH p++AF x++[I d.x,I d.y,I d.z,I from_,I to])=some (AS (ER p x d from_ to)):=
 Zsn (Q7l hp.ok) (fun _ _=>Qi0) fun hv=>Zb6 hv hp hx
theorem Zxz {p:Pth} {x:Ax3} (d:Pt) (a b:Int) (hp:GoodPath p) (hx:Ax3OK x):(ER p x d a b).aE.length<=10000000/\0<=(ER p x d a b).length/\(ER p x d a b).length<=900000000000000:=by
 have hc:=hp.count;have h:=Qi8 (mv:=if BS a (AX p.aF)>BS b (AX p.aF)then-1 else 1) (lo:=min (BS a (AX p.aF)) (BS b (AX p.aF))) (hi:=max (BS a (AX p.aF)) (BS b (AX p.aF))) (f:=BS a (AX p.aF)) (d:=d) hx hp.ok p.aF.length (Nat.le_refl _);obtain⟨h1,h2,-⟩:=h;unfold ER;simp only;refine⟨by omega,by omega,by omega⟩
end Go.Bm
namespace Go.Bm
open Classical
theorem Qzf {x:Ax3} {mv:Int} {Q:Int->Pt->Prop}:∀{a s:Int} {d:Pt} {l:List Pce},ET x mv Q a s d l->a<=Em a l
 |a,_,_,[],_=>Int.le_refl _
 |a,s,d,c::l,h=>by
  obtain⟨-,-,h3,-,h5⟩:=h;have:=Qzf h5;unfold Em;omega
theorem QL {x:Ax3} {mv:Int} {Q:Int->Pt->Prop} (hv:mv=1\/mv= -1):∀{a s:Int} {d:Pt} {l:List Pce},ET x mv Q a s d l->∀i,i<l.length->
  a<=(pcA l i).at_/\1<=(pcA l i).units/\eI l i<=Em a l/\(s-((pcA l i).at_-a)<=(pcA l i).s/\(pcA l i).s<=s+((pcA l i).at_-a))/\((pcA l i).move=0\/(pcA l i).move=mv)
 |a,s,d,c::l,h,0,_=>by
  obtain⟨h1,h2,h3,h4,h5⟩:=h;have:=Qzf h5;unfold eI;rw[KN];refine⟨by omega,h3,by unfold Em;omega,by omega,?_⟩;rcases h4 with h4|h4
  ·exact .inr h4.1
  ·exact .inl h4.1
 |a,s,d,c::l,h,i+1,hi=>by
  obtain⟨h1,h2,h3,h4,h5⟩:=h;have ih:=QL hv h5 i (by simpa using hi);unfold eI at ih⊢;rw[Id];obtain⟨g1,g2,g3,g4,g5⟩:=ih;have hm:c.move*c.units=0\/c.move*c.units=c.units\/c.move*c.units= -c.units:=by
   rcases h4 with h4|h4
   ·rw[h4.1];rcases hv with rfl|rfl<;>omega
   ·rw[h4.1];omega
  refine⟨by omega,g2,by unfold Em;exact g3,by omega,g5⟩
theorem Qv8 {x:Ax3} {mv:Int} {Q:Int->Pt->Prop} (hv:mv=1\/mv= -1):∀{a s:Int} {d:Pt} {l:List Pce},ET x mv Q a s d l->∀i j,i<=j->j<l.length->eI l i<=eI l j
 |a,s,d,c::l,h,0,0,_,_=>Int.le_refl _
 |a,s,d,c::l,h,0,j+1,_,hj=>by
  obtain⟨h1,h2,h3,h4,h5⟩:=h;have:=QL hv h5 j (by simpa using hj);unfold eI at*;rw[KN,Id];omega
 |a,s,d,c::l,h,i+1,0,hij,_=>by omega
 |a,s,d,c::l,h,i+1,j+1,hij,hj=>by
  obtain⟨h1,h2,h3,h4,h5⟩:=h;have:=Qv8 hv h5 i j (by omega) (by simpa using hj);unfold eI at*;rw[Id,Id];exact this
theorem Qze {x:Ax3} {mv:Int} {Q:Int->Pt->Prop}:∀{a s:Int} {d:Pt} {l:List Pce},ET x mv Q a s d l->l≠[]->eI l (l.length-1)=Em a l
 |a,s,d,[c],h,_=>by
  obtain⟨h1,-⟩:=h;show eI [c] 0=Em a [c];unfold eI;rw[KN];simp only[Em];omega
 |a,s,d,c::e::l,h,_=>by
  obtain⟨-,-,-,-,h5⟩:=h;have:=Qze h5 (by simp);have e1:(c::e::l).length-1=((e::l).length-1)+1:=by simp
  rw[e1];unfold eI at*;rw[Id,this];rfl
def mvP (p:Pth) (a b:Int):Int:=if BS a (AX p.aF)>BS b (AX p.aF)then-1 else 1
theorem Zzr (p:Pth) (a b:Int):mvP p a b=1\/mvP p a b= -1:=by unfold mvP;split<;>simp
theorem Qsi {p:Pth} {x:Ax3} {d:Pt} {a b:Int} {Q:Int->Pt->Prop} (hx:Ax3OK x) (hp:GoodPath p) (hQ:Qws p (mvP p a b) Q):
  ∃d',TC x (mvP p a b) Q (ER p x d a b) (BS b (AX p.aF)) d'/\(ER p x d a b).start=BS a (AX p.aF)/\(ER p x d a b).dirs=d:=by
 have hn:=Qr3 hp;have ha:0<=BS a (AX p.aF)/\BS a (AX p.aF)<=AX p.aF:=by unfold BS;omega
 have hb:0<=BS b (AX p.aF)/\BS b (AX p.aF)<=AX p.aF:=by unfold BS;omega
 have hk:=fun mv lo hi f=>Z1j (p:=p) (x:=x) (mv:=mv) (lo:=lo) (hi:=hi) (f:=f) (d:=d) p.aF.length;unfold ER mvP at*;simp only;generalize BS a (AX p.aF)=f at*;generalize BS b (AX p.aF)=t at*;have h:=Qtw (p:=p) (x:=x) (mv:=if f>t then-1 else 1) (lo:=min f t) (hi:=max f t) (f:=f) (d:=d) (Q:=Q) (by split<;>simp) hx hp.ok (by omega) (by split<;>omega) hQ p.aF.length (Nat.le_refl _);have hs:JO p.aF (if f>t then-1 else 1) (min f t) (max f t) p.aF.length=t:=by
  unfold JO;rw[Nat.sub_self,Sx,Zag];by_cases c:f>t
  ·rw[if_pos c,if_pos (by omega)];omega
  ·rw[if_neg c,if_neg (by omega)];omega
 rw[hs]at h;exact⟨_,h,(hk _ _ _ _).1,(hk _ _ _ _).2⟩
theorem Zi6 {x:Ax3} {mv:Int} {Q:Int->Pt->Prop} {t:Trk} {s:Int} {d:Pt} (hv:mv=1\/mv= -1) (h:TC x mv Q t s d) (hb:t.aE.length<=10000000/\0<=t.length/\t.length<=900000000000000) (hs:0<=t.start/\t.start<=263886834032640):TQ t:=by
 obtain⟨h1,h2,-,-⟩:=h;refine⟨hb.1,hb.2,fun i hi=> ?_,Qv8 hv h1,fun hne=>by rw[Qze h1 hne,h2],hs,fun i hi=> ?_,fun i hi=> ?_⟩
 ·have:=QL hv h1 i hi;rw[h2]at this;exact⟨this.1,this.2.1,this.2.2.1⟩
 ·have:=QL hv h1 i hi;rw[h2]at this;unfold eI at this;omega
 ·have:=(QL hv h1 i hi).2.2.2.2;rcases hv with rfl|rfl
  ·rcases this with h|h
   ·exact .inl h
   ·exact .inr (.inl h)
  ·rcases this with h|h
   ·exact .inl h
   ·exact .inr (.inr h)
theorem Zqq {p:Pth} {x:Ax3} (d:Pt) (a b:Int) (hx:Ax3OK x) (hp:GoodPath p):TQ (ER p x d a b):=by
 have hn:=Qr3 hp;obtain⟨d',h1,h2,-⟩:=Qsi (d:=d) (a:=a) (b:=b) (Q:=fun _ _=>True) hx hp (fun _ _ _ _ _ _ _ _=>trivial);exact Zi6 (Zzr p a b) h1 (Zxz d a b hp hx) (by rw[h2];unfold BS;omega)
end Go.Bm
namespace Go.Bm
open Classical
def BM (a:Axs) (i:Nat):Int:=a.pitch.getD i 0
def GZ (a:Axs) (p:Int):Int:=
 if a.pitch=[]then 0
 else if p<=a.origin then BM a 0
 else if(p-a.origin)/a.spacing>=a.pitch.length-1 then BM a (a.pitch.length-1)
 else BM a ((p-a.origin)/a.spacing).toNat+A5 ((BM a (((p-a.origin)/a.spacing).toNat+1)-BM a ((p-a.origin)/a.spacing).toNat)*(p-a.origin-(p-a.origin)/a.spacing*a.spacing)) a.spacing
def E6 (a:Axs) (p:Int):Int:=A5 (p+GZ a p) a.step
def okB (p:Int):Prop:= -1000000000<=p/\p<=1000000000
theorem Ql0 {l:List Int} (h:l≠[]):0<l.length:=by
 cases l with
 |nil=>exact absurd rfl h
 |cons _ _=>simp
theorem LE {a:Axs} (h:AxOK a) {i:Nat} (hi:i<a.pitch.length): -4096<=BM a i/\BM a i<=4096:=by
 have e:BM a i=a.pitch[i]:=by unfold BM;simp[hi]
 rw[e];exact h.pitch.1 _ (List.getElem_mem _)
theorem Kk {a:Axs} {i:Nat} (hi:i<a.pitch.length):nth [] (a.pitch.map As) i=[I (BM a i)]:=by
 have e:BM a i=a.pitch[i]:=by unfold BM;simp[hi]
 rw[e];exact I5 _ _ _ _ hi
theorem Qkq {a:Axs} (h:AxOK a) (hne:a.pitch≠[]) {p:Int} (h1: ¬p<=a.origin) (h2: ¬(p-a.origin)/a.spacing>=a.pitch.length-1):
  ∃(i:Nat) (r:Int),((p-a.origin)/a.spacing=i)/\i+1<a.pitch.length/\0<=r/\r<a.spacing/\p-a.origin=i*a.spacing+r/\p-a.origin-(p-a.origin)/a.spacing*a.spacing=r:=by
 have hs:=h.spacing hne;have e0:=Int.mul_ediv_add_emod (p-a.origin) a.spacing;have e1:=Int.emod_nonneg (p-a.origin) (show a.spacing≠0 by omega);have e2:=Int.emod_lt_of_pos (p-a.origin) (show 0<a.spacing by omega);have e3:0<=(p-a.origin)/a.spacing:=Int.ediv_nonneg (by omega) (by omega);refine⟨((p-a.origin)/a.spacing).toNat,(p-a.origin)%a.spacing,by omega,by omega,e1,e2,?_,?_⟩
 ·rw[Int.toNat_of_nonneg e3,Int.mul_comm];omega
 ·rw[Int.mul_comm ((p-a.origin)/a.spacing)];omega
theorem VG {a:Axs} (h:AxOK a) (hne:a.pitch≠[]) {i:Nat} (hi:i+1<a.pitch.length) {r:Int} (hr:0<=r/\r<=a.spacing):
  (-30<=BM a (i+1)-BM a i/\BM a (i+1)-BM a i<=30)/\(A5 ((BM a (i+1)-BM a i)*r) a.spacing).natAbs<=31:=by
 have hs:=h.spacing hne;have hp:=h.pitch.2 i hi;have hd: -30<=BM a (i+1)-BM a i/\BM a (i+1)-BM a i<=30:=by unfold BM;omega
 refine⟨hd,Qdr (by omega) ?_⟩;have m1:(BM a (i+1)-BM a i)*r<=31*r:=Int.mul_le_mul_of_nonneg_right (by omega) hr.1;have m2: -31*r<=(BM a (i+1)-BM a i)*r:=Int.mul_le_mul_of_nonneg_right (by omega) hr.1;have e:((31:Nat):Int)=31:=rfl;rw[e];omega
theorem Qfu {a:Axs} (h:AxOK a) (p:Int): -5000<=GZ a p/\GZ a p<=5000:=by
 unfold GZ;by_cases c:a.pitch=[]
 ·rw[if_pos c];omega
 ·have hl:=Ql0 c;rw[if_neg c];by_cases c1:p<=a.origin
  ·rw[if_pos c1];have:=LE h (show 0<a.pitch.length from hl);omega
  ·rw[if_neg c1];by_cases c2:(p-a.origin)/a.spacing>=a.pitch.length-1
   ·rw[if_pos c2];have:=LE h (show a.pitch.length-1<a.pitch.length by omega);omega
   ·rw[if_neg c2];obtain⟨i,r,e1,e2,e3,e4,e5,e6⟩:=Qkq h c c1 c2;rw[e6,e1,Int.toNat_natCast];have b1:=LE h (show i<a.pitch.length by omega);have b2:=(VG h c e2 (r:=r) (by omega)).2;omega
theorem Qzy {x n:Int} (hn:0<n/\n<=1000000000) (hx:x.natAbs<=1000000000000000):FR [I x,I n]=some [I (x/n)]:=by
 unfold FR;rw[Ztw];have hm:=Int.tmod_add_mul_tdiv x n;have h1:=Int.tmod_lt_of_pos x (show 0<n by omega);have h2:=Int.lt_tmod_of_pos x (show 0<n by omega);have hq:(x.tdiv n).natAbs<=x.natAbs:=by rw[Int.natAbs_tdiv];exact Nat.div_le_self _ _
 have key:∀k:Int,k*n<=x->x<(k+1)*n->x/n=k:=by
  intro k g1 g2;have a1:k<=x/n:=(Int.le_ediv_iff_mul_le (by omega)).2 g1;have a2:x/n<k+1:=(Int.ediv_lt_iff_lt_mul (by omega)).2 g2;omega
 generalize x.tdiv n=q at*;generalize x.tmod n=r at*;have e1:n*q=q*n:=Int.mul_comm _ _;rw[AM (by omega),AM (by omega),Ae (x:=q) (by omega)];by_cases h:r<0
 ·rw[C8 h,Ae (by omega),key (q-1)]
  ·rw[Int.sub_mul];omega
  ·rw[Int.sub_add_cancel];omega
 ·rw[AM h,key q]
  ·omega
  ·rw[Int.add_mul];omega
theorem Zju {a:Axs} (h:AxOK a) {v:Int} (hv:v.natAbs<=1000010000):Ki (AJ a++[I v])=some [I (A5 v a.step)]:=by
 have hs:=h.step;have hf:=Qzy (x:=2*v+a.step) (n:=2*a.step) (by omega) (by omega);have he:=Zs8 FR a.step a.speed a.accel a.jerk a.low a.high a.back a.origin a.spacing (a.pitch.map As) v;unfold Ki;generalize FR=M at*;refine Eq.trans he ?_;rw[Ae (x:=2*v) (by omega),Ae (x:=2*v+a.step) (by omega),Ae (x:=2*a.step) (by omega),hf];rfl
theorem Zh0 {a:Axs} (h:AxOK a) {v:Int} (hv:v.natAbs<=1000010000):JR (AJ a++[I v])=some [I (A5 v a.step)]:=by
 have hs:=h.step;have he:=Zjx a.step a.speed a.accel a.jerk a.low a.high a.back a.origin a.spacing (a.pitch.map As) v;unfold JR;refine Eq.trans he ?_;rw[Ae (x:=2*v) (by omega),Ae (x:=2*v+a.step) (by omega),Ae (x:=2*a.step) (by omega)];have hm:=Int.tmod_add_mul_tdiv (2*v+a.step) (2*a.step);have h1:=Int.tmod_lt_of_pos (2*v+a.step) (show 0<2*a.step by omega);have h2:=Int.lt_tmod_of_pos (2*v+a.step) (show 0<2*a.step by omega);have hq:((2*v+a.step).tdiv (2*a.step)).natAbs<=(2*v+a.step).natAbs:=by rw[Int.natAbs_tdiv];exact Nat.div_le_self _ _
 generalize(2*v+a.step).tdiv (2*a.step)=q at*;generalize(2*v+a.step).tmod (2*a.step)=r at*;have e1:2*a.step*q=q*(2*a.step):=Int.mul_comm _ _;rw[AM (by omega),AM (by omega),AM (by omega),AM (by omega),Ae (x:=q) (by omega)];by_cases h:r<0
 ·rw[C8 h,Ae (by omega),Jn (k:=q-1) (by omega)]
  ·rw[Int.sub_mul];omega
  ·rw[Int.sub_add_cancel];omega
 ·rw[AM h,Jn (k:=q) (by omega)]
  ·omega
  ·rw[Int.add_mul];omega
theorem Zx3 {a:Axs} (h:AxOK a) {p:Int} (hp:okB p):Jz (AJ a++[I p])=some [I (GZ a p)]:=by
 unfold okB at hp;have ho:=h.origin;have hc:=h.count;have he:=Zfs FR a.step a.speed a.accel a.jerk a.low a.high a.back a.origin a.spacing (a.pitch.map As) p;unfold Jz;have hF:=fun{x:Int} (hx:x.natAbs<=1000000000000000) (hs:4<=a.spacing/\a.spacing<=123)=>Qzy (x:=x) (n:=2*a.spacing) (by omega) hx;generalize FR=M at*;refine Eq.trans he ?_;unfold GZ;rw[List.length_map];by_cases c:a.pitch=[]
 ·rw[if_pos c,c];rfl
 ·have hl:=Ql0 c;have hs:=h.spacing c;have e1:wrap .i64 ((a.pitch.length:Int)-1)=((a.pitch.length-1:Nat):Int):=by rw[Ae (by omega)];omega
  have e2:wrap .i64 (p-a.origin)=p-a.origin:=Ae (by omega);rw[if_neg c];by_cases c1:p<=a.origin
  ·rw[if_pos c1];simp only[go_sem,Kk hl];rw[if_neg (by omega),if_pos c1,if_pos (by omega)]
  ·have e3:wrap .i64 ((p-a.origin).tdiv a.spacing)=(p-a.origin)/a.spacing:=by
    rw[Int.tdiv_eq_ediv_of_nonneg (by omega)];have:=Int.ediv_nonneg (show 0<=p-a.origin by omega) (show 0<=a.spacing by omega);have:=Int.ediv_le_self a.spacing (show 0<=p-a.origin by omega);exact Ae (by omega)
   have hcast:((a.pitch.length:Int)-1)=((a.pitch.length-1:Nat):Int):=by omega
   rw[if_neg c1,e2,e3,e1];by_cases c2:(p-a.origin)/a.spacing>=(a.pitch.length:Int)-1
   ·rw[if_pos c2];simp only[go_sem,Int.toNat_natCast,Kk (show a.pitch.length-1<a.pitch.length by omega)];rw[if_neg (by omega),if_neg c1,if_neg (by omega),if_pos (by omega),if_pos (by omega)]
   ·rw[if_neg c2];obtain⟨i,r,g1,g2,g3,g4,g5,g6⟩:=Qkq h c c1 c2;obtain⟨n1,n2⟩:=VG h c g2 (r:=r) (by omega);have b1:=LE h (show i<a.pitch.length by omega);rw[g6,g1]at*;rw[Int.toNat_natCast];have w1:wrap .i64 ((i:Int)+1)=((i+1:Nat):Int):=by rw[Ae (by omega)];omega
    have hmul:(i:Int)*a.spacing=p-a.origin-r:=by omega
    have w2:wrap .i64 (p-a.origin-wrap .i64 ((i:Int)*a.spacing))=r:=by rw[hmul,Ae (x:=p-a.origin-r) (by omega),Ae (by omega)];omega
    have hin1:(0:Int)<=(i:Int)/\(i:Int)<(a.pitch.length:Int):=by omega
    have hin2:(0:Int)<=((i+1:Nat):Int)/\((i+1:Nat):Int)<(a.pitch.length:Int):=by omega
    simp only[go_sem,w1,w2,Int.toNat_natCast,Kk (show i<a.pitch.length by omega),Kk g2,if_pos hin1,if_pos hin2];have b2:=LE h g2;generalize BM a (i+1)=y at*;generalize BM a i=z at*;have m1:(y-z)*r<=30*r:=Int.mul_le_mul_of_nonneg_right (by omega) g3;have m2: -30*r<=(y-z)*r:=Int.mul_le_mul_of_nonneg_right (by omega) g3;have em:2*(y-z)*r=2*((y-z)*r):=by rw[Int.mul_assoc]
    rw[if_neg (by omega),if_neg c1,if_neg (by omega),if_neg (by omega),Ae (x:=y-z) (by omega),Ae (x:=2*(y-z)) (by omega),em,Ae (x:=2*((y-z)*r)) (by omega),Ae (x:=2*((y-z)*r)+a.spacing) (by omega),Ae (x:=2*a.spacing) (by omega),hF (by omega) hs];have en:(2*((y-z)*r)+a.spacing)/(2*a.spacing)=A5 ((y-z)*r) a.spacing:=rfl;simp only[go_sem,en];rw[Ae (by omega)]
theorem Z4w {a:Axs} (h:AxOK a) {p:Int} (hp:okB p):JH (AJ a++[I p])=some [I (GZ a p)]:=by
 unfold okB at hp;have ho:=h.origin;have hc:=h.count;have he:=Zg3 Bn a.step a.speed a.accel a.jerk a.low a.high a.back a.origin a.spacing (a.pitch.map As) p;unfold JH;have hF:=fun{x y:Int} (hx:x.natAbs<=30) (hy:y.natAbs<=123) (hs:4<=a.spacing/\a.spacing<=123)=>Q38 (a:=x) (b:=y) (c:=a.spacing) (by omega) (by omega) (by omega);generalize Bn=M at*;refine Eq.trans he ?_;unfold GZ;rw[List.length_map];by_cases c:a.pitch=[]
 ·rw[if_pos c,c];rfl
 ·have hl:=Ql0 c;have hs:=h.spacing c;have e1:wrap .i64 ((a.pitch.length:Int)-1)=((a.pitch.length-1:Nat):Int):=by rw[Ae (by omega)];omega
  have e2:wrap .i64 (p-a.origin)=p-a.origin:=Ae (by omega);rw[if_neg c,e2,e1];by_cases c1:p<=a.origin
  ·rw[if_pos c1];simp only[go_sem,Kk hl];rw[if_neg (by omega),if_pos (by omega),if_pos (by omega)]
  ·have e3:wrap .i64 ((p-a.origin).tdiv a.spacing)=(p-a.origin)/a.spacing:=by
    rw[Int.tdiv_eq_ediv_of_nonneg (by omega)];have:=Int.ediv_nonneg (show 0<=p-a.origin by omega) (show 0<=a.spacing by omega);have:=Int.ediv_le_self a.spacing (show 0<=p-a.origin by omega);exact Ae (by omega)
   rw[if_neg c1,e3];by_cases c2:(p-a.origin)/a.spacing>=(a.pitch.length:Int)-1
   ·rw[if_pos c2];simp only[go_sem,Int.toNat_natCast,Kk (show a.pitch.length-1<a.pitch.length by omega)];rw[if_neg (by omega),if_neg (by omega),if_neg (by omega),if_neg (by omega),if_pos (by omega),if_pos (by omega)]
   ·rw[if_neg c2];obtain⟨i,r,g1,g2,g3,g4,g5,g6⟩:=Qkq h c c1 c2;obtain⟨n1,n2⟩:=VG h c g2 (r:=r) (by omega);have b1:=LE h (show i<a.pitch.length by omega);rw[g6,g1]at*;rw[Int.toNat_natCast];have w1:wrap .i64 ((i:Int)+1)=((i+1:Nat):Int):=by rw[Ae (by omega)];omega
    have hmul:(i:Int)*a.spacing=p-a.origin-r:=by omega
    have w2:wrap .i64 (p-a.origin-wrap .i64 ((i:Int)*a.spacing))=r:=by rw[hmul,Ae (x:=p-a.origin-r) (by omega),Ae (by omega)];omega
    have hin1:(0:Int)<=(i:Int)/\(i:Int)<(a.pitch.length:Int):=by omega
    have hin2:(0:Int)<=((i+1:Nat):Int)/\((i+1:Nat):Int)<(a.pitch.length:Int):=by omega
    simp only[go_sem,w1,w2,Int.toNat_natCast,Kk (show i<a.pitch.length by omega),Kk g2,if_pos hin1,if_pos hin2];have b2:=LE h g2;generalize BM a (i+1)=y at*;generalize BM a i=z at*;rw[if_neg (by omega),if_neg (by omega),if_neg (by omega),if_neg (by omega),if_neg (by omega),Ae (x:=y-z) (by omega),hF (by omega) (by omega) hs];simp only[go_sem];rw[Ae (by omega)]
theorem Zqi {a:Axs} (h:AxOK a) {p:Int} (hp:okB p):OM (AJ a++[I p])=some [I (E6 a p)]:=by
 have hb:=Qfu h p;have h1:=Zx3 h hp;unfold okB at hp;have h2:=Zju h (v:=p+GZ a p) (by omega);have he:=Zdx Ki Jz a.step a.speed a.accel a.jerk a.low a.high a.back a.origin a.spacing (a.pitch.map As) p;unfold OM;generalize Ki=M1 at*;generalize Jz=M2 at*;refine Eq.trans he ?_;simp only[AJ,List.cons_append,List.nil_append]at h1 h2;simp only[h1,go_sem,Ae (x:=p+GZ a p) (by omega),h2];rfl
theorem Zqb {a:Axs} (h:AxOK a) {p:Int} (hp:okB p):OY (AJ a++[I p])=some [I (E6 a p)]:=by
 have hb:=Qfu h p;have h1:=Z4w h hp;unfold okB at hp;have h2:=Zh0 h (v:=p+GZ a p) (by omega);have he:=Zej JR JH a.step a.speed a.accel a.jerk a.low a.high a.back a.origin a.spacing (a.pitch.map As) p;unfold OY;generalize JR=M1 at*;generalize JH=M2 at*;refine Eq.trans he ?_;simp only[AJ,List.cons_append,List.nil_append]at h1 h2;simp only[h1,go_sem,Ae (x:=p+GZ a p) (by omega),h2];rfl
end Go.Bm
namespace Go.Bm
open Classical
def ES (a:Axs) (d:Int):Int:=if d= -1 then-a.back else 0
def De (a:Axs) (move at_ was dirs u:Int):Int:=if move≠0\/was=dirs then ES a dirs else if dirs= -1 then-min (u-at_) a.back else min (u-at_) a.back-a.back
theorem S6 {a:Axs} (hb:0<=a.back/\a.back<=1000) (v:Int):Je (AJ a++[I v])=some [I (ES a v)]:=by
 have he:=Zxu a.step a.speed a.accel a.jerk a.low a.high a.back a.origin a.spacing (a.pitch.map As) v;unfold Je;refine Eq.trans he ?_;unfold ES;by_cases c:v= -1
 ·rw[Bi (by simp[c]),if_pos c,Ae (by omega)];congr 3;omega
 ·rw[A_ (by simp[c]),if_neg c]
theorem Tc {a:Axs} (hb:0<=a.back/\a.back<=1000) (v:Int):IP (AJ a++[I v])=some [I (ES a v)]:=by
 have he:=Zm1 a.step a.speed a.accel a.jerk a.low a.high a.back a.origin a.spacing (a.pitch.map As) v;unfold IP;refine Eq.trans he ?_;unfold ES;by_cases c:v= -1
 ·rw[Bi (by simp[c]),if_pos c,Ae (by omega)];congr 3;omega
 ·rw[A_ (by simp[c]),if_neg c]
theorem Zkh {M:Fn} {a:Axs} {c:Pce} {u:Int} (hM:∀v:Int,M (AJ a++[I v])=some [I (ES a v)]) (hb:0<=a.back/\a.back<=1000) (hu:0<=u-c.at_/\u-c.at_<=2000000000000000):
  PT M (AJ a++AA c++[I 0,I u])=some [I (De a c.move c.at_ c.was.x c.dirs.x u)]:=by
 have he:=Qox M a.step a.speed a.accel a.jerk a.low a.high a.back a.origin a.spacing (a.pitch.map As) c.at_ c.units c.s c.move c.was.x c.was.y c.was.z c.dirs.x c.dirs.y c.dirs.z 0 u;refine Eq.trans he ?_;have hm0:=hM c.dirs.x;simp only[AJ,List.cons_append,List.nil_append]at hm0;have e1:wrap .i64 (0+1)=1:=rfl;have e2:wrap .i64 (1+1)=2:=rfl;have w1:wrap .i64 (u-c.at_)=u-c.at_:=Ae (by omega);have w2:wrap .i64 (0-min (u-c.at_) a.back)= -min (u-c.at_) a.back:=by rw[Ae (by omega)];omega
 have w3:wrap .i64 (min (u-c.at_) a.back-a.back)=min (u-c.at_) a.back-a.back:=Ae (by omega);unfold De;simp only[go_sem,e1,e2,Gn,w1,w2,w3,Nat.reduceAdd,Int.cast_ofNat_Int,Int.natCast_zero,Int.natCast_one,Int.reduceEq,hm0];by_cases c1:c.move=0
 ·by_cases c2:c.was.x=c.dirs.x
  ·simp[c1,c2]
  ·by_cases c3:c.dirs.x= -1
   ·simp[c1,c3,show c.was.x≠-1 from fun e=>c2 (by rw[e,c3])]
   ·simp[c1,c2,c3]
 ·simp[c1]
theorem Zjt {M:Fn} {a:Axs} {c:Pce} {u:Int} (hM:∀v:Int,M (AJ a++[I v])=some [I (ES a v)]) (hb:0<=a.back/\a.back<=1000) (hu:0<=u-c.at_/\u-c.at_<=2000000000000000):
  PT M (AJ a++AA c++[I (wrap .i64 (0+1)),I u])=some [I (De a c.move c.at_ c.was.y c.dirs.y u)]:=by
 have he:=Qox M a.step a.speed a.accel a.jerk a.low a.high a.back a.origin a.spacing (a.pitch.map As) c.at_ c.units c.s c.move c.was.x c.was.y c.was.z c.dirs.x c.dirs.y c.dirs.z (wrap .i64 (0+1)) u;refine Eq.trans he ?_;have hm0:=hM c.dirs.y;simp only[AJ,List.cons_append,List.nil_append]at hm0;have e1:wrap .i64 (0+1)=1:=rfl;have e2:wrap .i64 (1+1)=2:=rfl;have w1:wrap .i64 (u-c.at_)=u-c.at_:=Ae (by omega);have w2:wrap .i64 (0-min (u-c.at_) a.back)= -min (u-c.at_) a.back:=by rw[Ae (by omega)];omega
 have w3:wrap .i64 (min (u-c.at_) a.back-a.back)=min (u-c.at_) a.back-a.back:=Ae (by omega);unfold De;simp only[go_sem,e1,e2,Gn,w1,w2,w3,Nat.reduceAdd,Int.cast_ofNat_Int,Int.natCast_zero,Int.natCast_one,Int.reduceEq,hm0];by_cases c1:c.move=0
 ·by_cases c2:c.was.y=c.dirs.y
  ·simp[c1,c2]
  ·by_cases c3:c.dirs.y= -1
   ·simp[c1,c3,show c.was.y≠-1 from fun e=>c2 (by rw[e,c3])]
   ·simp[c1,c2,c3]
 ·simp[c1]
theorem Zkm {M:Fn} {a:Axs} {c:Pce} {u:Int} (hM:∀v:Int,M (AJ a++[I v])=some [I (ES a v)]) (hb:0<=a.back/\a.back<=1000) (hu:0<=u-c.at_/\u-c.at_<=2000000000000000):
  PT M (AJ a++AA c++[I (wrap .i64 (wrap .i64 (0+1)+1)),I u])=some [I (De a c.move c.at_ c.was.z c.dirs.z u)]:=by
 have he:=Qox M a.step a.speed a.accel a.jerk a.low a.high a.back a.origin a.spacing (a.pitch.map As) c.at_ c.units c.s c.move c.was.x c.was.y c.was.z c.dirs.x c.dirs.y c.dirs.z (wrap .i64 (wrap .i64 (0+1)+1)) u;refine Eq.trans he ?_;have hm0:=hM c.dirs.z;simp only[AJ,List.cons_append,List.nil_append]at hm0;have e1:wrap .i64 (0+1)=1:=rfl;have e2:wrap .i64 (1+1)=2:=rfl;have w1:wrap .i64 (u-c.at_)=u-c.at_:=Ae (by omega);have w2:wrap .i64 (0-min (u-c.at_) a.back)= -min (u-c.at_) a.back:=by rw[Ae (by omega)];omega
 have w3:wrap .i64 (min (u-c.at_) a.back-a.back)=min (u-c.at_) a.back-a.back:=Ae (by omega);unfold De;simp only[go_sem,e1,e2,Gn,w1,w2,w3,Nat.reduceAdd,Int.cast_ofNat_Int,Int.natCast_zero,Int.natCast_one,Int.reduceEq,hm0];by_cases c1:c.move=0
 ·by_cases c2:c.was.z=c.dirs.z
  ·simp[c1,c2]
  ·by_cases c3:c.dirs.z= -1
   ·simp[c1,c3,show c.was.z≠-1 from fun e=>c2 (by rw[e,c3])]
   ·simp[c1,c2,c3]
 ·simp[c1]
theorem Z0h {M:Fn} {a:Axs} {c:Pce} {u:Int} (hM:∀v:Int,M (AJ a++[I v])=some [I (ES a v)]) (hb:0<=a.back/\a.back<=1000) (hu:0<=u-c.at_/\u-c.at_<=2000000000000000):
  PS M (AJ a++AA c++[I 0,I u])=some [I (De a c.move c.at_ c.was.x c.dirs.x u)]:=by
 have he:=Vm M a.step a.speed a.accel a.jerk a.low a.high a.back a.origin a.spacing (a.pitch.map As) c.at_ c.units c.s c.move c.was.x c.was.y c.was.z c.dirs.x c.dirs.y c.dirs.z 0 u;refine Eq.trans he ?_;have hm0:=hM c.dirs.x;simp only[AJ,List.cons_append,List.nil_append]at hm0;have e1:wrap .i64 (0+1)=1:=rfl;have e2:wrap .i64 (1+1)=2:=rfl;have w1:wrap .i64 (u-c.at_)=u-c.at_:=Ae (by omega);have w2:wrap .i64 (0-min (u-c.at_) a.back)= -min (u-c.at_) a.back:=by rw[Ae (by omega)];omega
 have w3:wrap .i64 (min (u-c.at_) a.back-a.back)=min (u-c.at_) a.back-a.back:=Ae (by omega);unfold De;simp only[go_sem,e1,e2,Gn,w1,w2,w3,Nat.reduceAdd,Int.cast_ofNat_Int,Int.natCast_zero,Int.natCast_one,Int.reduceEq,hm0];by_cases c1:c.move=0
 ·by_cases c2:c.was.x=c.dirs.x
  ·simp[c1,c2]
  ·by_cases c3:c.dirs.x= -1
   ·simp[c1,c3,show c.was.x≠-1 from fun e=>c2 (by rw[e,c3])]
   ·simp[c1,c2,c3]
 ·simp[c1]
theorem Zfx {M:Fn} {a:Axs} {c:Pce} {u:Int} (hM:∀v:Int,M (AJ a++[I v])=some [I (ES a v)]) (hb:0<=a.back/\a.back<=1000) (hu:0<=u-c.at_/\u-c.at_<=2000000000000000):
  PS M (AJ a++AA c++[I (wrap .i64 (0+1)),I u])=some [I (De a c.move c.at_ c.was.y c.dirs.y u)]:=by
 have he:=Vm M a.step a.speed a.accel a.jerk a.low a.high a.back a.origin a.spacing (a.pitch.map As) c.at_ c.units c.s c.move c.was.x c.was.y c.was.z c.dirs.x c.dirs.y c.dirs.z (wrap .i64 (0+1)) u;refine Eq.trans he ?_;have hm0:=hM c.dirs.y;simp only[AJ,List.cons_append,List.nil_append]at hm0;have e1:wrap .i64 (0+1)=1:=rfl;have e2:wrap .i64 (1+1)=2:=rfl;have w1:wrap .i64 (u-c.at_)=u-c.at_:=Ae (by omega);have w2:wrap .i64 (0-min (u-c.at_) a.back)= -min (u-c.at_) a.back:=by rw[Ae (by omega)];omega
 have w3:wrap .i64 (min (u-c.at_) a.back-a.back)=min (u-c.at_) a.back-a.back:=Ae (by omega);unfold De;simp only[go_sem,e1,e2,Gn,w1,w2,w3,Nat.reduceAdd,Int.cast_ofNat_Int,Int.natCast_zero,Int.natCast_one,Int.reduceEq,hm0];by_cases c1:c.move=0
 ·by_cases c2:c.was.y=c.dirs.y
  ·simp[c1,c2]
  ·by_cases c3:c.dirs.y= -1
   ·simp[c1,c3,show c.was.y≠-1 from fun e=>c2 (by rw[e,c3])]
   ·simp[c1,c2,c3]
 ·simp[c1]
theorem Zjg {M:Fn} {a:Axs} {c:Pce} {u:Int} (hM:∀v:Int,M (AJ a++[I v])=some [I (ES a v)]) (hb:0<=a.back/\a.back<=1000) (hu:0<=u-c.at_/\u-c.at_<=2000000000000000):
  PS M (AJ a++AA c++[I (wrap .i64 (wrap .i64 (0+1)+1)),I u])=some [I (De a c.move c.at_ c.was.z c.dirs.z u)]:=by
 have he:=Vm M a.step a.speed a.accel a.jerk a.low a.high a.back a.origin a.spacing (a.pitch.map As) c.at_ c.units c.s c.move c.was.x c.was.y c.was.z c.dirs.x c.dirs.y c.dirs.z (wrap .i64 (wrap .i64 (0+1)+1)) u;refine Eq.trans he ?_;have hm0:=hM c.dirs.z;simp only[AJ,List.cons_append,List.nil_append]at hm0;have e1:wrap .i64 (0+1)=1:=rfl;have e2:wrap .i64 (1+1)=2:=rfl;have w1:wrap .i64 (u-c.at_)=u-c.at_:=Ae (by omega);have w2:wrap .i64 (0-min (u-c.at_) a.back)= -min (u-c.at_) a.back:=by rw[Ae (by omega)];omega
 have w3:wrap .i64 (min (u-c.at_) a.back-a.back)=min (u-c.at_) a.back-a.back:=Ae (by omega);unfold De;simp only[go_sem,e1,e2,Gn,w1,w2,w3,Nat.reduceAdd,Int.cast_ofNat_Int,Int.natCast_zero,Int.natCast_one,Int.reduceEq,hm0];by_cases c1:c.move=0
 ·by_cases c2:c.was.z=c.dirs.z
  ·simp[c1,c2]
  ·by_cases c3:c.dirs.z= -1
   ·simp[c1,c3,show c.was.z≠-1 from fun e=>c2 (by rw[e,c3])]
   ·simp[c1,c2,c3]
 ·simp[c1]
theorem Zrd {a:Axs} (hb:0<=a.back/\a.back<=1000) {move at_ was dirs u:Int} (hu:0<=u-at_): -1000<=De a move at_ was dirs u/\De a move at_ was dirs u<=1000:=by
 unfold De ES
 (repeat' split)<;>omega
theorem Z4h {a:Pt} {g:Sgm} {d:Int} (ha:bd B26 a) (hg:1<=g.len/\g.len<=268435456/\bd B26 g.to) (hd:0<=d/\d<=g.len):bd 201326592 (Nt a g d):=by
 have key:∀u v:Int,u.natAbs<=B26->v.natAbs<=B26->(v+A5 ((u-v)*d) g.len).natAbs<=201326592:=by
  intro u v hu hv;have h1:=Hj hu hv;have h2:=XZ (D:=u-v) (L:=g.len) (d:=d) (by omega) (Nat.le_trans h1 (by decide)) hd;have h3:v.natAbs<=67108864:=hv;omega
 exact⟨key _ _ hg.2.2.1 ha.1,key _ _ hg.2.2.2.1 ha.2.1,key _ _ hg.2.2.2.2 ha.2.2⟩
theorem Zmx {p:Pth} (h:GoodPath p) (s:Int):bd 201326592 (atP p s):=by
 unfold atP;by_cases c:p.aF=[]
 ·rw[c];exact A0 h.start (by decide)
 ·have hok:=h.ok;obtain⟨f1,f2,f3,f4⟩:=TO (l:=p.aF) (a:=p.start) (s:=max s 0) c (fun g hg=>(hok.seg g hg).1) (by omega);rw[f4];exact Z4h (Z_ h.start hok f1) (hok.seg _ (FE f1)) ⟨f2,f3⟩
theorem Na {a:Axs} (h:AxOK a) {p:Int} (hp:okB p):(E6 a p).natAbs<=2000000000:=by
 have hb:=Qfu h p;have hs:=h.step;unfold okB at hp;unfold E6;refine Qdr (by omega) ?_;have e:((2000000000:Nat):Int)=2000000000:=rfl;rw[e];omega
def shT (a:Axs) (t:Trk) (u:Int) (f:Pt->Int):Int:=if t.aE=[]then ES a (f t.dirs)else De a (pcA t.aE (iT t u)).move (pcA t.aE (iT t u)).at_ (f (pcA t.aE (iT t u)).was) (f (pcA t.aE (iT t u)).dirs) (clT t u)
def Jf (p:Pth) (x:Ax3) (s:Int):Pt:=⟨E6 x.a (atP p s).x,E6 x.b (atP p s).y,E6 x.c (atP p s).z⟩
def B4 (p:Pth) (x:Ax3) (t:Trk) (u:Int):Pt:=
 ⟨(Jf p x (Be t u)).x+shT x.a t u Pt.x,(Jf p x (Be t u)).y+shT x.b t u Pt.y,(Jf p x (Be t u)).z+shT x.c t u Pt.z⟩
theorem Qlm {t:Trk} (h:TQ t) (hch:∀i,i+1<t.aE.length->(pcA t.aE (i+1)).at_=eI t.aE i) (h0:t.aE≠[]->(pcA t.aE 0).at_=0) (u:Int) (hne:t.aE≠[]):(pcA t.aE (iT t u)).at_<=clT t u/\(0<iT t u->(pcA t.aE (iT t u)).at_<clT t u):=by
 have hi:=Jl h u hne;have hc:=N_ h u;by_cases c:iT t u=0
 ·rw[c,h0 hne];exact⟨hc.1,fun g=>absurd g (by omega)⟩
 ·obtain⟨j,hj⟩:∃j,iT t u=j+1:=⟨iT t u-1,by omega⟩;rw[hj]at hi⊢;rw[hch j hi];have: ¬clT t u<=eI t.aE j:=by
   intro g;have:=Py (show j<t.aE.length by omega) g;unfold iT at hj;omega
  exact⟨by omega,fun _=>by omega⟩
theorem Zmy {t:Trk} (h:TQ t) (u:Int):clT t (clT t u)=clT t u:=by have:=h.len;unfold clT BS;omega
theorem Zfo {t:Trk} (h:TQ t) (u:Int):Be t (clT t u)=Be t u:=by unfold Be iT;rw[Zmy h]
theorem Qlr {t:Trk} (h:TQ t) (u:Int): -3000000000000000<=Be t u/\Be t u<=3000000000000000:=by
 unfold Be;by_cases c:t.aE=[]
 ·rw[if_pos c];have:=h.start;omega
 ·have hi:=Jl h u c;have h1:=h.pos _ hi;have h2:=h.s _ hi;have h3:=h.move _ hi;have h4:=N_ h u;have h5:=h.len;rw[if_neg c];unfold eI at h1;rcases h3 with h3|h3|h3<;>rw[h3]<;>omega
theorem YB {p:Pth} (h:GoodPath p) (s:Int):okB (atP p s).x/\okB (atP p s).y/\okB (atP p s).z:=by
 obtain⟨h1,h2,h3⟩:=Zmx h s;unfold okB;omega
theorem Z0v {MM MA:Fn} {p:Pth} {x:Ax3} (hp:GoodPath p) (hx:Ax3M x) {s:Int} (hA:MA (AH p++[I s])=some (ptR (atP p s))) (hM:∀{a:Axs} {q:Int},AxOK a->okB q->MM (AJ a++[I q])=some [I (E6 a q)]):
  Qpe MM MA (AH p++AF x++[I s])=some (ptR (Jf p x s)):=by
 have he:=Zt0 MM MA p.start.x p.start.y p.start.z (p.aF.map Au) (p.aD.map At) x.a.step x.a.speed x.a.accel x.a.jerk x.a.low x.a.high x.a.back x.a.origin x.a.spacing (x.a.pitch.map As) x.b.step x.b.speed x.b.accel x.b.jerk x.b.low x.b.high x.b.back x.b.origin x.b.spacing (x.b.pitch.map As) x.c.step x.c.speed x.c.accel x.c.jerk x.c.low x.c.high x.c.back x.c.origin x.c.spacing (x.c.pitch.map As) s;refine Eq.trans he ?_;obtain⟨o1,o2,o3⟩:=YB hp s;have m1:=hM hx.a o1;have m2:=hM hx.b o2;have m3:=hM hx.c o3;simp only[AH,AJ,List.cons_append,List.nil_append]at hA m1 m2 m3;simp only[hA,go_sem,m1,m2,m3];rfl
theorem Zgc {p:Pth} {x:Ax3} (hp:GoodPath p) (hx:Ax3M x) {s:Int} (hs:i64 s):Qj (AH p++AF x++[I s])=some (ptR (Jf p x s)):=Z0v hp hx (Zpz hp hs) fun h1 h2=>Zqi h1 h2
structure TH (t : Trk) : Prop where
 q:TQ t
 at0:t.aE≠[]->(pcA t.aE 0).at_=0
 at1:∀i,i+1<t.aE.length->(pcA t.aE (i+1)).at_=eI t.aE i
theorem Mj {a:Axs} (hb:0<=a.back/\a.back<=1000) {t:Trk} (h:TH t) (u:Int) (f:Pt->Int): -1000<=shT a t u f/\shT a t u f<=1000:=by
 unfold shT;by_cases c:t.aE=[]
 ·rw[if_pos c];unfold ES;split<;>omega
 ·rw[if_neg c];exact Zrd hb (by have:=(Qlm h.q h.at1 h.at0 u c).1;omega)
theorem Zuz {MS MD MP MN ML:Fn} {p:Pth} {x:Ax3} {t:Trk} {u:Int} (hp:GoodPath p) (hx:Ax3M x) (ht:TH t) (hL:ML (AS t++[I u])=some [I (Be t u)]) (hN:MN (AH p++AF x++[I (Be t u)])=some (ptR (Jf p x (Be t u))))
  (hP:MP (AS t++[I u])=some [I (if t.aE=[]then-1 else(iT t u:Int)),I (clT t u)]) (hD:∀{a:Axs} (v:Int),(0<=a.back/\a.back<=1000)->MD (AJ a++[I v])=some [I (ES a v)])
  (h0:∀{a:Axs} {c:Pce} {u:Int},(0<=a.back/\a.back<=1000)->(0<=u-c.at_/\u-c.at_<=2000000000000000)->MS (AJ a++AA c++[I 0,I u])=some [I (De a c.move c.at_ c.was.x c.dirs.x u)])
  (h1:∀{a:Axs} {c:Pce} {u:Int},(0<=a.back/\a.back<=1000)->(0<=u-c.at_/\u-c.at_<=2000000000000000)->MS (AJ a++AA c++[I (wrap .i64 (0+1)),I u])=some [I (De a c.move c.at_ c.was.y c.dirs.y u)])
  (h2:∀{a:Axs} {c:Pce} {u:Int},(0<=a.back/\a.back<=1000)->(0<=u-c.at_/\u-c.at_<=2000000000000000)->MS (AJ a++AA c++[I (wrap .i64 (wrap .i64 (0+1)+1)),I u])=some [I (De a c.move c.at_ c.was.z c.dirs.z u)]):
  Qfd MS MD MP MN ML (AH p++AF x++AS t++[I u])=some (ptR (B4 p x t u)):=by
 have he:=Zys MS MD MP MN ML u p x t;refine Eq.trans he ?_;obtain⟨o1,o2,o3⟩:=YB hp (Be t u);have b1:=Na hx.a o1;have b2:=Na hx.b o2;have b3:=Na hx.c o3;have s1:=Mj hx.ok.a ht u Pt.x;have s2:=Mj hx.ok.b ht u Pt.y;have s3:=Mj hx.ok.c ht u Pt.z;unfold B4 Jf;unfold Jf at hN;generalize E6 x.a (atP p (Be t u)).x=q1 at*;generalize E6 x.b (atP p (Be t u)).y=q2 at*;generalize E6 x.c (atP p (Be t u)).z=q3 at*;have w1:wrap .i64 (q1+shT x.a t u Pt.x)=q1+shT x.a t u Pt.x:=Ae (by omega);have w2:wrap .i64 (q2+shT x.b t u Pt.y)=q2+shT x.b t u Pt.y:=Ae (by omega);have w3:wrap .i64 (q3+shT x.c t u Pt.z)=q3+shT x.c t u Pt.z:=Ae (by omega);by_cases c:t.aE=[]
 ·have d1:=hD t.dirs.x hx.ok.a;have d2:=hD t.dirs.y hx.ok.b;have d3:=hD t.dirs.z hx.ok.c;unfold shT at*;rw[if_pos c]at hP w1 w2 w3⊢;simp only[if_pos c]at w1 w2 w3⊢;simp only[AH,AS,AF,AJ,List.cons_append,List.nil_append]at hL hN hP d1 d2 d3;simp only[AH,AS,AF,AJ,List.cons_append,List.nil_append,hL,hN,hP,go_sem,d1,d2,d3,w1,w2,w3];rw[if_pos (by omega),if_pos (by omega),if_pos (by omega)]
 ·have hi:=Jl ht.q u c;have hcnt:=ht.q.count;have hat:=(Qlm ht.q ht.at1 ht.at0 u c).1;have hcl:=N_ ht.q u;have hlen:=ht.q.len;have hpos:=ht.q.pos _ hi;have hin:(0:Int)<=(iT t u:Int)/\(iT t u:Int)<(t.aE.length:Int):=by omega
  have hneg: ¬((iT t u:Int)<0):=by omega
  have d1:=h0 (c:=pcA t.aE (iT t u)) (u:=clT t u) hx.ok.a (by omega);have d2:=h1 (c:=pcA t.aE (iT t u)) (u:=clT t u) hx.ok.b (by omega);have d3:=h2 (c:=pcA t.aE (iT t u)) (u:=clT t u) hx.ok.c (by omega);unfold shT at*;rw[if_neg c]at hP;simp only[if_neg c]at w1 w2 w3⊢;simp only[AH,AS,AF,AJ,AA,List.cons_append,List.nil_append]at hL hN hP d1 d2 d3;simp only[AH,AS,AF,AJ,AA,List.cons_append,List.nil_append,hL,hN,hP,go_sem,List.length_map,if_pos hin,Int.toNat_natCast,K8 hi,if_neg hneg,d1,d2,d3,w1,w2,w3]
theorem Z34 {p:Pth} {x:Ax3} {t:Trk} (hp:GoodPath p) (hx:Ax3M x) (ht:TH t) (u:Int):Nx (AH p++AF x++AS t++[I u])=some (ptR (B4 p x t u)):=by
 have hs:=Qlr ht.q u;exact Zuz hp hx ht (Zle ht.q u) (Zgc hp hx (by unfold i64;omega)) (Qu4 ht.q u) (fun v hb=>S6 hb v) (fun hb hu=>Zkh (S6 hb) hb hu) (fun hb hu=>Zjt (S6 hb) hb hu) (fun hb hu=>Zkm (S6 hb) hb hu)
theorem Zz3 {MS MD MM MF MA ML MC:Fn} {p:Pth} {x:Ax3} {t:Trk} {u:Int} (hp:GoodPath p) (hx:Ax3M x) (ht:TH t) (hC:MC [I u,I t.length]=some [I (clT t u)]) (hL:ML (AS t++[I (clT t u)])=some [I (Be t u)]) (hA:MA (AH p++[I (Be t u)])=some (ptR (atP p (Be t u))))
  (hF:MF (AS t++[I (clT t u)])=some [I (if t.aE=[]then-1 else(iT t u:Int))]) (hM:∀{a:Axs} {q:Int},AxOK a->okB q->MM (AJ a++[I q])=some [I (E6 a q)]) (hD:∀{a:Axs} (v:Int),(0<=a.back/\a.back<=1000)->MD (AJ a++[I v])=some [I (ES a v)])
  (h0:∀{a:Axs} {c:Pce} {u:Int},(0<=a.back/\a.back<=1000)->(0<=u-c.at_/\u-c.at_<=2000000000000000)->MS (AJ a++AA c++[I 0,I u])=some [I (De a c.move c.at_ c.was.x c.dirs.x u)])
  (h1:∀{a:Axs} {c:Pce} {u:Int},(0<=a.back/\a.back<=1000)->(0<=u-c.at_/\u-c.at_<=2000000000000000)->MS (AJ a++AA c++[I (wrap .i64 (0+1)),I u])=some [I (De a c.move c.at_ c.was.y c.dirs.y u)])
  (h2:∀{a:Axs} {c:Pce} {u:Int},(0<=a.back/\a.back<=1000)->(0<=u-c.at_/\u-c.at_<=2000000000000000)->MS (AJ a++AA c++[I (wrap .i64 (wrap .i64 (0+1)+1)),I u])=some [I (De a c.move c.at_ c.was.z c.dirs.z u)]):
  Qen MS MD MM MF MA ML MC (AH p++AF x++AS t++[I u])=some (ptR (B4 p x t u)):=by
 have he:=Z16 MS MD MM MF MA ML MC u p x t;refine Eq.trans he ?_;obtain⟨o1,o2,o3⟩:=YB hp (Be t u);have m1:=hM hx.a o1;have m2:=hM hx.b o2;have m3:=hM hx.c o3;have b1:=Na hx.a o1;have b2:=Na hx.b o2;have b3:=Na hx.c o3;have s1:=Mj hx.ok.a ht u Pt.x;have s2:=Mj hx.ok.b ht u Pt.y;have s3:=Mj hx.ok.c ht u Pt.z;unfold B4 Jf;generalize E6 x.a (atP p (Be t u)).x=q1 at*;generalize E6 x.b (atP p (Be t u)).y=q2 at*;generalize E6 x.c (atP p (Be t u)).z=q3 at*;have w1:wrap .i64 (q1+shT x.a t u Pt.x)=q1+shT x.a t u Pt.x:=Ae (by omega);have w2:wrap .i64 (q2+shT x.b t u Pt.y)=q2+shT x.b t u Pt.y:=Ae (by omega);have w3:wrap .i64 (q3+shT x.c t u Pt.z)=q3+shT x.c t u Pt.z:=Ae (by omega);by_cases c:t.aE=[]
 ·have d1:=hD t.dirs.x hx.ok.a;have d2:=hD t.dirs.y hx.ok.b;have d3:=hD t.dirs.z hx.ok.c;unfold shT at*;rw[if_pos c]at hF;simp only[if_pos c]at w1 w2 w3⊢;simp only[AH,AS,AJ,List.cons_append,List.nil_append]at hL hA hF d1 d2 d3 m1 m2 m3;simp only[hC,hL,hA,hF,go_sem,m1,m2,m3,d1,d2,d3,w1,w2,w3];rw[if_pos (by omega),if_pos (by omega),if_pos (by omega)]
 ·have hi:=Jl ht.q u c;have hcnt:=ht.q.count;have hat:=(Qlm ht.q ht.at1 ht.at0 u c).1;have hcl:=N_ ht.q u;have hlen:=ht.q.len;have hpos:=ht.q.pos _ hi;have hin:(0:Int)<=(iT t u:Int)/\(iT t u:Int)<(t.aE.length:Int):=by omega
  have hneg: ¬((iT t u:Int)<0):=by omega
  have d1:=h0 (c:=pcA t.aE (iT t u)) (u:=clT t u) hx.ok.a (by omega);have d2:=h1 (c:=pcA t.aE (iT t u)) (u:=clT t u) hx.ok.b (by omega);have d3:=h2 (c:=pcA t.aE (iT t u)) (u:=clT t u) hx.ok.c (by omega);unfold shT at*;rw[if_neg c]at hF;simp only[if_neg c]at w1 w2 w3⊢;simp only[AH,AS,AJ,AA,List.cons_append,List.nil_append]at hL hA hF d1 d2 d3 m1 m2 m3;simp only[hC,hL,hA,hF,go_sem,m1,m2,m3,List.length_map,if_pos hin,Int.toNat_natCast,K8 hi,if_neg hneg,d1,d2,d3,w1,w2,w3]
theorem Z3m {p:Pth} {x:Ax3} {t:Trk} (hp:GoodPath p) (hx:Ax3M x) (ht:TH t) (u:Int):Fe (AH p++AF x++AS t++[I u])=some (ptR (B4 p x t u)):=by
 have hs:=Qlr ht.q u;have hpl:=S8 ht.q (clT t u);rw[Zfo ht.q]at hpl;exact Zz3 hp hx ht Qi0 hpl (Zhw hp (by unfold i64;omega)) (Q68 ht.q u) (fun h1 h2=>Zqb h1 h2) (fun v hb=>Tc hb v) (fun hb hu=>Z0h (Tc hb) hb hu) (fun hb hu=>Zfx (Tc hb) hb hu) (fun hb hu=>Zjg (Tc hb) hb hu)
end Go.Bm
namespace Go.Bm
open Classical
theorem Qxx {x:Ax3} {mv:Int} {Q:Int->Pt->Prop} {a s:Int} {d:Pt} {l:List Pce} (h:ET x mv Q a s d l) (hne:l≠[]):(pcA l 0).at_=a:=by
 cases l with
 |nil=>exact absurd rfl hne
 |cons c l=>rw[KN];exact h.1
theorem Qzc {x:Ax3} {mv:Int} {Q:Int->Pt->Prop}:∀{a s:Int} {d:Pt} {l:List Pce},ET x mv Q a s d l->∀i,i+1<l.length->(pcA l (i+1)).at_=eI l i
 |a,s,d,[],h,i,hi=>by simp at hi
 |a,s,d,c::l,h,0,hi=>by
  obtain⟨h1,h2,h3,h4,h5⟩:=h;unfold eI;rw[Id,KN,Qxx h5 (fun e=>by rw[e]at hi;simp at hi),h1]
 |a,s,d,c::l,h,i+1,hi=>by
  obtain⟨h1,h2,h3,h4,h5⟩:=h;have:=Qzc h5 i (by simpa using hi);unfold eI at*;rw[Id,Id];exact this
theorem Zoa {p:Pth} {x:Ax3} (d:Pt) (a b:Int) (hx:Ax3OK x) (hp:GoodPath p):TH (ER p x d a b):=by
 obtain⟨d',h1,h2,-⟩:=Qsi (d:=d) (a:=a) (b:=b) (Q:=fun _ _=>True) hx hp (fun _ _ _ _ _ _ _ _=>trivial);exact⟨Zqq d a b hx hp,Qxx h1.ch,Qzc h1.ch⟩
end Go.Bm
namespace Go.Bm
open Classical
def wF (z:Int):List Pce->Int
 |[]=> -1
 |c::l=>if c.move≠0/\0<=(z-c.s)*c.move/\(z-c.s)*c.move<=c.units then c.at_+(z-c.s)*c.move else wF z l
def I6 (t:Trk) (z:Int):Int:=if z=t.start then 0 else wF z t.aE
theorem Qu9 {t:Trk} (h:TQ t) {z:Int} (hz:i64 z):∀(k j:Nat),j+k=t.aE.length->wF z (t.aE.drop j)= -1/\An QZ [I z, .view Ap (t.aE.map AA),I t.aE.length,I j]=some (2,[])\/
  An QZ [I z, .view Ap (t.aE.map AA),I t.aE.length,I j]=some (1,[I (wF z (t.aE.drop j))])
 |0,j,hj=>by
  left;rw[List.drop_of_length_le (by omega)];refine⟨rfl,A3 (o:=(2,_)) ?_ (by simp)⟩;rw[Q6w,AM (by omega)]
 |k+1,j,hj=>by
  have hlt:j<t.aE.length:=by omega
  have hcnt:=h.count;have hin:(0:Int)<=(j:Int)/\(j:Int)<(t.aE.length:Int):=by omega
  have hpos:=h.pos j hlt;have hl:=h.len;have hs:=h.s j hlt;have hmv:=h.move j hlt;have e:t.aE.drop j=pcA t.aE j::t.aE.drop (j+1):=by
   have e1:pcA t.aE j=t.aE[j]:=by unfold pcA;simp[hlt]
   rw[e1];exact J5 _ _ hlt
  have hst:QZ [I z, .view Ap (t.aE.map AA),I t.aE.length,I j]=if(pcA t.aE j).move≠0/\0<=(z-(pcA t.aE j).s)*(pcA t.aE j).move/\(z-(pcA t.aE j).s)*(pcA t.aE j).move<=(pcA t.aE j).units then
    some (1,[I ((pcA t.aE j).at_+(z-(pcA t.aE j).s)*(pcA t.aE j).move)])else some (0,[I z, .view Ap (t.aE.map AA),I t.aE.length,I (j+1:Nat)]):=by
   rw[Q6w];simp only[go_sem,List.length_map,Int.toNat_natCast,K8 hlt,if_pos hin,Ae (x:=(j:Int)+1) (by omega)];rw[if_pos (by omega)];unfold eI at hpos;unfold i64 at hz;generalize pcA t.aE j=c at*;have wrap2:∀y:Int,-9223372036854775808-2000000000000000<=y->y<=9223372036854775807+2000000000000000->(wrap .i64 y=y/\ -9223372036854775808<=y/\y<=9223372036854775807)\/(wrap .i64 y=y+18446744073709551616/\y< -9223372036854775808)\/(wrap .i64 y=y-18446744073709551616/\y>9223372036854775807):=by
    intro y y1 y2;have hw:=Zlb y;unfold i64 at hw;by_cases c1: -9223372036854775808<=y/\y<=9223372036854775807
    ·exact .inl ⟨Ae c1,c1⟩
    ·have:=Qnt y;omega
   by_cases c0:c.move=0
   ·have hP: ¬(c.move≠0/\0<=(z-c.s)*c.move/\(z-c.s)*c.move<=c.units):=fun g=>g.1 c0;rw[if_neg (by omega),if_neg hP];rfl
   ·rw[if_pos c0];have hm:c.move=1\/c.move= -1:=by omega
    have a1:=wrap2 (z-c.s) (by omega) (by omega);have hw2:wrap .i64 (wrap .i64 (z-c.s)*c.move)=(z-c.s)*c.move\/((wrap .i64 (wrap .i64 (z-c.s)*c.move)<0\/wrap .i64 (wrap .i64 (z-c.s)*c.move)>1000000000000000)/\((z-c.s)*c.move<0\/(z-c.s)*c.move>1000000000000000)):=by
     generalize wrap .i64 (z-c.s)=y at*;have a2:=wrap2 (y*c.move) (by rcases hm with hm|hm<;>rw[hm]<;>omega) (by rcases hm with hm|hm<;>rw[hm]<;>omega);rcases hm with hm|hm<;>rw[hm]at a2⊢<;>omega
    generalize wrap .i64 (wrap .i64 (z-c.s)*c.move)=n at*;by_cases c1:0<=(z-c.s)*c.move/\(z-c.s)*c.move<=c.units
    ·have en:n=(z-c.s)*c.move:=by omega
     have hP:c.move≠0/\0<=(z-c.s)*c.move/\(z-c.s)*c.move<=c.units:=⟨c0,c1⟩;rw[if_pos hP,en,if_pos c1.1,if_pos c1.2,Ae (by omega)]
    ·have hP: ¬(c.move≠0/\0<=(z-c.s)*c.move/\(z-c.s)*c.move<=c.units):=fun g=>c1 g.2;rw[if_neg hP];by_cases c2:0<=n
     ·rw[if_pos c2,if_neg (by omega)];rfl
     ·rw[if_neg c2];rfl
  rw[e];by_cases c:(pcA t.aE j).move≠0/\0<=(z-(pcA t.aE j).s)*(pcA t.aE j).move/\(z-(pcA t.aE j).s)*(pcA t.aE j).move<=(pcA t.aE j).units
  ·rw[if_pos c]at hst;right;rw[A3 hst (by simp)];unfold wF;rw[if_pos c]
  ·rw[if_neg c]at hst;rw[Bj hst];unfold wF;rw[if_neg c];exact Qu9 h hz k (j+1) (by omega)
theorem Zib {t:Trk} (h:TQ t) {z:Int} (hz:i64 z):NT (AS t++[I z])=some [I (I6 t z)]:=by
 have he:=Zs0 Me (t.aE.map AA) t.length t.start t.dirs.x t.dirs.y t.dirs.z z;unfold NT;refine Eq.trans he ?_;unfold I6;rw[List.length_map];by_cases c:z=t.start
 ·rw[if_pos c,Bi (by simp[c])]
 ·rw[if_neg c,A_ (by simp[c])];rcases Qu9 h hz t.aE.length 0 (by omega)with⟨h1,h2⟩|h2
  ·rw[List.drop_zero]at h1;have h2':Me [I z, .view Ap (t.aE.map AA),I t.aE.length,I 0]=some (2,[]):=h2;generalize Me=N at*;rw[h1];simp only[h2',go_sem];rfl
  ·rw[List.drop_zero]at h2;have h2':Me [I z, .view Ap (t.aE.map AA),I t.aE.length,I 0]=some (1,[I (wF z t.aE)]):=h2;generalize Me=N at*;simp only[h2',go_sem]
end Go.Bm
namespace Go.Bm
theorem Zx6 (l:Rw) (h:l.length<=100000):Out (fun o=>(wA o 0).length<=l.length) (QD [.view Aa l]):=by
 show Out _ (WO (An Qhd) [.view Aa l]);rw[Zf6];refine .bind (p:=fun o=>o.1=1/\(wA o.2 0).length<=l.length) ?_ fun o g=>by rw[g.1];exact .some g.2
 refine CB (fun s:Rw×Nat=>[.view Aa s.1, .view Aa l,I (s.2:Int)]) (fun s=>1<=s.2/\s.2<=l.length+1/\s.1.length+1<=s.2) (fun s=>l.length+1-s.2) _ ?_ ([],1) (by simp);rintro⟨v,i⟩ ⟨g1,g2,g3⟩;dsimp only at*;rw[Zpp];rw[Ae (x:=(i:Int)-1) (by omega),Ae (x:=(i:Int)+1) (by omega)];refine .cond (fun c=> ?_) (fun c=> ?_)
 ·have c:=Bp c;refine .cond (fun _=> ?_) fun c=>by simp at c;omega
  refine .cond (fun _=> ?_) fun c=>by simp at c;omega
  refine .cond (fun _=> ?_) fun c=>by rw[B0 (by simp;omega)]at c;cases c
  exact .some (.inl ⟨rfl,(_,i+1),rfl,by simp;omega,by simp;omega⟩)
 ·have c:=Bt c;exact .some (.inr ⟨by simp,rfl,by show v.length<=l.length;omega⟩)
theorem Zoo (l:Rw) (n:Int) (h:l.length<=100000):(PX [.view Aa l,I n]).isSome=true:=by
 show(Up (An Qcr) [.view Aa l,I n]).isSome=true;rw[Z7m];refine Out.is (p:=fun _=>True) ?_;refine .bind (p:=fun o=>o.1=1\/o.1=2) ?_ fun o g=>by rcases g with g|g<;>rw[g]<;>exact .some trivial
 refine CB (fun s:Nat=>[I n, .view Aa l,I (l.length:Int),I (s:Int)]) (fun s=>s<=l.length) (fun s=>l.length-s) _ ?_ 0 (by simp);intro i g;rw[Zdp];rw[Ae (x:=(i:Int)+1) (by omega)];refine .cond (fun c=> ?_) (fun c=> ?_)
 ·have c:=Bp c;refine .cond (fun _=> ?_) fun c=>by simp at c;omega
  refine .cond (fun _=> .some (.inr ⟨by simp, .inl rfl⟩)) fun _=> .cond (fun _=> .some (.inr ⟨by simp, .inl rfl⟩)) fun _=> ?_;exact .some (.inl ⟨rfl,i+1,rfl,by omega,by omega⟩)
 ·exact .some (.inr ⟨by simp, .inr rfl⟩)
theorem Zdf {MB MD:Fn} (hD:∀l:Rw,l.length<=100000->Out (fun o=>(wA o 0).length<=l.length) (MD [.view Aa l])) (hB:∀(l:Rw) n,l.length<=100000->(MB [.view Aa l,I n]).isSome=true)
  (x0 x1 x2 x3 x4 x5 x6 x7 x8:Int) (x9 l:Rw) (h:l.length<=100000):(Qoz MB MD [I x0,I x1,I x2,I x3,I x4,I x5,I x6,I x7,I x8, .view Aa x9, .view Aa l]).isSome=true:=by
 rw[Z55];obtain⟨a,ha,ga⟩:=hD l h;rw[ha];simp only[Option.bind_some];generalize wA a 0=la at*;obtain⟨b,hb,gb⟩:=hD la (by omega);rw[hb];simp only[Option.bind_some];generalize wA b 0=lb at*;obtain⟨c,hc,gc⟩:=hD lb (by omega);rw[hc];simp only[Option.bind_some];generalize wA c 0=lc at*;refine E9 (hB _ _ (by omega)) fun _ _=>BP (fun _=>rfl) fun _=>E9 (hB _ _ (by omega)) fun _ _=>BP (fun _=>rfl) fun _=>E9 (hB _ _ (by omega)) fun _ _=>BP (fun _=>rfl) fun _=>rfl
theorem Zrx (x0 x1 x2 x3 x4 x5 x6 x7 x8:Int) (x9 l:Rw) (h:l.length<=100000):(L2 [I x0,I x1,I x2,I x3,I x4,I x5,I x6,I x7,I x8, .view Aa x9, .view Aa l]).isSome=true:=Zdf Zx6 Zoo x0 x1 x2 x3 x4 x5 x6 x7 x8 x9 l h
theorem Z7e {M:Fn} {x:Ax3} {k:Int} (hk:0<=k/\k<=2) {l out:Rw} (h0:out.length=l.length) (h1:l.length<=100000):
  Out (fun o=>o.1=1/\∃v:Rw,o.2= .view Aa v:: .view kPt l::I k::I k::AF x/\v.length=l.length) (An (Lg M) (.view Aa out:: .view kPt l::I k::I k::I (l.length:Int)::I 0::AF x)):=by
 refine CB (fun s:Rw×Nat=> .view Aa s.1:: .view kPt l::I k::I k::I (l.length:Int)::I (s.2:Int)::AF x) (fun s=>s.1.length=l.length/\s.2<=l.length) (fun s=>l.length-s.2) _ ?_ (out,0) ⟨h0,by simp⟩;rintro⟨v,i⟩ ⟨g1,g2⟩;dsimp only at*;rw[Z0r];rw[Ae (x:=(i:Int)+1) (by omega)];refine .cond (fun c=> ?_) (fun c=> ?_)
 ·have c:=Bp c;refine .cond (fun _=> ?_) fun c=>by simp at c;omega
  refine .cond (fun _=> ?_) fun c0=> .cond (fun _=> ?_) fun c1=> .cond (fun _=> ?_) fun c2=> ?_
  ·refine .cond (fun _=> ?_) fun c=>by simp at c;omega
   exact .some (.inl ⟨rfl,(_,i+1),rfl,by simp;omega,by simp;omega⟩)
  ·refine .cond (fun _=> ?_) fun c=>by simp at c;omega
   exact .some (.inl ⟨rfl,(_,i+1),rfl,by simp;omega,by simp;omega⟩)
  ·refine .cond (fun _=> ?_) fun c=>by simp at c;omega
   exact .some (.inl ⟨rfl,(_,i+1),rfl,by simp;omega,by simp;omega⟩)
  ·have c0:=Bt c0;have c1:=Bt c1;have c2:=Bt c2
   simp at c0 c1 c2;omega
 ·exact .some (.inr ⟨by simp,rfl,v,rfl,g1⟩)
theorem Zug {M:Fn} (hM:∀(x0 x1 x2 x3 x4 x5 x6 x7 x8:Int) (x9 l:Rw),l.length<=100000->(M [I x0,I x1,I x2,I x3,I x4,I x5,I x6,I x7,I x8, .view Aa x9, .view Aa l]).isSome=true) (x:Ax3) {l:Rw} (h1:l.length<=100000):
  (R2 M (An (Lg M)) (An (Sn M (An (Lg M)))) (AF x++[.view kPt l])).isSome=true:=by
 show(R2 M (An (Lg M)) (An (Sn M (An (Lg M)))) [I x.a.step,I x.a.speed,I x.a.accel,I x.a.jerk,I x.a.low,I x.a.high,I x.a.back,I x.a.origin,I x.a.spacing, .view Aa (x.a.pitch.map As),I x.b.step,I x.b.speed,I x.b.accel,I x.b.jerk,I x.b.low,I x.b.high,I x.b.back,I x.b.origin,I x.b.spacing, .view Aa (x.b.pitch.map As),I x.c.step,I x.c.speed,I x.c.accel,I x.c.jerk,I x.c.low,I x.c.high,I x.c.back,I x.c.origin,I x.c.spacing, .view Aa (x.c.pitch.map As), .view kPt l]).isSome=true;rw[Zsf];refine Out.is (p:=fun _=>True) ?_;refine .bind (p:=fun o=>o.1=1\/o.1=2) ?_ fun o g=>by rcases g with g|g<;>rw[g]<;>exact .some trivial
 refine CB (fun s:Nat=> .view kPt l::I (s:Int)::AF x) (fun s=>s<=3) (fun s=>3-s) _ ?_ 0 (by omega);intro k hk;rw[Zcg];refine .cond (fun c=> ?_) (fun c=> ?_)
 ·have c:=Bp c;refine .cond (fun _=> ?_) fun c=>by simp at c
  refine .cond (fun _=> ?_) fun c=>by simp at c;omega
  refine .bind (Z7e (M:=M) (x:=x) (k:=(k:Int)) (by omega) (by simp) h1) fun o g=> ?_;obtain⟨g1,v,g2,g3⟩:=g;obtain⟨o1,o2⟩:=o;subst g1;subst g2;refine .cond (fun _=> ?_) fun c=>by simp at c
  have e:wrap .i64 ((k:Int)+1)=((k+1:Nat):Int):=by rw[Ae (by omega)];rfl
  have hw:∀(x0 x1 x2 x3 x4 x5 x6 x7 x8:Int) (x9:Rw),(M [I x0,I x1,I x2,I x3,I x4,I x5,I x6,I x7,I x8, .view Aa x9, .view Aa v]).isSome=true:=fun x0 x1 x2 x3 x4 x5 x6 x7 x8 x9=>hM x0 x1 x2 x3 x4 x5 x6 x7 x8 x9 v (by omega);refine .cond (fun _=> ?_) fun c0=> .cond (fun _=> ?_) fun c1=> .cond (fun _=> ?_) fun c2=> ?_
  ·refine .ibind (hw _ _ _ _ _ _ _ _ _ _) fun _ _=> .cond (fun _=> .some (.inr ⟨by simp, .inl rfl⟩)) fun _=> .some (.inl ⟨rfl,k+1,?_,by omega,by omega⟩);simp only[gA,wA,bA,jA,nth,Af,BI,e]
  ·refine .ibind (hw _ _ _ _ _ _ _ _ _ _) fun _ _=> .cond (fun _=> .some (.inr ⟨by simp, .inl rfl⟩)) fun _=> .some (.inl ⟨rfl,k+1,?_,by omega,by omega⟩);simp only[gA,wA,bA,jA,nth,Af,BI,e]
  ·refine .ibind (hw _ _ _ _ _ _ _ _ _ _) fun _ _=> .cond (fun _=> .some (.inr ⟨by simp, .inl rfl⟩)) fun _=> .some (.inl ⟨rfl,k+1,?_,by omega,by omega⟩);simp only[gA,wA,bA,jA,nth,Af,BI,e]
  ·have c0:=Bt c0;have c1:=Bt c1;have c2:=Bt c2
   simp[gA,wA,bA,jA,nth,Af]at c0 c1 c2;omega
 ·exact .some (.inr ⟨by simp, .inr rfl⟩)
theorem Znh (x:Ax3) {l:Rw} (h1:l.length<=100000):(Nu (AF x++[.view kPt l])).isSome=true:=Zug Zrx x h1
theorem Q0w (u:Int):(Jt [I u]).isSome=true:=by
 show(Xc [I u]).isSome=true;rw[Zg0];exact BP (fun _=>rfl) fun _=>rfl
end Go.Bm
namespace Go.Bm
structure Fix (p : Pth) (x : Ax3) (t : Trk) : Prop where
 p:GoodPath p
 x:Ax3M x
 t:TH t
theorem S9 {p:Pth} {x:Ax3} {t:Trk} (h:Fix p x t) (u:Int):Fe (pxt p x t [I u])=some (ptR (B4 p x t u)):=Z3m h.p h.x h.t u
theorem Zp2 {MA MM MU:Fn} {p:Pth} {x:Ax3} {t:Trk} (hA:∀{l:Rw},l.length<=100000->(MA (AF x++[.view kPt l])).isSome=true) (hM:∀u,(MM (pxt p x t [I u])).isSome=true) (hU:∀u,(MU [I u]).isSome=true) {way:Rw} (hw:way.length<=100000):
  (Qnk MA MM MU (An (Qlu MA MM MU)) (pxt p x t [.view Aa way])).isSome=true:=by
 rw[Zww];refine Out.is (p:=fun _=>True) ?_;refine .bind (p:=fun o=>o.1=1\/o.1=2) ?_ fun o g=>by rcases g with g|g<;>rw[g]<;>exact .some trivial
 refine CB (fun s:Rw×Nat=> .view kPt s.1:: .view Aa way::I (way.length:Int)::I (s.2:Int)::pxt p x t []) (fun s=>s.1.length<=4/\s.2<=way.length) (fun s=>way.length-s.2) _ ?_ ([],0) (by simp);rintro⟨v,i⟩ ⟨g1,g2⟩;dsimp only at g1 g2;rw[Zsr];try dsimp only[g_s_planner_smooth_3_1]
 rw[Ae (x:=(i:Int)+1) (by omega)];refine .cond (fun c=> ?_) (fun c=> ?_)
 ·have c:=Bp c;refine .cond (fun _=> ?_) fun c=>by simp at c;omega
  refine .ibind (hU _) fun a _=> .ibind (hM _) fun b _=> ?_;refine .cond (fun _=> ?_) fun c=>by rw[B0 (by simp;omega)]at c;cases c
  generalize [jA b 0,jA b 1,jA b 2]=q;refine .cond (fun _=> ?_) fun c4=> ?_
  ·refine .cond (fun _=> ?_) fun c=>by simp at c;omega
   refine .cond (fun _=> ?_) fun c=>by rw[B0 (by simp)]at c;cases c
   refine .ibind (hA (l:=List.drop (Int.toNat 1) (v++[q])) (by simp;omega)) fun _ _=> .cond (fun _=> .some (.inr ⟨by simp, .inl rfl⟩)) fun _=> ?_;exact .some (.inl ⟨rfl,(_,i+1),rfl,by simp;omega,by simp;omega⟩)
  ·have c4:=Bt c4;simp at c4;refine .ibind (hA (l:=v++[q]) (by simp;omega)) fun _ _=> .cond (fun _=> .some (.inr ⟨by simp, .inl rfl⟩)) fun _=> ?_;exact .some (.inl ⟨rfl,(_,i+1),rfl,by simp;omega,by simp;omega⟩)
 ·exact .some (.inr ⟨by simp, .inr rfl⟩)
theorem Zcl {p:Pth} {x:Ax3} {t:Trk} (h:Fix p x t) {way:Rw} (hw:way.length<=100000):(Po (pxt p x t [.view Aa way])).isSome=true:=
 Zp2 (Znh x) (fun u=>by rw[S9 h u];rfl) Q0w hw
theorem Zex (x0 x1:Int) (b0 b1 b2:Bool) (x5 x6 x7 x8 x9 x10 x11 x12 x13 x14:Int):(Qn [I x0,I x1,B b0,B b1,B b2,I x5,I x6,I x7,I x8,I x9,I x10,I x11,I x12,I x13,I x14]).isSome=true:=by
 show(UQ [I x0,I x1,B b0,B b1,B b2,I x5,I x6,I x7,I x8,I x9,I x10,I x11,I x12,I x13,I x14]).isSome=true;rw[Z2j]
 repeat' first|exact rfl|refine BP (fun _=> ?_) (fun _=> ?_)
theorem VW {p:Pth} {x:Ax3} {t:Trk} (h:Fix p x t) (u:Int):i64 (Be t u):=by
 have:=Qlr h.t.q u;unfold i64;omega
end Go.Bm
namespace Go.Bm
theorem Yy:∀(l:List Sgm) (s:Int),l≠[]->(AL l s).1<l.length
 |[],_,h=>absurd rfl h
 |[g],s,_=>by unfold AL;split<;>simp
 |g::h::l,s,_=>by
  by_cases c:s<g.len
  ·rw[AL,if_pos c];simp
  ·rw[Qcx c];have:=Yy (h::l) (s-g.len) (by simp);simp at this⊢;omega
theorem Zcy {p:Pth} {x:Ax3} {t:Trk} (h:Fix p x t) {s:Int} (hs:i64 s):∃i v:Int,Es (AH p++[I s])=some [I i,I v]/\(i= -1\/0<=i/\i<p.aF.length)/\(p.aF≠[]->0<=i):=by
 rw[Ya (h.p.ok) hs];by_cases c:p.aF=[]
 ·rw[if_pos c];exact⟨-1,0,rfl, .inl rfl,fun h=>absurd c h⟩
 ·rw[if_neg c];have:=Yy p.aF (max s 0) c;exact⟨_,_,rfl, .inr ⟨by omega,by omega⟩,fun _=>by omega⟩
theorem Z4t {MO MF MP MU:Fn} {p:Pth} {t:Trk} (hO:∀(x0 x1:Int) (b0 b1 b2:Bool) (x5 x6 x7 x8 x9 x10 x11 x12 x13 x14:Int),(MO [I x0,I x1,B b0,B b1,B b2,I x5,I x6,I x7,I x8,I x9,I x10,I x11,I x12,I x13,I x14]).isSome=true)
  (hF:∀s,i64 s->∃i v:Int,MF (AH p++[I s])=some [I i,I v]/\(i= -1\/0<=i/\i<p.aF.length)/\(p.aF≠[]->0<=i)) (hP:∀u,∃s,MP (AS t++[I u])=some [I s]/\i64 s) (hU:∀u,(MU [I u]).isSome=true) (hne:p.aF≠[])
  (a b c o0 o1:Int) (b0 b1 b2:Bool) (u:Int):
  (ZG MO MF MP MU (EF p t [I a,I b,I c,I o0,I o1,B b0,B b1,B b2,I u])).isSome=true:=by
 rw[Zby];refine E9 (hU _) fun q _=> ?_;obtain⟨s,h1,h2⟩:=hP (gA q 0);rw[h1];simp only[Option.bind_some];obtain⟨i,v,g1,g2,g3⟩:=hF s h2;simp only[gA,wA,bA,jA,nth,Af];rw[g1];simp only[Option.bind_some,gA,wA,bA,jA,nth,Af];have g3:=g3 hne;refine BP (fun _=>E9 (hO _ _ _ _ _ _ _ _ _ _ _ _ _ _ _) fun _ _=>rfl) fun c=> ?_;simp at c;have:=c (decide_eq_true g3);omega
theorem Zrt {p:Pth} {x:Ax3} {t:Trk} (h:Fix p x t) (hne:p.aF≠[]) (a b c o0 o1:Int) (b0 b1 b2:Bool) (u:Int):
  (OA (EF p t [I a,I b,I c,I o0,I o1,B b0,B b1,B b2,I u])).isSome=true:=
 Z4t Zex (fun _ hs=>Zcy h hs) (fun u=>⟨_,S8 h.t.q u,VW h u⟩) Q0w hne a b c o0 o1 b0 b1 b2 u
theorem Zm6 {MT MF:Fn} {p:Pth} {t:Trk} {a b c o0 o1:Int} {b0 b1 b2:Bool} (hT:p.aF≠[]->∀u,(MT (EF p t [I a,I b,I c,I o0,I o1,B b0,B b1,B b2,I u])).isSome=true)
  (hF:∀a b c x3 x4 x5 x6 x7 x8,Out (fun o=>(wA o 0).length<=4096) (MF [I a,I b,I c,I x3,I x4,I x5,I x6,I x7,I x8])) (m0 m1 m2 m3 m4 m5:Int):
  (Qfa MT MF (An (U6 MT MF)) (EF p t [I a,I b,I c,I o0,I o1,B b0,B b1,B b2,I m0,I m1,I m2,I m3,I m4,I m5])).isSome=true:=by
 rw[Z6o];obtain⟨o,h1,h2⟩:=hF a b c m0 m1 m2 m3 m4 m5;rw[h1];simp only[Option.bind_some];generalize wA o 0=sp at*;refine BP (fun _=>rfl) fun _=>BP (fun _=>rfl) fun c0=> ?_;have hne:p.aF≠[]:=by
  intro e;rw[e]at c0;simp at c0
 have hT:=hT hne;refine E9 (hT _) fun _ _=>BP (fun _=>rfl) fun _=> ?_;refine Out.is (p:=fun _=>True) ?_;refine .bind (p:=fun o=>o.1=1\/o.1=2) ?_ fun o g=>by rcases g with g|g<;>rw[g]<;>exact .some trivial
 refine CB (fun s:Int×Nat=>I s.1:: .view Aa sp::I (sp.length:Int)::I (s.2:Int)::EF p t [I a,I b,I c,I o0,I o1,B b0,B b1,B b2]) (fun s=>s.2<=sp.length) (fun s=>sp.length-s.2) _ ?_ (m0,0) (by simp);rintro⟨v,i⟩ g;dsimp only at g;rw[Zpy];rw[Ae (x:=(i:Int)+1) (by omega)];refine .cond (fun c=> ?_) (fun c=> ?_)
 ·have c:=Bp c;refine .cond (fun _=> ?_) fun c=>by simp at c;omega
  refine .ibind (hT _) fun _ _=> .cond (fun _=> .some (.inr ⟨by simp, .inl rfl⟩)) fun _=> ?_;exact .some (.inl ⟨rfl,(_,i+1),rfl,by dsimp only;omega,by dsimp only;omega⟩)
 ·exact .some (.inr ⟨by simp, .inr rfl⟩)
theorem Zlv {p:Pth} {x:Ax3} {t:Trk} (h:Fix p x t) (a b c o0 o1:Int) (b0 b1 b2:Bool) (m0 m1 m2 m3 m4 m5:Int):
  (LN (EF p t [I a,I b,I c,I o0,I o1,B b0,B b1,B b2,I m0,I m1,I m2,I m3,I m4,I m5])).isSome=true:=
 Zm6 (fun hne u=>Zrt h hne a b c o0 o1 b0 b1 b2 u) Qp4 m0 m1 m2 m3 m4 m5
end Go.Bm
namespace Go.Bm
theorem Zdo {a b v u q r:Nat} (hU:v<a*4294967296+b) (hu:u<4294967296) (hq:v=q*a+r) (h:4294967296<=q\/r*4294967296+u<q*b):(v*4294967296+u)/(a*4294967296+b)<q:=by
 have hy:0<a*4294967296+b:=by omega
 rw[Nat.div_lt_iff_lt_mul hy];rcases h with h|h
 ·have h1:4294967296*(a*4294967296+b)<=q*(a*4294967296+b):=Nat.mul_le_mul_right _ h;omega
 ·have e:q*(a*4294967296+b)=q*a*4294967296+q*b:=by rw[Nat.mul_add,Nat.mul_assoc]
  rw[e];clear e;generalize q*a=p at*;generalize q*b=t at*;subst hq;rw[Nat.add_mul p r 4294967296,Nat.add_assoc];exact Nat.add_lt_add_left h _
theorem Qzh {a b v u q r:Nat} (hU:v<a*4294967296+b) (hq:v=q*a+r) (h:q*b<=r*4294967296+u):q<=(v*4294967296+u)/(a*4294967296+b):=by
 have hy:0<a*4294967296+b:=by omega
 rw[Nat.le_div_iff_mul_le hy];have e:q*(a*4294967296+b)=q*a*4294967296+q*b:=by rw[Nat.mul_add,Nat.mul_assoc]
 rw[e];generalize q*a=p at*;generalize q*b=t at*;omega
theorem Qr6 {a b v u:Nat} (hU:v<a*4294967296+b) (hu:u<4294967296):(v*4294967296+u)/(a*4294967296+b)<4294967296:=by
 rw[Nat.div_lt_iff_lt_mul (by omega)];omega
theorem Qtp {q b:Nat} (hq:q<4294967296) (hb:b<4294967296):q*b<=18446744065119617025:=by
 have:=Nat.mul_le_mul (show q<=4294967295 by omega) (show b<=4294967295 by omega);omega
theorem Yu {α:Type} {F G:Nat->Nat->Option α} {a b v u Q:Nat} (hQ:(v*4294967296+u)/(a*4294967296+b)=Q) (hb:b<4294967296) (ha:2147483648<=a) (ha2:a<4294967296) (hU:v<a*4294967296+b) (hu:u<4294967296) {X:α}
  (hF:∀q r:Nat,q<=4294967297->r<4294967296->F q r=if 4294967296<=q\/r*4294967296+u<q*b then(if 4294967296<=r+a then G (q-1) 0 else F (q-1) (r+a))else G q 0)
  (hG:G Q 0=some X):∀(k q r:Nat),q<=Q+k->Q<=q->v=q*a+r->r<4294967296->q<=4294967297->F q r=some X
 |k,q,r,hk,h1,h2,h3,h4=>by
  rw[hF q r h4 h3];by_cases c:4294967296<=q\/r*4294967296+u<q*b
  ·rw[if_pos c];have h5:=Zdo hU hu h2 c;rw[hQ]at h5;have e:v=(q-1)*a+(r+a):=by
    have:(q-1)*a+a=q*a:=by rw[<-Nat.succ_mul];congr 1;omega
    omega
   by_cases c2:4294967296<=r+a
   ·rw[if_pos c2];have h6:(q-1)*b<=(r+a)*4294967296+u:=by
     have:=Nat.mul_le_mul (show q-1<=4294967296 by omega) (show b<=4294967296 by omega);omega
    have h7:=Qzh hU e h6;rw[hQ]at h7;rw[show q-1=Q by omega];exact hG
   ·rw[if_neg c2]
    match k with
    |0=>omega
    |k+1=>exact Yu hQ hb ha ha2 hU hu hF hG k (q-1) (r+a) (by omega) (by omega) e (by omega) (by omega)
  ·rw[if_neg c];have h7:=Qzh (u:=u) hU h2 (by omega);rw[hQ]at h7;rw[show q=Q by omega];exact hG
theorem Q94 {a b v u:Nat} (hb:b<4294967296) (ha:2147483648<=a) (hU:v<a*4294967296+b) (hu:u<4294967296):(v*4294967296+u)/(a*4294967296+b)<=v/a/\v/a<=4294967297/\v=v/a*a+v%a/\v%a<a:=by
 have e:v=v/a*a+v%a:=by have:=Nat.div_add_mod v a;rw[Nat.mul_comm]at this;omega
 have hm:v%a<a:=Nat.mod_lt _ (by omega);refine⟨?_,?_,e,hm⟩
 ·rw[<-Nat.lt_succ_iff,Nat.div_lt_iff_lt_mul (by omega)];have e2:(v/a).succ*(a*4294967296+b)=(v/a*a+a)*4294967296+(v/a).succ*b:=by rw[Nat.mul_add,<-Nat.mul_assoc,Nat.succ_mul]
  rw[e2];omega
 ·rw[<-Nat.lt_succ_iff,Nat.div_lt_iff_lt_mul (by omega)];omega
theorem wr {x:Nat} (h:x<=18446744073709551615):wrap .u64 (x:Int)=x:=HP (by omega)
theorem Zgo {M:Fn} {y s v0:Int} {a b v u:Nat} (hb:b<4294967296) (ha:2147483648<=a) (ha2:a<4294967296) (hU:v<a*4294967296+b) (hu:u<4294967296):
  An (KV M) [U y,U s,U a,U b,U v,U u,U v0,U ((v/a:Nat):Int),U ((v%a:Nat):Int)]=some (1,[U y,U s,U a,U b,U v,U u,U v0,U (((v*4294967296+u)/(a*4294967296+b):Nat):Int)]):=by
 obtain⟨f1,f2,f3,f4⟩:=Q94 hb ha hU hu;refine Yu (F:=fun q r=>An (KV M) [U y,U s,U a,U b,U v,U u,U v0,U q,U r]) (G:=fun q _=>some (1,[U y,U s,U a,U b,U v,U u,U v0,U q])) rfl hb ha ha2 hU hu ?_ rfl (v/a) _ _ (Nat.le_add_left _ _) f1 f3 (by omega) f2;intro q r hq hr;have w1:wrap .u64 ((r:Int)+(a:Int))=((r+a:Nat):Int):=by rw[<-Int.natCast_add,wr (by omega)]
 have w3:wrap .u64 (wrap .u64 (4294967296*(r:Int))+(u:Int))=((r*4294967296+u:Nat):Int):=by rw[show(4294967296:Int)*r=((r*4294967296:Nat):Int) by omega,wr (by omega),<-Int.natCast_add,wr (by omega)]
 have w4:4294967296<=q->wrap .u64 ((q:Int)-1)=((q-1:Nat):Int):=fun h=>by rw[show(q:Int)-1=((q-1:Nat):Int) by omega,wr (by omega)]
 have hst:=Zfa (DB:=M) y s a b v u v0 q r;rw[w1,w3]at hst;by_cases c1:4294967296<=q
 ·rw[C8 (show(q:Int)>=4294967296 by omega),w4 c1]at hst;show _=if _ then _ else _;rw[if_pos (.inl c1)];by_cases c2:4294967296<=r+a
  ·rw[C8 (show((r+a:Nat):Int)>=4294967296 by omega)]at hst;rw[if_pos c2];exact A3 hst (by simp)
  ·rw[AM (show¬((r+a:Nat):Int)>=4294967296 by omega)]at hst;rw[if_neg c2];exact Bj hst
 ·have hqb:=Qtp (q:=q) (b:=b) (by omega) hb;rw[AM (show¬(q:Int)>=4294967296 by omega),<-Int.natCast_mul,wr (Nat.le_trans hqb (by decide))]at hst;show _=if _ then _ else _;by_cases c3:r*4294967296+u<q*b
  ·rw[C8 (show((q*b:Nat):Int)>((r*4294967296+u:Nat):Int) by omega)]at hst;rw[if_pos (.inr c3)];have hq0:0<q:=by
    rcases Nat.eq_zero_or_pos q with h|h
    ·rw[h]at c3;omega
    ·exact h
   rw[show(q:Int)-1=((q-1:Nat):Int) by omega,wr (by omega)]at hst;by_cases c2:4294967296<=r+a
   ·rw[C8 (show((r+a:Nat):Int)>=4294967296 by omega)]at hst;rw[if_pos c2];exact A3 hst (by simp)
   ·rw[AM (show¬((r+a:Nat):Int)>=4294967296 by omega)]at hst;rw[if_neg c2];exact Bj hst
  ·rw[AM (show¬((q*b:Nat):Int)>((r*4294967296+u:Nat):Int) by omega)]at hst;rw[if_neg (fun h=>h.elim c1 c3)];exact A3 hst (by simp)
theorem Zop {M:Fn} {N:Lp} {y s q1 w:Int} {a b v u:Nat} (hb:b<4294967296) (ha:2147483648<=a) (ha2:a<4294967296) (hU:v<a*4294967296+b) (hu:u<4294967296):
  An (P9 M N) [U y,U s,U a,U b,U u,U q1,U ((v%a:Nat):Int),U w,U ((v/a:Nat):Int)]=some (1,[U y,U s,U u,U q1,U w,U (((v*4294967296+u)/(a*4294967296+b):Nat):Int)]):=by
 obtain⟨f1,f2,f3,f4⟩:=Q94 hb ha hU hu;refine Yu (F:=fun q r=>An (P9 M N) [U y,U s,U a,U b,U u,U q1,U r,U w,U q]) (G:=fun q _=>some (1,[U y,U s,U u,U q1,U w,U q])) rfl hb ha ha2 hU hu ?_ rfl (v/a) _ _ (Nat.le_add_left _ _) f1 f3 (by omega) f2;intro q r hq hr;have w1:wrap .u64 ((r:Int)+(a:Int))=((r+a:Nat):Int):=by rw[<-Int.natCast_add,wr (by omega)]
 have w3:wrap .u64 (wrap .u64 (4294967296*(r:Int))+(u:Int))=((r*4294967296+u:Nat):Int):=by rw[show(4294967296:Int)*r=((r*4294967296:Nat):Int) by omega,wr (by omega),<-Int.natCast_add,wr (by omega)]
 have w4:4294967296<=q->wrap .u64 ((q:Int)-1)=((q-1:Nat):Int):=fun h=>by rw[show(q:Int)-1=((q-1:Nat):Int) by omega,wr (by omega)]
 have hst:=Zw9 (DB:=M) (N17:=N) y s a b u q1 r w q;rw[w1,w3]at hst;by_cases c1:4294967296<=q
 ·rw[C8 (show(q:Int)>=4294967296 by omega),w4 c1]at hst;show _=if _ then _ else _;rw[if_pos (.inl c1)];by_cases c2:4294967296<=r+a
  ·rw[C8 (show((r+a:Nat):Int)>=4294967296 by omega)]at hst;rw[if_pos c2];exact A3 hst (by simp)
  ·rw[AM (show¬((r+a:Nat):Int)>=4294967296 by omega)]at hst;rw[if_neg c2];exact Bj hst
 ·have hqb:=Qtp (q:=q) (b:=b) (by omega) hb;rw[AM (show¬(q:Int)>=4294967296 by omega),<-Int.natCast_mul,wr (Nat.le_trans hqb (by decide))]at hst;show _=if _ then _ else _;by_cases c3:r*4294967296+u<q*b
  ·rw[C8 (show((q*b:Nat):Int)>((r*4294967296+u:Nat):Int) by omega)]at hst;rw[if_pos (.inr c3)];have hq0:0<q:=by
    rcases Nat.eq_zero_or_pos q with h|h
    ·rw[h]at c3;omega
    ·exact h
   rw[show(q:Int)-1=((q-1:Nat):Int) by omega,wr (by omega)]at hst;by_cases c2:4294967296<=r+a
   ·rw[C8 (show((r+a:Nat):Int)>=4294967296 by omega)]at hst;rw[if_pos c2];exact A3 hst (by simp)
   ·rw[AM (show¬((r+a:Nat):Int)>=4294967296 by omega)]at hst;rw[if_neg c2];exact Bj hst
  ·rw[AM (show¬((q*b:Nat):Int)>((r*4294967296+u:Nat):Int) by omega)]at hst;rw[if_neg (fun h=>h.elim c1 c3)];exact A3 hst (by simp)
theorem Q3e {s:Nat} (hs:s<=63):(2:Int)^min (Int.toNat (s:Int)) IntKind.u64.bits=((2^s:Nat):Int):=by
 have e:min (Int.toNat (s:Int)) IntKind.u64.bits=s:=by
  show min (Int.toNat (s:Int)) 64=s;omega
 rw[e];simp
theorem Ze9 {s:Nat} (hs:s<=63):(2:Int)^min (Int.toNat ((64-s:Nat):Int)) IntKind.u64.bits=((2^(64-s):Nat):Int):=by
 have e:min (Int.toNat ((64-s:Nat):Int)) IntKind.u64.bits=64-s:=by
  show min (Int.toNat ((64-s:Nat):Int)) 64=64-s;omega
 rw[e];simp
theorem Qwa (x y:Nat):((x:Int)).fdiv (y:Int)=((x/y:Nat):Int):=by
 rw[Int.fdiv_eq_ediv_of_nonneg _ (by omega)];rfl
theorem U2 (x y:Nat):((x:Int)).tdiv (y:Int)=((x/y:Nat):Int):=by
 rw[Int.tdiv_eq_ediv_of_nonneg (by omega)];rfl
theorem orP {A B s:Nat} (hB:B<2^s) (h:A*2^s+B<w64):wrap .u64 (((BitVec.ofInt IntKind.u64.bits ((A*2^s:Nat):Int)|||BitVec.ofInt IntKind.u64.bits (B:Int)).toNat:Nat):Int)=((A*2^s+B:Nat):Int):=by
 rw[BC]at h;have e:(BitVec.ofInt IntKind.u64.bits ((A*2^s:Nat):Int)|||BitVec.ofInt IntKind.u64.bits (B:Int)).toNat=A*2^s+B:=by
  rw[BitVec.toNat_or];have e1:∀v:Nat,v<18446744073709551616->(BitVec.ofInt IntKind.u64.bits (v:Int)).toNat=v:=by
   intro v hv;simp only[IntKind.bits,BitVec.toNat_ofInt];omega
  have:=(Nat.two_pow_add_eq_or_of_lt hB A).symm;rw[Nat.mul_comm]at this;generalize A*2^s=X at*;rw[e1 _ (by omega),e1 _ (by omega)];exact this
 rw[e,wr (by omega)]
theorem Qvj {v u q1 y:Nat} (hy:y<w64) (hq:q1=(v*4294967296+u)/y) (hy0:0<y):wrap .u64 (wrap .u64 (wrap .u64 ((v:Int)*4294967296)+(u:Int))-wrap .u64 ((q1:Int)*(y:Int)))=(((v*4294967296+u)%y:Nat):Int):=by
 have h1:=Nat.div_add_mod (v*4294967296+u) y;have h2:=Nat.mod_lt (v*4294967296+u) hy0;rw[<-hq,Nat.mul_comm]at h1;rw[BC]at hy;rw[Mk,Mk,Mk,Mk,<-Int.natCast_mul];generalize q1*y=p at*;generalize(v*4294967296+u)%y=r at*;omega
theorem Q5a {v a:Nat} (ha:0<a) (hv:v<w64):wrap .u64 ((v:Int)-wrap .u64 (wrap .u64 ((v/a:Nat):Int)*(a:Int)))=((v%a:Nat):Int):=by
 have h1:=Nat.div_add_mod v a;have h2:=Nat.mod_lt v ha;have h3:=Nat.div_le_self v a;rw[BC]at hv;rw[wr (x:=v/a) (by omega),<-Int.natCast_mul];rw[Nat.mul_comm]at h1;generalize v/a*a=p at*;generalize v%a=r at*;rw[wr (x:=p) (by omega),show(v:Int)-(p:Int)=(r:Int) by omega,wr (by omega)]
theorem Zj2 {v u1 u0 Y:Nat} (hY:0<Y):(v*w64+(u1*4294967296+u0))/Y=(v*4294967296+u1)/Y*4294967296+((v*4294967296+u1)%Y*4294967296+u0)/Y/\
  (v*w64+(u1*4294967296+u0))%Y=((v*4294967296+u1)%Y*4294967296+u0)%Y:=by
 have e:v*w64+(u1*4294967296+u0)=((v*4294967296+u1)%Y*4294967296+u0)+(v*4294967296+u1)/Y*4294967296*Y:=by
  have h:=Nat.div_add_mod (v*4294967296+u1) Y;rw[Nat.mul_comm]at h;rw[BC];generalize(v*4294967296+u1)%Y=r at*;have e2:(v*4294967296+u1)/Y*4294967296*Y=(v*4294967296+u1)/Y*Y*4294967296:=by rw[Nat.mul_assoc,Nat.mul_comm 4294967296,<-Nat.mul_assoc]
  rw[e2];generalize(v*4294967296+u1)/Y*Y=p at*;omega
 rw[e,Nat.add_mul_div_right _ _ hY,Nat.add_mul_mod_self_right];exact⟨Nat.add_comm _ _,rfl⟩
theorem Zw2 {M:Fn} {hi lo y s:Nat} (h0:0<hi) (h1:hi<y) (hyw:y<w64) (hlo:lo<w64) (hs:s<=63) (h2:9223372036854775808<=y*2^s) (h3:y*2^s<w64) (hM:M [U y]=some [I s]):
  Qpb M (An (KV M)) (An (P9 M (An (KV M)))) [U hi,U lo,U y]=some [U (((hi*w64+lo)/y:Nat):Int),U (((hi*w64+lo)%y:Nat):Int)]:=by
 have hP:0<2^s:=Nat.two_pow_pos _;have hPT:2^s*2^(64-s)=w64:=by rw[BC,<-Nat.pow_add,show s+(64-s)=64 by omega]
 have hT:0<2^(64-s):=Nat.two_pow_pos _;have es:wrap .u64 (s:Int)=s:=wr (by omega);have et:wrap .u64 (64-(s:Int))=((64-s:Nat):Int):=by rw[show(64:Int)-s=((64-s:Nat):Int) by omega,wr (by omega)]
 have hB:lo/2^(64-s)<2^s:=by rw[Nat.div_lt_iff_lt_mul hT,hPT];exact hlo
 have hv:hi*2^s+lo/2^(64-s)<y*2^s:=by
  have:hi*2^s+2^s<=y*2^s:=by rw[<-Nat.succ_mul];exact Nat.mul_le_mul_right _ h1
  omega
 have hN:(hi*w64+lo)*2^s=(hi*2^s+lo/2^(64-s))*w64+lo*2^s%w64:=by
  have e1:lo*2^s/w64=lo/2^(64-s):=by
   rw[<-hPT,Nat.mul_comm lo,Nat.mul_div_mul_left _ _ hP]
  have e2:=Nat.div_add_mod (lo*2^s) w64;rw[e1]at e2;rw[Nat.add_mul,Nat.add_mul,Nat.add_assoc,Nat.mul_comm (lo/2^(64-s)),e2];congr 1;rw[Nat.mul_assoc,Nat.mul_comm w64,Nat.mul_assoc]
 have hU:lo*2^s%w64<w64:=Nat.mod_lt _ Qt;have ey:wrap .u64 ((y:Int)*((2^s:Nat):Int))=((y*2^s:Nat):Int):=by rw[<-Int.natCast_mul,wr (Nat.le_of_lt_succ (by rw[BC]at h3;exact h3))]
 have eh:wrap .u64 ((hi:Int)*((2^s:Nat):Int))=((hi*2^s:Nat):Int):=by
  rw[<-Int.natCast_mul,wr (Nat.le_of_lt_succ (by have:=Nat.mul_lt_mul_of_pos_right h1 hP;rw[BC]at h3;exact Nat.lt_trans this h3))]
 have el:wrap .u64 ((lo:Int)*((2^s:Nat):Int))=((lo*2^s%w64:Nat):Int):=by
  rw[<-Int.natCast_mul,Mk,BC];rfl
 have eo:=orP (A:=hi) (B:=lo/2^(64-s)) (s:=s) hB (by omega);have hq:(hi*w64+lo)/y=(hi*w64+lo)*2^s/(y*2^s):=(Nat.mul_div_mul_right _ _ hP).symm;have hr:(hi*w64+lo)%y=(hi*w64+lo)*2^s%(y*2^s)/2^s:=by rw[Nat.mul_mod_mul_right,Nat.mul_div_cancel _ hP]
 rw[hq,hr,hN];rw[Q1m];simp only[hM,Option.bind_some,Hn,L7,Lt,PA,Qk,SL,Qhk,UF,Hu,gA,jA,wA,bA,es,et,Q3e hs,Ze9 hs,ey,eh,el,Qwa,eo];rw[A_ (by simp;omega),AM (show¬(y:Int)<=hi by omega),A_ (by simp;omega),AM (show¬(s:Int)<0 by omega),AM (show¬(s:Int)<0 by omega),AM (show¬((64-s:Nat):Int)<0 by omega),AM (show¬(s:Int)<0 by omega)];rw[Qv1,Qu2 _ h3,Qv1,Qu2 _ hU];have hY:y*2^s=y*2^s/4294967296*4294967296+y*2^s%4294967296:=by omega
 have hW:lo*2^s%w64=lo*2^s%w64/4294967296*4294967296+lo*2^s%w64%4294967296:=by omega
 have hb:y*2^s%4294967296<4294967296:=Nat.mod_lt _ (by omega);have hu0:lo*2^s%w64%4294967296<4294967296:=Nat.mod_lt _ (by omega);have hu1:lo*2^s%w64/4294967296<4294967296:=by rw[BC]at hU⊢;omega
 have ha:2147483648<=y*2^s/4294967296:=by omega
 have ha2:y*2^s/4294967296<4294967296:=by rw[BC]at h3;omega
 clear hN hq hr eh el eo ey hB;generalize hi*2^s+lo/2^(64-s)=v at*;generalize lo*2^s%w64=w at*;generalize y*2^s=Y at*;generalize w/4294967296=u1 at*;generalize w%4294967296=u0 at*;generalize Y/4294967296=a at*;generalize Y%4294967296=b at*;subst hW;rw[AM (show¬(a:Int)=0 by omega),U2,Q5a (by omega) (Nat.lt_trans hv h3),wr (x:=v/a) (by have:=Nat.div_le_self v a;rw[BC]at h3;omega)];have hl:=Zgo (M:=M) (y:=(Y:Int)) (s:=s) (v0:=u0) hb ha ha2 (by rw[<-hY];exact hv) hu1;rw[hl];rw[<-hY];have hY0:0<Y:=by omega
 have hr1:=Qvj (v:=v) (u:=u1) (y:=Y) h3 rfl hY0;have hq1:(v*4294967296+u1)/Y<4294967296:=by rw[hY];exact Qr6 (by rw[<-hY];exact hv) hu1
 have hm1:=Nat.mod_lt (v*4294967296+u1) hY0;obtain⟨k1,k2⟩:=Zj2 (v:=v) (u1:=u1) (u0:=u0) hY0;rw[k1,k2];clear hl k1 k2;obtain⟨q1,g1⟩:∃q1,(v*4294967296+u1)/Y=q1:=⟨_,rfl⟩;obtain⟨r1,g2⟩:∃r1,(v*4294967296+u1)%Y=r1:=⟨_,rfl⟩;rw[g1]at hr1 hq1⊢;rw[g2]at hr1 hm1⊢;simp only[Option.bind_some,Hn,L7,Lt,PA,Qk,SL,Qhk,UF,Hu,hr1];rw[show Nat.beq 1 1=true from rfl,cond_true,AM (show¬(a:Int)=0 by omega),U2,Q5a (by omega) (Nat.lt_trans hm1 h3),wr (x:=r1/a) (by have:=Nat.div_le_self r1 a;rw[BC]at h3;omega)];have hl2:=Zop (M:=M) (N:=An (KV M)) (y:=(Y:Int)) (s:=s) (q1:=q1) (w:=r1) hb ha ha2 (by rw[<-hY];exact hm1) hu0;rw[hl2];rw[<-hY];have hr0:=Qvj (v:=r1) (u:=u0) (y:=Y) h3 rfl hY0;have hq0:(r1*4294967296+u0)/Y<4294967296:=by rw[hY];exact Qr6 (by rw[<-hY];exact hm1) hu0
 obtain⟨q0,g3⟩:∃q0,(r1*4294967296+u0)/Y=q0:=⟨_,rfl⟩;obtain⟨r0,g4⟩:∃r0,(r1*4294967296+u0)%Y=r0:=⟨_,rfl⟩;rw[g3]at hr0 hq0⊢;rw[g4]at hr0⊢;simp only[Option.bind_some,Hn,L7,Lt,PA,Qk,SL,Hu,hr0];rw[show Nat.beq 1 1=true from rfl,cond_true,AM (show¬(s:Int)<0 by omega),Q3e hs,Qwa];have w1:wrap .u64 (wrap .u64 ((q1:Int)*4294967296)+(q0:Int))=((q1*4294967296+q0:Nat):Int):=by
  rw[show(q1:Int)*4294967296=((q1*4294967296:Nat):Int) by omega,wr (by omega),<-Int.natCast_add,wr (by omega)]
 rw[w1]
theorem Ztc {y:Nat} (h0:0<y) (h:y<w64):∃s:Nat,Ic [U y]=some [I s]/\s<=63/\9223372036854775808<=y*2^s/\y*2^s<w64:=by
 have hw:=BC;obtain⟨b1,b2,b3⟩:=Lib.bitLenAux_bounds 64 y (by rw[<-show w64=2^64 by rw[hw]];exact h) (by omega);have hL:Lib.bitLen y=Lib.bitLenAux 64 y:=rfl;generalize hb:Lib.bitLenAux 64 y=L at*;have hL64:L<=64:=by
  by_cases c:L<=64
  ·exact c
  ·have:=Nat.pow_le_pow_right (show 0<2 by omega) (show 64<=L-1 by omega);rw[show(2:Nat)^64=18446744073709551616 from rfl]at this;omega
 refine⟨64-L,?_,by omega,?_,?_⟩
 ·unfold Ic;have e64:Fp=18446744073709551616:=rfl;have hu:inU (y:Int)=true:=by
   simp only[inU,e64,Bool.and_eq_true,decide_eq_true_eq];omega
  simp only[Hn,Hu,gA,jA,wA,bA,hu,cond_true,Int.toNat_natCast,hL];rw[show(64:Int)-(L:Int)=((64-L:Nat):Int) by omega]
 ·have e:2^(L-1)*2^(64-L)=9223372036854775808:=by rw[<-Nat.pow_add,show L-1+(64-L)=63 by omega]
  rw[<-e];exact Nat.mul_le_mul_right _ b2
 ·have e:2^L*2^(64-L)=w64:=by rw[<-Nat.pow_add,show L+(64-L)=64 by omega,hw]
  rw[<-e];exact Nat.mul_lt_mul_of_pos_right b3 (Nat.two_pow_pos _)
theorem Q2l {hi lo y:Nat} (h1:hi<y) (hy:y<w64) (hlo:lo<w64):G8 [U hi,U lo,U y]=some [U (((hi*w64+lo)/y:Nat):Int),U (((hi*w64+lo)%y:Nat):Int)]:=by
 rcases Nat.eq_zero_or_pos hi with h|h
 ·subst h;rw[Nat.zero_mul,Nat.zero_add];exact Q72 hlo h1
 ·obtain⟨s,e,e1,e2,e3⟩:=Ztc (show 0<y by omega) hy;exact Zw2 h h1 hy hlo e1 e2 e3 e
end Go.Bm
namespace Go.Bm
theorem Z0l {M1 M2 M3 M4 M5 M6 M7:Fn} (h1:∀x b,(M1 [U x,B b]).isSome=true) (h2:∀x y b c,(M2 [I x,I y,B b,B c]).isSome=true) (h3:∀x y,(M3 [I x,I y]).isSome=true)
  (h4:∀{hi lo y:Nat},hi<y->y<w64->lo<w64->(M4 [U hi,U lo,U y]).isSome=true) (h5:∀{x y:Nat},x<w64->y<w64->M5 [U x,U y]=some [U ((x*y/w64:Nat):Int),U ((x*y%w64:Nat):Int)])
  (h6:∀{x:Int},i64 x->M6 [I x]=some [U (x.natAbs:Int)]) (h7:∀x,(M7 [I x]).isSome=true) {a b c:Int} (ha:i64 a) (hb:i64 b) (hc:i64 c) (m:Int):
  (RF M1 M2 M3 M4 M5 M6 M7 [I a,I b,I c,I m]).isSome=true:=by
 have hw:∀{x:Int},i64 x->x.natAbs<w64:=by
  intro x hx;unfold i64 at hx;rw[BC];omega
 rw[Za0,h6 ha,h6 hb,h6 hc];refine BP (fun _=>rfl) fun _=>E9 (h7 _) fun _ _=>BP (fun _=>rfl) fun _=> ?_;simp only[Option.bind_some,gA,wA,bA,jA,nth,Af];rw[h5 (hw ha) (hw hb)];simp only[Option.bind_some,gA,wA,bA,jA,nth,Af];refine BP (fun _=>rfl) fun c0=> ?_;have c0:=Bt c0;have hlo:a.natAbs*b.natAbs%w64<w64:=Nat.mod_lt _ (by rw[BC];decide);refine E9 (h4 (by omega) (hw hc) hlo) fun _ _=>E9 (h3 _ _) fun _ _=> ?_
 repeat' first|exact rfl|exact h1 _ _|exact h2 _ _ _ _|exact h3 _ _|refine BP (fun _=> ?_) (fun _=> ?_)|refine E9 ?_ fun _ _=> ?_
theorem Z4i (x:Int) (b:Bool):(EQ [U x,B b]).isSome=true:=by
 show(Qa3 [U x,B b]).isSome=true;rw[Xu]
 repeat' first|exact rfl|refine BP (fun _=> ?_) (fun _=> ?_)
theorem Zwt (x y:Int) (b c:Bool):(Hg [I x,I y,B b,B c]).isSome=true:=by
 show(Qqu [I x,I y,B b,B c]).isSome=true;rw[Q9d]
 repeat' first|exact rfl|refine BP (fun _=> ?_) (fun _=> ?_)
theorem Z0q (x y:Int):(Ft [I x,I y]).isSome=true:=by
 show(Qcl [I x,I y]).isSome=true;rw[Qxg]
 repeat' first|exact rfl|refine BP (fun _=> ?_) (fun _=> ?_)
theorem Zd0 (x:Int):(Fi [I x]).isSome=true:=by
 show(Z7 [I x]).isSome=true;rw[Q6z]
 repeat' first|exact rfl|refine BP (fun _=> ?_) (fun _=> ?_)
theorem Vy {a b c:Int} (ha:i64 a) (hb:i64 b) (hc:i64 c) (m:Int):(Bn [I a,I b,I c,I m]).isSome=true:=
 Z0l Z4i Zwt Z0q (fun h1 h2 h3=>by rw[Q2l h1 h2 h3];rfl) (fun h1 h2=>Qz0 h1 h2) (fun h=>HT h) Zd0 ha hb hc m
theorem RM (x:Int):i64 (wrap .i64 x):=Z2p x
theorem Qty {M:Fn} {l:List AC} (h:(M l).isSome=true) {f:List AC->List AC}:((M l).bind fun o=>some (f o)).isSome=true:=E9 h fun _ _=>rfl
theorem Zze {a b:Int} (ha:i64 a) (hb:i64 b):(Qe [I a,I b]).isSome=true:=by
 show(Qjh Bn [I a,I b]).isSome=true;have h:=Vy ha hb (show i64 4096 by unfold i64;omega) 0;generalize Bn=M at*;rw[Z22];exact Qty h
theorem Qwm {a:Int} (ha:i64 a):(EB [I a]).isSome=true:=by
 show(Rp Bn [I a]).isSome=true;have h:=Vy ha (show i64 1048576 by unfold i64;omega) (show i64 60000 by unfold i64;omega) 2;generalize Bn=M at*;rw[Za2];exact Qty h
theorem Zc6 (a b:Int):∃v,Pw [I a,I b]=some [I v]/\i64 v:=by
 refine⟨mx (wrap .i64 (a-b)) (wrap .i64 (b-a)),?_,?_⟩
 ·show Qkz [I a,I b]=_;rw[Ztd]
 ·have h1:=RM (a-b);have h2:=RM (b-a)
  unfold mx;split<;>assumption
theorem Q95 (a:Int):(GR [I a]).isSome=true:=by
 show(VF [I a]).isSome=true;rw[Zvz]
 repeat' first|exact rfl|refine BP (fun _=> ?_) (fun _=> ?_)
theorem Zm5 {a b:Int} (hb:b≠0):(Ka [I a,I b]).isSome=true:=by
 show(Wz [I a,I b]).isSome=true;rw[Ze5];refine BP (fun c=>absurd (Bp c) hb) fun _=>BP (fun c=>absurd (Bp c) hb) fun _=>BP (fun _=>rfl) fun _=>rfl
theorem Zko (x0 x1 x2 x3 x4:Int) {x5:Int} (h5:i64 x5):(Ly [I x0,I x1,I x2,I x3,I x4,I x5]).isSome=true:=by
 show(W7 EB GR [I x0,I x1,I x2,I x3,I x4,I x5]).isSome=true;have h:=Qwm h5;have h2:=Q95 x4;generalize EB=M at*;generalize GR=N at*;rw[Z6e]
 repeat' first|exact rfl|exact h|exact h2|refine BP (fun _=> ?_) (fun _=> ?_)|refine E9 ?_ fun _ _=> ?_
theorem Zta (x0 x1 x2 x3 x4:Int) {x5:Int} (h5:i64 x5):(Mw [I x0,I x1,I x2,I x3,I x4,I x5]).isSome=true:=by
 show(Qk4 EB GR [I x0,I x1,I x2,I x3,I x4,I x5]).isSome=true;have h:=Qwm h5;have h2:=Q95 x4;generalize EB=M at*;generalize GR=N at*;rw[Zlk]
 repeat' first|exact rfl|exact h|exact h2|refine BP (fun _=> ?_) (fun _=> ?_)|refine E9 ?_ fun _ _=> ?_
end Go.Bm
namespace Go.Bm
end Go.Bm
namespace Go.Bm
structure Plan3 (a b c : Int) : Prop where
 a:1<=a/\a<=65536
 b:2<=b/\b<=65536
 c:1<=c/\c<=16777216
end Go.Bm
namespace Go.Bm
abbrev En (m0 m1 m3 m4 v:Int):List AC:=[I (wrap .i64 (m0+v)),I v,I (wrap .i64 (v-m1)),I m0,I m3,I m4]
theorem Q8u (m0 m1 m2 m3 m4 m5 v:Int):Jm [I m0,I m1,I m2,I m3,I m4,I m5,I v]=some (En m0 m1 m3 m4 v):=by
 show Qp2 [I m0,I m1,I m2,I m3,I m4,I m5,I v]=some (En m0 m1 m3 m4 v);rw[Zis]
end Go.Bm
namespace Go.Bm
theorem CI (a:AC) (l:List AC):nth .dead (a::l) 0=a:=rfl
theorem D7 (a:AC) (l:List AC) (n:Nat):nth .dead (a::l) (n+1)=nth .dead l n:=rfl
theorem Dh (n:Int):Af (.int .i64 n)=n:=rfl
theorem Zhv {M:Fn} {p:Pth} {x:Ax3} {t:Trk} (hM:∀u,(M (pxt p x t [I u])).isSome=true) (ht:0<=t.length/\t.length<=900000000000000) (u1 u2:Int) (hd:u2-u1<=1000000000000):
  (Sy M (An (P8 M)) (pxt p x t [I u1,I u2])).isSome=true:=by
 rw[Qt9];have h1:0<=mx 0 (mn u1 t.length)/\mx 0 (mn u1 t.length)<=t.length/\mx 0 (mn u2 t.length)-mx 0 (mn u1 t.length)<=1000000000000/\mx 0 (mn u2 t.length)<=t.length:=by
  unfold mx mn
  (repeat' split)<;>omega
 obtain⟨k1,k2,k3,k4⟩:=h1;generalize mx 0 (mn u1 t.length)=f at*;generalize mx 0 (mn u2 t.length)=e at*;refine E9 (hM _) fun o _=> ?_;refine Out.is (p:=fun _=>True) ?_;refine .bind (p:=fun o=>o.1=1) ?_ fun o g=>by rw[g];exact .some trivial
 show Out _ (An _ (.view kPt []::I e::I f::pxt p x t [I (gA o 0),I (gA o 1),I (gA o 2)]));generalize gA o 0=w0;generalize gA o 1=w1;generalize gA o 2=w2;refine CB (fun s:Rw×Int×Int×Int×Int=> .view kPt s.1::I e::I s.2.1::pxt p x t [I s.2.2.1,I s.2.2.2.1,I s.2.2.2.2]) (fun s=>f<=s.2.1/\s.2.1<=t.length/\(s.1.length:Int)<=3*(s.2.1-f)) (fun s=>(e-s.2.1).toNat) _ ?_ ([],f,w0,w1,w2) (by simp;omega);rintro⟨v,u,a0,a1,a2⟩ ⟨q1,q2,q3⟩;dsimp only at*;rw[Q0y];try dsimp only[Ls]
 rw[Ae (x:=u+1) (by omega)];refine .cond (fun c=> ?_) (fun _=> .some (.inr ⟨by simp,rfl⟩));have c:=Bp c;refine .ibind (hM _) fun o _=> ?_
 repeat' first
  |(refine .cond (fun _=> ?_) fun c=>by rw[B0 (by simp;omega)]at c;cases c)
  |refine .cond (fun _=> ?_) (fun _=> ?_)
 all_goals refine Out.some (Or.inl ⟨rfl,(_,u+1,_,_,_),rfl,by simp;omega,by show(e-(u+1)).toNat<(e-u).toNat;omega⟩)
theorem Z2i {p:Pth} {x:Ax3} {t:Trk} (h:Fix p x t) (u1 u2:Int) (hd:u2-u1<=1000000000000):(G0 (pxt p x t [I u1,I u2])).isSome=true:=
 Zhv (fun u=>by rw[S9 h u];rfl) h.t.q.len u1 u2 hd
end Go.Bm
