/- laid together -/
import Derived.Test.YtommijghjlikkaaGreatPrAtF
import Derived.Test.YtommijghjlikkaaGreatMx2
set_option linter.unusedVariables false
set_option linter.unusedSimpArgs false
set_option maxRecDepth 100000
namespace Go.Bm
open Classical
theorem Zfd {α:Type} (d x:α) (l:List α):nth d (x::l) 40=nth d l 39:=by simp[nth]
theorem Zt5 {α:Type} (d x:α) (l:List α):nth d (x::l) 41=nth d l 40:=by simp[nth]
theorem Zjy {α:Type} (d x:α) (l:List α):nth d (x::l) 42=nth d l 41:=by simp[nth]
theorem Zvb {α:Type} (d x:α) (l:List α):nth d (x::l) 43=nth d l 42:=by simp[nth]
theorem Zxq {α:Type} (d x:α) (l:List α):nth d (x::l) 44=nth d l 43:=by simp[nth]
theorem Z2n {α:Type} (d x:α) (l:List α):nth d (x::l) 45=nth d l 44:=by simp[nth]
theorem Zdm {α:Type} (d x:α) (l:List α):nth d (x::l) 46=nth d l 45:=by simp[nth]
theorem Z1t {α:Type} (d x:α) (l:List α):nth d (x::l) 47=nth d l 46:=by simp[nth]
theorem Zg6 {α:Type} (d x:α) (l:List α):nth d (x::l) 48=nth d l 47:=by simp[nth]
theorem Zip {α:Type} (d x:α) (l:List α):nth d (x::l) 49=nth d l 48:=by simp[nth]
theorem Zul {α:Type} (d x:α) (l:List α):nth d (x::l) 50=nth d l 49:=by simp[nth]
theorem Zpj {α:Type} (d x:α) (l:List α):nth d (x::l) 51=nth d l 50:=by simp[nth]
theorem Zvi {α:Type} (d x:α) (l:List α):nth d (x::l) 52=nth d l 51:=by simp[nth]
theorem Zoz {α:Type} (d x:α) (l:List α):nth d (x::l) 53=nth d l 52:=by simp[nth]
theorem Zrg {α:Type} (d x:α) (l:List α):nth d (x::l) 54=nth d l 53:=by simp[nth]
theorem Zyu {α:Type} (d x:α) (l:List α):nth d (x::l) 55=nth d l 54:=by simp[nth]
attribute [go_sem] Zfd Zt5 Zjy Zvb Zxq Z2n Zdm Z1t Zg6 Zip Zul Zpj Zvi Zoz Zrg Zyu
theorem Jy (a b:Int):mn a b=min a b:=by unfold mn;rw[Int.min_def];split<;>split<;>omega
theorem NH (a b:Int):mx a b=max a b:=by unfold mx;rw[Int.max_def];split<;>split<;>omega
def SS (now a b mv:Int):Int:=if b>a then mv else if b<a then-mv else now
def D0 (now a b:Pt) (mv:Int):Pt:=⟨SS now.x a.x b.x mv,SS now.y a.y b.y mv,SS now.z a.z b.z mv⟩
def slk (was dirs n v:Int):Int:=if was=dirs then v else max v n
def CX (x:Ax3) (was dirs:Pt):Int:=slk was.z dirs.z x.c.back (slk was.y dirs.y x.b.back (slk was.x dirs.x x.a.back 0))
def pc0:Pce:=⟨0,0,0,0,⟨0,0,0⟩,⟨0,0,0⟩⟩
def Bc (l:List Pce):Pce:=l.getD (l.length-1) pc0
def FB (t:Trk) (c:Pce):Trk:=
 if t.pieces≠[]/\c.move≠0/\(Bc t.pieces).move=c.move/\(Bc t.pieces).dirs=c.dirs then
  {t with pieces:=t.pieces.set (t.pieces.length-1) {Bc t.pieces with units:=(Bc t.pieces).units+c.units},length:=t.length+c.units}
 else{t with pieces:=t.pieces++[{c with at_:=t.length}],length:=t.length+c.units}
def Az (l:List Sgm) (i:Nat):Int:=AT (l.take i)
def Cz (x:Ax3) (mv:Int) (a b:Pt) (s units:Int) (st:Trk×Pt):Trk×Pt:=
 (FB (if CX x st.2 (D0 st.2 a b mv) > 0 then FB st.1 ⟨0, CX x st.2 (D0 st.2 a b mv), s, 0, st.2, D0 st.2 a b mv⟩ else st.1)
  ⟨0,units,s,mv,D0 st.2 a b mv,D0 st.2 a b mv⟩,D0 st.2 a b mv)
def HS (p:Pth) (x:Ax3) (mv lo hi:Int) (i:Nat) (s:Trk×Pt):Trk×Pt:=
 if max (Az p.segs i) lo<min (Az p.segs (i+1)) hi then
  Cz x mv (ER p.start p.segs i) (sgA p.segs i).to (if mv<0 then min (Az p.segs (i+1)) hi else max (Az p.segs i) lo) (min (Az p.segs (i+1)) hi-max (Az p.segs i) lo) s
 else s
def EM (n:Nat) (mv:Int) (j:Nat):Nat:=if mv<0 then n-1-j else j
def Co (p:Pth) (x:Ax3) (mv lo hi:Int) (t0:Trk×Pt):Nat->Trk×Pt
 |0=>t0
 |j+1=>HS p x mv lo hi (EM p.segs.length mv j) (Co p x mv lo hi t0 j)
def B2 (n hi:Int):Int:=max 0 (min n hi)
def EZ (p:Pth) (x:Ax3) (d:Pt) (from_ to:Int):Trk:=
 let n:=AT p.segs
 let f:=B2 from_ n
 let t:=B2 to n
 (Co p x (if f>t then-1 else 1) (min f t) (max f t) (⟨[],0,f,d⟩,d) p.segs.length).1
structure Ax3OK (x : Ax3) : Prop where
 a:0<=x.a.back/\x.a.back<=1000
 b:0<=x.b.back/\x.b.back<=1000
 c:0<=x.c.back/\x.c.back<=1000
theorem RR {x:Ax3} (h:Ax3OK x) (a b:Pt):0<=CX x a b/\CX x a b<=1000:=by
 obtain⟨h1,h2,h3⟩:=h;unfold CX slk
 (repeat' split)<;>omega
structure TB (t : Trk) (n m : Int) : Prop where
 count:(t.pieces.length:Int)<=n
 len:0<=t.length/\t.length<=m
 each:∀c∈t.pieces,0<=c.units/\c.units<=t.length
theorem Qqo {l:List Pce} (h:l≠[]):Bc l∈l:=by
 have hp:0<l.length:=by cases l with
  |nil=>exact absurd rfl h
  |cons _ _=>simp
 have hlt:l.length-1<l.length:=by omega
 unfold Bc;rw[List.getD_eq_getElem?_getD,List.getElem?_eq_getElem hlt,Option.getD_some];exact List.getElem_mem _
theorem Qjh {t:Trk} {n m:Int} (h:TB t n m) {c:Pce} {k:Int} (hc:0<=c.units/\c.units<=k):TB (FB t c) (n+1) (m+k):=by
 obtain⟨h1,h2,h3⟩:=h;unfold FB;by_cases g:t.pieces≠[]/\c.move≠0/\(Bc t.pieces).move=c.move/\(Bc t.pieces).dirs=c.dirs
 ·rw[if_pos g];refine⟨by simp only[List.length_set];omega,by simp only;omega,?_⟩;intro q hq;rcases List.mem_or_eq_of_mem_set hq with hq|rfl
  ·have:=h3 q hq;simp only;omega
  ·have:=h3 _ (Qqo g.1);simp only;omega
 ·rw[if_neg g];refine⟨by simp only[List.length_append,List.length_cons,List.length_nil];omega,by simp only;omega,?_⟩;intro q hq;rcases List.mem_append.1 hq with hq|hq
  ·have:=h3 q hq;simp only;omega
  ·rw[List.mem_singleton]at hq;subst hq;simp only;omega
theorem Q3d (t:Trk) (c:Pce):(FB t c).start=t.start/\(FB t c).dirs=t.dirs:=by
 unfold FB;split<;>exact⟨rfl,rfl⟩
theorem Rs (l:List Sgm):Az l 0=0:=by unfold Az;rw[List.take_zero];rfl
theorem Qi {l:List Sgm} {i:Nat} (h:i<l.length):Az l (i+1)=Az l i+(sgA l i).len:=by
 unfold Az;rw[List.take_add_one,List.getElem?_eq_getElem h,Option.toList_some,Qb7,Nk h]
theorem Qsn (l:List Sgm):Az l l.length=AT l:=by unfold Az;rw[List.take_length]
theorem Y6 {l:List Sgm} (h:SegOK l):∀i,i<=l.length->0<=Az l i/\Az l i<=i*268435456
 |0,_=>by rw[Rs];simp
 |i+1,hi=>by
  have:=Y6 h i (by omega);have:=h.seg _ (HG (show i<l.length by omega));rw[Qi (by omega)];omega
theorem Z19 {p:Pth} {x:Ax3} {mv lo hi:Int} {i:Nat} {s:Trk×Pt} {n m:Int} (hx:Ax3OK x) (hp:SegOK p.segs) (hi':i<p.segs.length) (h:TB s.1 n m):TB (HS p x mv lo hi i s).1 (n+2) (m+268436456):=by
 have hl:=hp.seg _ (HG hi');have e:=Qi hi';unfold HS;by_cases c:max (Az p.segs i) lo<min (Az p.segs (i+1)) hi
 ·rw[if_pos c];unfold Cz;have hs:=RR hx s.2 (D0 s.2 (ER p.start p.segs i) (sgA p.segs i).to mv);have e1:n+2=n+1+1:=by omega
  have e2:m+268436456=m+1000+268435456:=by omega
  rw[e1,e2];refine Qjh ?_ (by simp only;omega);by_cases c2:CX x s.2 (D0 s.2 (ER p.start p.segs i) (sgA p.segs i).to mv)>0
  ·rw[if_pos c2];exact Qjh h (by simp only;omega)
  ·rw[if_neg c2];exact⟨by have:=h.count;omega,by have:=h.len;omega,h.each⟩
 ·rw[if_neg c];exact⟨by have:=h.count;omega,by have:=h.len;omega,h.each⟩
theorem Qhi {n j:Nat} (mv:Int) (h:j<n):EM n mv j<n:=by unfold EM;split<;>omega
theorem Uv {p:Pth} {x:Ax3} {mv lo hi f:Int} {d:Pt} (hx:Ax3OK x) (hp:SegOK p.segs):∀j,j<=p.segs.length->TB (Co p x mv lo hi (⟨[],0,f,d⟩,d) j).1 (j*2) (j*268436456)
 |0,_=>⟨by simp[Co],by simp[Co],by simp[Co]⟩
 |j+1,hj=>by
  have h:=Z19 (mv:=mv) (lo:=lo) (hi:=hi) hx hp (Qhi mv (show j<p.segs.length by omega)) (Uv (mv:=mv) (lo:=lo) (hi:=hi) (f:=f) (d:=d) hx hp j (by omega));rw[Co];have e1:((j+1:Nat):Int)*2=j*2+2:=by omega
  have e2:((j+1:Nat):Int)*268436456=j*268436456+268436456:=by omega
  rw[e1,e2];exact h
theorem Qx7 {p:Pth} {x:Ax3} {mv lo hi:Int} {i:Nat} (s:Trk×Pt):(HS p x mv lo hi i s).1.start=s.1.start/\(HS p x mv lo hi i s).1.dirs=s.1.dirs:=by
 unfold HS;by_cases c:max (Az p.segs i) lo<min (Az p.segs (i+1)) hi
 ·rw[if_pos c];unfold Cz;simp only[Q3d];by_cases c2:CX x s.2 (D0 s.2 (ER p.start p.segs i) (sgA p.segs i).to mv)>0
  ·rw[if_pos c2];simp only[Q3d];exact⟨trivial,trivial⟩
  ·rw[if_neg c2];exact⟨rfl,rfl⟩
 ·rw[if_neg c];exact⟨rfl,rfl⟩
end Go.Bm
namespace Go.Bm
open Classical
def Fj (x:Ax3) (mv:Int) (Q:Int->Pt->Prop):Int->Int->Pt->List Pce->Prop
 |_,_,_,[]=>True
 |at_,s,d,c::l=>c.at_=at_/\c.s=s/\1<=c.units/\((c.move=mv/\c.was=c.dirs/\CX x d c.dirs=0/\∀k,0<=k->k<c.units->Q (s+mv*k) c.dirs)\/(c.move=0/\c.was=d/\c.units=CX x d c.dirs))/\Fj x mv Q (at_+c.units) (s+c.move*c.units) c.dirs l
def EK:Int->List Pce->Int
 |a,[]=>a
 |a,c::l=>EK (a+c.units) l
def Gy:Int->List Pce->Int
 |s,[]=>s
 |s,c::l=>Gy (s+c.move*c.units) l
def Im:Pt->List Pce->Pt
 |d,[]=>d
 |_,c::l=>Im c.dirs l
theorem Q9 (c:Pce):∀(a:Int) (l:List Pce),EK a (l++[c])=EK a l+c.units
 |_,[]=>rfl
 |_,k::l=>Q9 c _ l
theorem TA (c:Pce):∀(s:Int) (l:List Pce),Gy s (l++[c])=Gy s l+c.move*c.units
 |_,[]=>rfl
 |_,k::l=>TA c _ l
theorem Q4 (c:Pce):∀(d:Pt) (l:List Pce),Im d (l++[c])=c.dirs
 |_,[]=>rfl
 |_,k::l=>Q4 c _ l
theorem QA {x:Ax3} {mv:Int} {Q:Int->Pt->Prop} {c:Pce}:∀{at_ s:Int} {d:Pt} {l:List Pce},
  Fj x mv Q at_ s d (l++[c])↔Fj x mv Q at_ s d l/\c.at_=EK at_ l/\c.s=Gy s l/\1<=c.units/\((c.move=mv/\c.was=c.dirs/\CX x (Im d l) c.dirs=0/\∀k,0<=k->k<c.units->Q (Gy s l+mv*k) c.dirs)\/(c.move=0/\c.was=Im d l/\c.units=CX x (Im d l) c.dirs))
 |at_,s,d,[]=>by
  simp only[List.nil_append,Fj,EK,Gy,Im,and_true,true_and]
 |at_,s,d,k::l=>by
  simp only[List.cons_append,Fj,EK,Gy,Im];rw[QA];constructor
  ·rintro⟨h1,h2,h4,h5,h6,h7⟩;exact⟨⟨h1,h2,h4,h5,h6⟩,h7⟩
  ·rintro⟨⟨h1,h2,h4,h5,h6⟩,h7⟩;exact⟨h1,h2,h4,h5,h6,h7⟩
theorem Zq8 {l:List Pce} (h:l≠[]) (v:Pce):l.set (l.length-1) v=l.dropLast++[v]:=by
 have e:=List.dropLast_concat_getLast h;have hl:l.length-1=l.dropLast.length:=by rw[List.length_dropLast]
 conv=>lhs;arg 1;rw[<-e]
 rw[hl,List.set_append_right _ _ (Nat.le_refl _),Nat.sub_self];rfl
theorem Zln {l:List Pce} (h:l≠[]):l.dropLast++[Bc l]=l:=by
 have e:=List.dropLast_concat_getLast h;have hp:0<l.length:=by
  cases l with
  |nil=>exact absurd rfl h
  |cons _ _=>simp
 have hlt:l.length-1<l.length:=by omega
 have hl:Bc l=l.getLast h:=by
  unfold Bc;rw[List.getD_eq_getElem?_getD,List.getElem?_eq_getElem hlt,Option.getD_some,List.getLast_eq_getElem]
 rw[hl];exact e
structure TC (x : Ax3) (mv : Int) (Q : Int -> Pt -> Prop) (t : Trk) (s : Int) (d : Pt) : Prop where
 ch:Fj x mv Q 0 t.start t.dirs t.pieces
 len:EK 0 t.pieces=t.length
 s:Gy t.start t.pieces=s
 d:Im t.dirs t.pieces=d
theorem Qmy {x:Ax3} {mv:Int} {Q:Int->Pt->Prop} {t:Trk} {s:Int} {d:Pt} (hm:mv≠0) (h:TC x mv Q t s d) {c:Pce} (hs:c.s=s) (hu:1<=c.units)
  (hc:(c.move=mv/\c.was=c.dirs/\CX x d c.dirs=0/\∀k,0<=k->k<c.units->Q (s+mv*k) c.dirs)\/(c.move=0/\c.was=d/\c.units=CX x d c.dirs)):TC x mv Q (FB t c) (s+c.move*c.units) c.dirs:=by
 obtain⟨h1,h2,h3,h4⟩:=h;unfold FB;by_cases g:t.pieces≠[]/\c.move≠0/\(Bc t.pieces).move=c.move/\(Bc t.pieces).dirs=c.dirs
 ·rw[if_pos g];obtain⟨g1,g2,g3,g4⟩:=g;have e:=Zln g1;rw[Zq8 g1];rw[<-e]at h1 h2 h3 h4;rw[QA]at h1;rw[Q9]at h2;rw[TA]at h3;rw[Q4]at h4;generalize t.pieces.dropLast=I at*;generalize Bc t.pieces=L at*;obtain⟨k0,k1,k2,k4,k5⟩:=h1
  replace hc:=hc.resolve_right fun h=>g2 h.1
  replace k5:=k5.resolve_right fun h=>g2 (g3▸h.1)
  obtain⟨c1,c2,-,c3⟩:=hc;obtain⟨q1,q2,q4,q3⟩:=k5;refine⟨?_,?_,?_,?_⟩
  ·show Fj x mv Q 0 t.start t.dirs (I++[_]);rw[QA];refine⟨k0,k1,k2,by simp only;omega, .inl ⟨q1,q2,q4,?_⟩⟩;intro k hk0 hk1;simp only at hk1;by_cases hlt:k<L.units
   ·exact q3 k hk0 hlt
   ·have:=c3 (k-L.units) (by omega) (by omega);rw[<-h3,q1,<-g4]at this;have ea:Gy t.start I+mv*L.units+mv*(k-L.units)=Gy t.start I+mv*k:=by rw[Int.mul_sub];omega
    rw[ea]at this;exact this
  ·show EK 0 (I++[_])=t.length+c.units;rw[Q9];simp only;omega
  ·show Gy t.start (I++[_])=s+c.move*c.units;rw[TA];simp only;rw[g3]at h3⊢;rw[Int.mul_add];omega
  ·show Im t.dirs (I++[_])=c.dirs;rw[Q4];exact g4
 ·rw[if_neg g];refine⟨?_,?_,?_,?_⟩
  ·show Fj x mv Q 0 t.start t.dirs (t.pieces++[_]);rw[QA];refine⟨h1,h2.symm,by rw[h3];exact hs,hu,?_⟩;rw[h3,h4];exact hc
  ·show EK 0 (t.pieces++[_])=t.length+c.units;rw[Q9,h2]
  ·show Gy t.start (t.pieces++[_])=s+c.move*c.units;rw[TA,h3]
  ·show Im t.dirs (t.pieces++[_])=c.dirs;rw[Q4]
theorem Zaj (x:Ax3) (d:Pt):CX x d d=0:=by unfold CX slk;simp
theorem Q28 {x:Ax3} {mv:Int} {Q:Int->Pt->Prop} {t:Trk} {s units:Int} {d a b:Pt} (hm:mv≠0) (hx:∀w d,0<=CX x w d) (h:TC x mv Q t s d) (hu:1<=units) (hQ:∀k,0<=k->k<units->Q (s+mv*k) (D0 d a b mv)):
  TC x mv Q (Cz x mv a b s units (t,d)).1 (s+mv*units) (D0 d a b mv):=by
 unfold Cz;simp only;generalize D0 d a b mv=nx at*;by_cases c:CX x d nx>0
 ·rw[if_pos c];have h1:=Qmy hm h (c:=⟨0,CX x d nx,s,0,d,nx⟩) rfl (by simp only;omega) (.inr ⟨rfl,rfl,rfl⟩);simp only[Int.zero_mul,Int.add_zero]at h1;exact Qmy hm h1 (c:=⟨0,units,s,mv,nx,nx⟩) rfl hu (.inl ⟨rfl,rfl,Zaj x nx,hQ⟩)
 ·rw[if_neg c];have:=hx d nx;exact Qmy hm h (c:=⟨0,units,s,mv,nx,nx⟩) rfl hu (.inl ⟨rfl,rfl,by simp only;omega,hQ⟩)
def Jq (l:List Sgm) (mv lo hi:Int) (j:Nat):Int:=if mv<0 then min (max (Az l (l.length-j)) lo) hi else min (max (Az l j) lo) hi
def Qqw (p:Pth) (mv:Int) (Q:Int->Pt->Prop):Prop:=∀i,i<p.segs.length->∀(d:Pt) (s:Int),Az p.segs i<=s->s<=Az p.segs (i+1)->Az p.segs i<=s+mv->s+mv<=Az p.segs (i+1)->Q s (D0 d (ER p.start p.segs i) (sgA p.segs i).to mv)
theorem Q3z {p:Pth} {x:Ax3} {mv lo hi f:Int} {d:Pt} {Q:Int->Pt->Prop} (hv:mv=1\/mv= -1) (hx:Ax3OK x) (hp:SegOK p.segs) (hlo:0<=lo/\lo<=hi/\hi<=AT p.segs) (hf:(mv=1/\f=lo)\/(mv= -1/\f=hi)) (hQ:Qqw p mv Q):
  ∀j,j<=p.segs.length->TC x mv Q (Co p x mv lo hi (⟨[],0,f,d⟩,d) j).1 (Jq p.segs mv lo hi j) (Co p x mv lo hi (⟨[],0,f,d⟩,d) j).2
 |0,_=>by
  have hs:Jq p.segs mv lo hi 0=f:=by
   unfold Jq;have:=Qsn p.segs;rcases hf with⟨rfl,rfl⟩|⟨rfl,rfl⟩
   ·rw[if_neg (by omega),Rs];omega
   ·rw[if_pos (by omega),Nat.sub_zero,this];omega
  rw[hs];exact⟨trivial,rfl,rfl,rfl⟩
 |j+1,hj=>by
  have ih:=Q3z hv hx hp hlo hf hQ (f:=f) (d:=d) j (by omega);have hil:=Qhi mv (show j<p.segs.length by omega);have hg:=hp.seg _ (HG hil);have hsucc:=Qi hil;have hq:=hQ _ hil;rw[Co];unfold HS;have hcase:(mv=1/\EM p.segs.length mv j=j)\/(mv= -1/\EM p.segs.length mv j=p.segs.length-1-j):=by
   unfold EM;rcases hv with rfl|rfl
   ·exact .inl ⟨rfl,if_neg (by omega)⟩
   ·exact .inr ⟨rfl,if_pos (by omega)⟩
  have hway:Jq p.segs mv lo hi j=(if mv<0 then min (max (Az p.segs (EM p.segs.length mv j+1)) lo) hi else min (max (Az p.segs (EM p.segs.length mv j)) lo) hi)/\
    Jq p.segs mv lo hi (j+1)=(if mv<0 then min (max (Az p.segs (EM p.segs.length mv j)) lo) hi else min (max (Az p.segs (EM p.segs.length mv j+1)) lo) hi):=by
   unfold Jq;rcases hcase with⟨rfl,e⟩|⟨rfl,e⟩
   ·rw[e,if_neg (by omega),if_neg (by omega),if_neg (by omega),if_neg (by omega)];exact⟨rfl,rfl⟩
   ·rw[e,if_pos (by omega),if_pos (by omega),if_pos (by omega),if_pos (by omega),show p.segs.length-1-j+1=p.segs.length-j by omega,show p.segs.length-(j+1)=p.segs.length-1-j by omega];exact⟨rfl,rfl⟩
  rw[hway.1]at ih;rw[hway.2];generalize EM p.segs.length mv j=i at*;generalize Co p x mv lo hi (⟨[],0,f,d⟩,d) j=w at*;obtain⟨t,dn⟩:=w;simp only at ih⊢;by_cases c:max (Az p.segs i) lo<min (Az p.segs (i+1)) hi
  ·rw[if_pos c];rcases hcase with⟨rfl,-⟩|⟨rfl,-⟩
   ·rw[if_neg (by omega)]at ih⊢;rw[if_neg (by omega)];have e1:min (max (Az p.segs i) lo) hi=max (Az p.segs i) lo:=by omega
    rw[e1]at ih;have:=Q28 (a:=ER p.start p.segs i) (b:=(sgA p.segs i).to) (units:=min (Az p.segs (i+1)) hi-max (Az p.segs i) lo) (by omega) (fun w d=>(RR hx w d).1) ih (by omega) (fun k h0 h1=>hq dn _ (by omega) (by omega) (by omega) (by omega));have e2:max (Az p.segs i) lo+1*(min (Az p.segs (i+1)) hi-max (Az p.segs i) lo)=min (max (Az p.segs (i+1)) lo) hi:=by omega
    rw[e2]at this;exact this
   ·rw[if_pos (by omega)]at ih⊢;rw[if_pos (by omega)];have e1:min (max (Az p.segs (i+1)) lo) hi=min (Az p.segs (i+1)) hi:=by omega
    rw[e1]at ih;have:=Q28 (a:=ER p.start p.segs i) (b:=(sgA p.segs i).to) (units:=min (Az p.segs (i+1)) hi-max (Az p.segs i) lo) (by omega) (fun w d=>(RR hx w d).1) ih (by omega) (fun k h0 h1=>hq dn _ (by omega) (by omega) (by omega) (by omega));have e2:min (Az p.segs (i+1)) hi+ -1*(min (Az p.segs (i+1)) hi-max (Az p.segs i) lo)=min (max (Az p.segs i) lo) hi:=by omega
    rw[e2]at this;exact this
  ·rw[if_neg c];have e:(if mv<0 then min (max (Az p.segs (i+1)) lo) hi else min (max (Az p.segs i) lo) hi)=(if mv<0 then min (max (Az p.segs i) lo) hi else min (max (Az p.segs (i+1)) lo) hi):=by
    split<;>omega
   rw[<-e];exact ih
end Go.Bm
namespace Go.Bm
open Classical
theorem Zhz {l:List Pce} (h:l≠[]):nth [] (l.map AP) (l.length-1)=AP (Bc l):=by
 have hp:0<l.length:=by cases l with
  |nil=>exact absurd rfl h
  |cons _ _=>simp
 unfold Bc;have hlt:l.length-1<l.length:=by omega
 rw[IW _ _ _ _ hlt,List.getD_eq_getElem?_getD,List.getElem?_eq_getElem hlt,Option.getD_some]
theorem Q2g {a b:Pt}:a=b↔a.x=b.x/\a.y=b.y/\a.z=b.z:=D8
theorem Zlg {t:Trk} {c:Pce} {n m k:Int} (h:TB t n m) (hn:n<=10000000) (hm:m<=1000000000000000000) (hk:k<=1000000000000000000) (hc:0<=c.units/\c.units<=k):
  Qft [.view As (t.pieces.map AP),I c.at_,I c.units,I c.s,I c.move,I c.was.x,I c.was.y,I c.was.z,I c.dirs.x,I c.dirs.y,I c.dirs.z,I t.length,I t.start,I t.dirs.x,I t.dirs.y,I t.dirs.z]=some (Bj (FB t c)):=by
 obtain⟨h1,h2,h3⟩:=h;have hw:IntKind.i64.wrap (t.length+c.units)=t.length+c.units:=Ae (by omega);have hble:((t.pieces.map AP++[[I t.length,I c.units,I c.s,I c.move,I c.was.x,I c.was.y,I c.was.z,I c.dirs.x,I c.dirs.y,I c.dirs.z]]).length*80).ble 140737488355328=true:=by
  rw[Nat.ble_eq,List.length_append,List.length_map];simp only[List.length_cons,List.length_nil];omega
 have hble':(t.pieces.map AP++[[I t.length,I c.units,I c.s,I c.move,I c.was.x,I c.was.y,I c.was.z,I c.dirs.x,I c.dirs.y,I c.dirs.z]]).length*80<=140737488355328:=Nat.le_of_ble_eq_true hble;have happ:some [AC.view As (t.pieces.map AP++[[I t.length,I c.units,I c.s,I c.move,I c.was.x,I c.was.y,I c.was.z,I c.dirs.x,I c.dirs.y,I c.dirs.z]]),I (t.length+c.units),I t.start,I t.dirs.x,I t.dirs.y,I t.dirs.z]=
   some (Bj {t with pieces:=t.pieces++[{c with at_:=t.length}],length:=t.length+c.units}):=by
  simp only[Bj,List.map_append,List.map_cons,List.map_nil]
 by_cases c1:t.pieces=[]
 ·have hg: ¬(t.pieces≠[]/\c.move≠0/\(Bc t.pieces).move=c.move/\(Bc t.pieces).dirs=c.dirs):=fun g=>g.1 c1;unfold FB;rw[if_neg hg,<-happ];rw[Q3v,List.length_map,AX (by rw[c1];simp),Br hble,hw]
 ·have hp:0<t.pieces.length:=by
   cases hh:t.pieces with
   |nil=>exact absurd hh c1
   |cons _ _=>simp
  have e1:IntKind.i64.wrap ((t.pieces.length:Int)-1)=((t.pieces.length-1:Nat):Int):=by rw[Ae (by omega)];omega
  have hin:(0:Int)<=((t.pieces.length-1:Nat):Int)/\((t.pieces.length-1:Nat):Int)<(t.pieces.length:Int):=by omega
  have hl:=h3 _ (Qqo c1);have hw2:IntKind.i64.wrap ((Bc t.pieces).units+c.units)=(Bc t.pieces).units+c.units:=Ae (by omega);have hset:some [AC.view As ((t.pieces.map AP).set (t.pieces.length-1) [I (Bc t.pieces).at_,I ((Bc t.pieces).units+c.units),I (Bc t.pieces).s,I (Bc t.pieces).move,I (Bc t.pieces).was.x,I (Bc t.pieces).was.y,I (Bc t.pieces).was.z,I (Bc t.pieces).dirs.x,I (Bc t.pieces).dirs.y,I (Bc t.pieces).dirs.z]),I (t.length+c.units),I t.start,I t.dirs.x,I t.dirs.y,I t.dirs.z]=
   some (Bj {t with pieces:=t.pieces.set (t.pieces.length-1) {Bc t.pieces with units:=(Bc t.pieces).units+c.units},length:=t.length+c.units}):=by
   simp only[Bj,List.map_set]
  have hr:=Zhz c1;have main : ∀ R, R = (if c.move ≠ 0 then if (Bc t.pieces).move = c.move then if (Bc t.pieces).dirs.x = c.dirs.x /\ (Bc t.pieces).dirs.y = c.dirs.y /\ (Bc t.pieces).dirs.z = c.dirs.z then
    some (Bj {t with pieces:=t.pieces.set (t.pieces.length-1) {Bc t.pieces with units:=(Bc t.pieces).units+c.units},length:=t.length+c.units})
    else some (Bj {t with pieces:=t.pieces++[{c with at_:=t.length}],length:=t.length+c.units})else some (Bj {t with pieces:=t.pieces++[{c with at_:=t.length}],length:=t.length+c.units})else some (Bj {t with pieces:=t.pieces++[{c with at_:=t.length}],length:=t.length+c.units}))->R=some (Bj (FB t c)):=by
   intro R hR;rw[hR];unfold FB;by_cases g1:c.move≠0
   ·by_cases g2:(Bc t.pieces).move=c.move
    ·by_cases g3:(Bc t.pieces).dirs.x=c.dirs.x/\(Bc t.pieces).dirs.y=c.dirs.y/\(Bc t.pieces).dirs.z=c.dirs.z
     ·rw[if_pos g1,if_pos g2,if_pos g3,if_pos ⟨c1,g1,g2,Q2g.2 g3⟩]
     ·rw[if_pos g1,if_pos g2,if_neg g3,if_neg fun g=>g3 (Q2g.1 g.2.2.2)]
    ·rw[if_pos g1,if_neg g2,if_neg fun g=>g2 g.2.2.1]
   ·rw[if_neg g1,if_neg fun g=>g1 g.2.1]
  refine main _ ?_;rw[<-happ,<-hset];rw[Q3v,List.length_map,e1,Int.toNat_natCast,hr];simp only[go_sem,hw,hw2,if_pos hin,if_pos hble'];rw[if_pos (by omega)];simp only[and_true]
theorem Ztb (x:Ax3) (w d:Pt):MJ (AI x++[I w.x,I w.y,I w.z,I d.x,I d.y,I d.z])=some [I (CX x w d)]:=by
 have he:=Zjj x.a.step x.a.speed x.a.accel x.a.jerk x.a.low x.a.high x.a.back x.a.origin x.a.spacing (x.a.pitch.map Ap) x.b.step x.b.speed x.b.accel x.b.jerk x.b.low x.b.high x.b.back x.b.origin x.b.spacing (x.b.pitch.map Ap) x.c.step x.c.speed x.c.accel x.c.jerk x.c.low x.c.high x.c.back x.c.origin x.c.spacing (x.c.pitch.map Ap) w.x w.y w.z d.x d.y d.z;unfold MJ;refine Eq.trans he ?_;unfold CX slk;simp only[go_sem,NH]
 (repeat' split)<;>first|rfl|(exfalso;omega)
theorem Za0 (n a b:Pt) {mv:Int} (hm:mv=1\/mv= -1):Ml [I n.x,I n.y,I n.z,I a.x,I a.y,I a.z,I b.x,I b.y,I b.z,I mv]=some (ptR (D0 n a b mv)):=by
 unfold Ml;rw[Zf6];have e:IntKind.i64.wrap (0-mv)= -mv:=by rw[Ae (by omega)];omega
 unfold D0 SS;simp only[go_sem,e]
 (repeat' split)<;>first|rfl|(exfalso;omega)
theorem Qj0 {n hi:Int}:Fl [I n,I hi]=some [I (B2 n hi)]:=by
 unfold Fl;rw[Zyt];simp only[Jy,NH];rfl
theorem Zgb {MU MT MA:Fn} {x:Ax3} {mv:Int} {a b:Pt} {s units:Int} {t:Trk} {now:Pt} {n m k:Int} (hx:Ax3OK x) (h:TB t n m) (hn:n<=9000000) (hm:m<=900000000000000000) (hk:k<=900000000000000000) (hu:0<=units/\units<=k)
  (hT:MT [I now.x,I now.y,I now.z,I a.x,I a.y,I a.z,I b.x,I b.y,I b.z,I mv]=some (ptR (D0 now a b mv))) (hU:∀w d:Pt,MU (AI x++[I w.x,I w.y,I w.z,I d.x,I d.y,I d.z])=some [I (CX x w d)])
  (hA : ∀ {t : Trk} {c : Pce} {n m k : Int}, TB t n m -> n <= 10000000 -> m <= 1000000000000000000 -> k <= 1000000000000000000 -> (0 <= c.units /\ c.units <= k) ->
   MA [.view As (t.pieces.map AP),I c.at_,I c.units,I c.s,I c.move,I c.was.x,I c.was.y,I c.was.z,I c.dirs.x,I c.dirs.y,I c.dirs.z,I t.length,I t.start,I t.dirs.x,I t.dirs.y,I t.dirs.z]=some (Bj (FB t c))):
  Qax MU MT MA (.view As (t.pieces.map AP)::I a.x::I a.y::I a.z::I b.x::I b.y::I b.z::I s::I units::I now.x::I now.y::I now.z::I mv::(AI x++[I t.length,I t.start,I t.dirs.x,I t.dirs.y,I t.dirs.z]))=
   some (.view As ((Cz x mv a b s units (t, now)).1.pieces.map AP) :: I (Cz x mv a b s units (t, now)).2.x :: I (Cz x mv a b s units (t, now)).2.y :: I (Cz x mv a b s units (t, now)).2.z :: I mv :: (AI x ++
    [I (Cz x mv a b s units (t,now)).1.length,I (Cz x mv a b s units (t,now)).1.start,I (Cz x mv a b s units (t,now)).1.dirs.x,I (Cz x mv a b s units (t,now)).1.dirs.y,I (Cz x mv a b s units (t,now)).1.dirs.z])):=by
 have he:=Zfr MU MT MA (t.pieces.map AP) a.x a.y a.z b.x b.y b.z s units now.x now.y now.z mv x.a.step x.a.speed x.a.accel x.a.jerk x.a.low x.a.high x.a.back x.a.origin x.a.spacing (x.a.pitch.map Ap) x.b.step x.b.speed x.b.accel x.b.jerk x.b.low x.b.high x.b.back x.b.origin x.b.spacing (x.b.pitch.map Ap) x.c.step x.c.speed x.c.accel x.c.jerk x.c.low x.c.high x.c.back x.c.origin x.c.spacing (x.c.pitch.map Ap) t.length t.start t.dirs.x t.dirs.y t.dirs.z;refine Eq.trans he ?_;have hs:=RR hx now (D0 now a b mv);have hU':=hU now (D0 now a b mv);simp only[AI,List.cons_append,List.nil_append]at hU'⊢;unfold Cz;simp only;generalize D0 now a b mv=nx at*;simp only[hT,go_sem,hU'];by_cases c:CX x now nx>0
 ·have h1:=hA (c:=⟨0,CX x now nx,s,0,now,nx⟩) h (by omega) (by omega) (k:=1000) (by omega) (by simp only;omega);have hb:=Qjh (k:=1000) h (c:=⟨0,CX x now nx,s,0,now,nx⟩) (by simp only;omega);have h2:=hA (c:=⟨0,units,s,mv,nx,nx⟩) hb (by omega) (by omega) (k:=k) (by omega) hu;simp only at h1 h2;rw[if_pos c,if_pos c];simp only[h1,Bj,go_sem,h2]
 ·have h2:=hA (c:=⟨0,units,s,mv,nx,nx⟩) h (by omega) (by omega) (k:=k) (by omega) hu;simp only at h2;rw[if_neg c,if_neg c];simp only[h2,Bj,go_sem]
theorem Zic {x:Ax3} {mv:Int} {a b:Pt} {s units:Int} {t:Trk} {now:Pt} {n m k:Int} (hv:mv=1\/mv= -1) (hx:Ax3OK x) (h:TB t n m) (hn:n<=9000000) (hm:m<=900000000000000000) (hk:k<=900000000000000000) (hu:0<=units/\units<=k):
  FJ (.view As (t.pieces.map AP)::I a.x::I a.y::I a.z::I b.x::I b.y::I b.z::I s::I units::I now.x::I now.y::I now.z::I mv::(AI x++[I t.length,I t.start,I t.dirs.x,I t.dirs.y,I t.dirs.z]))=
   some (.view As ((Cz x mv a b s units (t, now)).1.pieces.map AP) :: I (Cz x mv a b s units (t, now)).2.x :: I (Cz x mv a b s units (t, now)).2.y :: I (Cz x mv a b s units (t, now)).2.z :: I mv :: (AI x ++
    [I (Cz x mv a b s units (t,now)).1.length,I (Cz x mv a b s units (t,now)).1.start,I (Cz x mv a b s units (t,now)).1.dirs.x,I (Cz x mv a b s units (t,now)).1.dirs.y,I (Cz x mv a b s units (t,now)).1.dirs.z])):=
 Zgb hx h hn hm hk hu (Za0 now a b hv) (Ztb x) fun h1 h2 h3 h4 h5=>Zlg h1 h2 h3 h4 h5
end Go.Bm
namespace Go.Bm
open Classical
end Go.Bm
namespace Go.Bm
open Classical
def Fd (l:List Sgm) (j:Nat):Rw:=(List.range j).map fun i=>[I (Az l i)]
theorem QC (l:List Sgm) (j:Nat):(Fd l j).length=j:=by simp[Fd]
theorem Zl5 (l:List Sgm) (j:Nat):Fd l (j+1)=Fd l j++[[I (Az l j)]]:=by unfold Fd;rw[List.range_succ,List.map_append];rfl
theorem Zj6 {l:List Sgm} {n i:Nat} (h:i<n):nth [] (Fd l n) i=[I (Az l i)]:=by
 have hlt:i<(Fd l n).length:=by rw[QC];exact h
 rw[GX [] _ i hlt];simp[Fd]
abbrev OR (p:Pth) (x:Ax3) (lo hi mv:Int) (t:Trk) (now:Pt) (at_:Int) (bl:Rw) (j:Nat):List AC:=
 [.view Aa bl, .view As (t.pieces.map AP),I lo,I hi,I mv,I at_, .view Ah (p.segs.map Ay),I p.segs.length,I j,I p.start.x,I p.start.y,I p.start.z, .view Ah (p.segs.map Ay), .view AD (p.marks.map At),I now.x,I now.y,I now.z,I mv,I x.a.step,I x.a.speed,I x.a.accel,I x.a.jerk,I x.a.low,I x.a.high,I x.a.back,I x.a.origin,I x.a.spacing, .view Aa (x.a.pitch.map Ap),I x.b.step,I x.b.speed,I x.b.accel,I x.b.jerk,I x.b.low,I x.b.high,I x.b.back,I x.b.origin,I x.b.spacing, .view Aa (x.b.pitch.map Ap),I x.c.step,I x.c.speed,I x.c.accel,I x.c.jerk,I x.c.low,I x.c.high,I x.c.back,I x.c.origin,I x.c.spacing, .view Aa (x.c.pitch.map Ap),I t.length,I t.start,I t.dirs.x,I t.dirs.y,I t.dirs.z]
theorem Qwd {M:Fn} {p:Pth} {x:Ax3} {lo hi mv:Int} {t:Trk} {now:Pt} (h:SegOK p.segs):∀(k j:Nat),j+k=p.segs.length->
  An (SL M) (OR p x lo hi mv t now (Az p.segs j) (Fd p.segs j) j)=some (1,[.view Aa (Fd p.segs p.segs.length), .view As (t.pieces.map AP),I lo,I hi,I mv,I p.start.x,I p.start.y,I p.start.z, .view Ah (p.segs.map Ay), .view AD (p.marks.map At),I now.x,I now.y,I now.z,I mv,I x.a.step,I x.a.speed,I x.a.accel,I x.a.jerk,I x.a.low,I x.a.high,I x.a.back,I x.a.origin,I x.a.spacing, .view Aa (x.a.pitch.map Ap),I x.b.step,I x.b.speed,I x.b.accel,I x.b.jerk,I x.b.low,I x.b.high,I x.b.back,I x.b.origin,I x.b.spacing, .view Aa (x.b.pitch.map Ap),I x.c.step,I x.c.speed,I x.c.accel,I x.c.jerk,I x.c.low,I x.c.high,I x.c.back,I x.c.origin,I x.c.spacing, .view Aa (x.c.pitch.map Ap),I t.length,I t.start,I t.dirs.x,I t.dirs.y,I t.dirs.z])
 |0,j,hj=>by
  have hj':j=p.segs.length:=by omega
  refine A5 (o:=(1,_)) ?_ (by simp);rw[Q4e,AX (by omega),hj']
 |k+1,j,hj=>by
  have hlt:j<p.segs.length:=by omega
  have hcnt:=h.count;have hpos:=Y6 h j (by omega);have hg:=h.seg _ (HG hlt);have hst:SL M (OR p x lo hi mv t now (Az p.segs j) (Fd p.segs j) j)=some (0,OR p x lo hi mv t now (Az p.segs (j+1)) (Fd p.segs (j+1)) (j+1)):=by
   have hle:(Fd p.segs j++[[I (Az p.segs j)]]).length*8<=140737488355328:=by rw[List.length_append,QC];simp only[List.length_cons,List.length_nil];omega
   have e1:IntKind.i64.wrap ((j:Int)+1)=((j+1:Nat):Int):=by rw[Ae (by omega)];omega
   rw[Q4e];simp only[go_sem,List.length_map,Int.toNat_natCast,Lr hlt,if_pos hle,e1,Zl5];rw[if_pos (by omega),if_pos (by omega),Ae (x:=Az p.segs j+(sgA p.segs j).len) (by omega),Qi hlt]
  rw[Bv hst];exact Qwd h k (j+1) (by omega)
abbrev PH (p:Pth) (x:Ax3) (lo hi mv:Int) (t:Trk) (now:Pt) (j:Nat):List AC:=
 [.view Aa (Fd p.segs p.segs.length), .view As (t.pieces.map AP),I lo,I hi,I mv,I p.segs.length,I j,I p.start.x,I p.start.y,I p.start.z, .view Ah (p.segs.map Ay), .view AD (p.marks.map At),I now.x,I now.y,I now.z,I mv,I x.a.step,I x.a.speed,I x.a.accel,I x.a.jerk,I x.a.low,I x.a.high,I x.a.back,I x.a.origin,I x.a.spacing, .view Aa (x.a.pitch.map Ap),I x.b.step,I x.b.speed,I x.b.accel,I x.b.jerk,I x.b.low,I x.b.high,I x.b.back,I x.b.origin,I x.b.spacing, .view Aa (x.b.pitch.map Ap),I x.c.step,I x.c.speed,I x.c.accel,I x.c.jerk,I x.c.low,I x.c.high,I x.c.back,I x.c.origin,I x.c.spacing, .view Aa (x.c.pitch.map Ap),I t.length,I t.start,I t.dirs.x,I t.dirs.y,I t.dirs.z]
abbrev FW (x:Ax3) (mv:Int) (t:Trk) (now:Pt):List AC:=[.view As (t.pieces.map AP),I now.x,I now.y,I now.z,I mv,I x.a.step,I x.a.speed,I x.a.accel,I x.a.jerk,I x.a.low,I x.a.high,I x.a.back,I x.a.origin,I x.a.spacing, .view Aa (x.a.pitch.map Ap),I x.b.step,I x.b.speed,I x.b.accel,I x.b.jerk,I x.b.low,I x.b.high,I x.b.back,I x.b.origin,I x.b.spacing, .view Aa (x.b.pitch.map Ap),I x.c.step,I x.c.speed,I x.c.accel,I x.c.jerk,I x.c.low,I x.c.high,I x.c.back,I x.c.origin,I x.c.spacing, .view Aa (x.c.pitch.map Ap),I t.length,I t.start,I t.dirs.x,I t.dirs.y,I t.dirs.z]
theorem Zae {MV:Fn} {N:Lp} {p:Pth} {x:Ax3} {lo hi mv:Int} {t:Trk} {now:Pt} {n m:Int} {j:Nat} (hv:mv=1\/mv= -1) (hp:GoodPath p) (hx:Ax3OK x) (h:TB t n m) (hn:n<=9000000) (hm:m<=900000000000000000)
  (hj:j<p.segs.length)
  (hV:∀{a b:Pt} {s units:Int},(0<=units/\units<=268435456)->MV [.view As (t.pieces.map AP),I a.x,I a.y,I a.z,I b.x,I b.y,I b.z,I s,I units,I now.x,I now.y,I now.z,I mv,I x.a.step,I x.a.speed,I x.a.accel,I x.a.jerk,I x.a.low,I x.a.high,I x.a.back,I x.a.origin,I x.a.spacing, .view Aa (x.a.pitch.map Ap),I x.b.step,I x.b.speed,I x.b.accel,I x.b.jerk,I x.b.low,I x.b.high,I x.b.back,I x.b.origin,I x.b.spacing, .view Aa (x.b.pitch.map Ap),I x.c.step,I x.c.speed,I x.c.accel,I x.c.jerk,I x.c.low,I x.c.high,I x.c.back,I x.c.origin,I x.c.spacing, .view Aa (x.c.pitch.map Ap),I t.length,I t.start,I t.dirs.x,I t.dirs.y,I t.dirs.z]=some (FW x mv (Cz x mv a b s units (t,now)).1 (Cz x mv a b s units (t,now)).2)):
  S7 MV N (PH p x lo hi mv t now j)=some (0,PH p x lo hi mv (HS p x mv lo hi (EM p.segs.length mv j) (t,now)).1 (HS p x mv lo hi (EM p.segs.length mv j) (t,now)).2 (j+1)):=by
 have hok:=hp.ok;have hcnt:=hok.count;have hil0:=Qhi mv hj;have hcase:(mv=1/\EM p.segs.length mv j=j)\/(mv= -1/\EM p.segs.length mv j=p.segs.length-1-j):=by
  unfold EM;rcases hv with rfl|rfl
  ·exact .inl ⟨rfl,if_neg (by omega)⟩
  ·exact .inr ⟨rfl,if_pos (by omega)⟩
 obtain⟨i,hix⟩:∃i,EM p.segs.length mv j=i:=⟨_,rfl⟩;rw[hix]at hil0 hcase⊢;have hil:i<p.segs.length:=hil0;have hg:=hok.seg _ (HG hil);have hr:=Lr hil;have hb:=Zj6 (l:=p.segs) hil;have hpos:=Y6 hok i (by omega);have hsucc:=Qi hil;have hin:(0:Int)<=(i:Nat)/\(i:Int)<(p.segs.length:Int):=by omega
 have hin0:(j:Int)<(p.segs.length:Int):=by omega
 have e1:IntKind.i64.wrap ((j:Int)+1)=((j+1:Nat):Int):=by rw[Ae (by omega)];omega
 have hI:IntKind.i64.wrap (IntKind.i64.wrap ((p.segs.length:Int)-1)-(j:Int))=((p.segs.length-1-j:Nat):Int):=by rw[Ae (x:=(p.segs.length:Int)-1) (by omega),Ae (by omega)];omega
 have hw:IntKind.i64.wrap (Az p.segs i+(sgA p.segs i).len)=Az p.segs (i+1):=by rw[hsucc,Ae (by omega)]
 have hwd:max (Az p.segs i) lo<min (Az p.segs (i+1)) hi->IntKind.i64.wrap (min (Az p.segs (i+1)) hi-max (Az p.segs i) lo)=min (Az p.segs (i+1)) hi-max (Az p.segs i) lo:=fun _=>Ae (by omega);have hd:max (Az p.segs i) lo<min (Az p.segs (i+1)) hi->0<=min (Az p.segs (i+1)) hi-max (Az p.segs i) lo/\min (Az p.segs (i+1)) hi-max (Az p.segs i) lo<=268435456:=fun _=>by omega
 have hI1:i≠0->IntKind.i64.wrap ((i:Int)-1)=((i-1:Nat):Int)/\((0:Int)<=((i-1:Nat):Int)/\((i-1:Nat):Int)<(p.segs.length:Int))/\nth [] (p.segs.map Ay) (i-1)=Ay (sgA p.segs (i-1))/\ER p.start p.segs i=(sgA p.segs (i-1)).to:=by
  intro h0;refine⟨by rw[Ae (by omega)];omega,by omega,Lr (by omega),?_⟩;obtain⟨q,rfl⟩:∃q,i=q+1:=⟨i-1,by omega⟩;exact Ts (by omega)
 unfold HS;rw[Qtp];rcases hcase with⟨rfl,rfl⟩|⟨rfl,ei⟩
 ·simp only[go_sem,List.length_map,QC,Int.toNat_natCast,hr,hb,if_pos hin,if_pos hin0,NH,Jy,hw,e1];rw[if_neg (by omega)];by_cases c:max (Az p.segs i) lo<min (Az p.segs (i+1)) hi
  ·rw[if_neg (by omega),if_pos c,hwd c];by_cases c0:i=0
   ·rw[if_neg (by omega)];have hV':=hV (a:=p.start) (b:=(sgA p.segs i).to) (s:=max (Az p.segs i) lo) (hd c);subst c0;rw[JA];rw[if_neg (by omega),hV'];simp only[FW,go_sem];rfl
   ·obtain⟨k1,k2,k3,k4⟩:=hI1 c0;rw[if_pos (by omega),k1];have hV':=hV (a:=(sgA p.segs (i-1)).to) (b:=(sgA p.segs i).to) (s:=max (Az p.segs i) lo) (hd c);rw[k4];simp only[Int.toNat_natCast,k3,go_sem,if_pos k2];rw[if_neg (by omega),hV'];simp only[FW,go_sem];rfl
  ·rw[if_pos (by omega),if_neg c]
 ·rw[<-ei]at hI;simp only[go_sem,List.length_map,QC,hI,Int.toNat_natCast,hr,hb,if_pos hin,if_pos hin0,NH,Jy,hw,e1];rw[if_pos (by omega)];by_cases c:max (Az p.segs i) lo<min (Az p.segs (i+1)) hi
  ·rw[if_neg (by omega),if_pos c,hwd c];by_cases c0:i=0
   ·rw[if_neg (by omega)];have hV':=hV (a:=p.start) (b:=(sgA p.segs i).to) (s:=min (Az p.segs (i+1)) hi) (hd c);subst c0;rw[JA];rw[if_pos (by omega),hV'];simp only[FW,go_sem];rfl
   ·obtain⟨k1,k2,k3,k4⟩:=hI1 c0;rw[if_pos (by omega),k1];have hV':=hV (a:=(sgA p.segs (i-1)).to) (b:=(sgA p.segs i).to) (s:=min (Az p.segs (i+1)) hi) (hd c);rw[k4];simp only[Int.toNat_natCast,k3,go_sem,if_pos k2];rw[if_pos (by omega),hV'];simp only[FW,go_sem];rfl
  ·rw[if_pos (by omega),if_neg c]
end Go.Bm
namespace Go.Bm
open Classical
def pcA (l:List Pce) (i:Nat):Pce:=l.getD i pc0
def eI (l:List Pce) (i:Nat):Int:=(pcA l i).at_+(pcA l i).units
def fI:List Pce->Int->Nat
 |[],_=>0
 |c::l,u=>if u<=c.at_+c.units then 0 else fI l u+1
theorem HL (c:Pce) (l:List Pce) (i:Nat):pcA (c::l) (i+1)=pcA l i:=by unfold pcA;simp
theorem Lu (c:Pce) (l:List Pce):pcA (c::l) 0=c:=by unfold pcA;simp
theorem R5 {l:List Pce} {i:Nat} (h:i<l.length):nth [] (l.map AP) i=AP (pcA l i):=by
 have e:pcA l i=l[i]:=by unfold pcA;simp[h]
 rw[e];exact IW _ _ _ _ h
theorem TO:∀{l:List Pce} {u:Int} {j:Nat},j<l.length->u<=eI l j->fI l u<=j
 |c::l,u,0,_,h=>by
  unfold eI at h;rw[Lu]at h;unfold fI;rw[if_pos h];exact Nat.le_refl _
 |c::l,u,j+1,hj,h=>by
  unfold fI;by_cases c0:u<=c.at_+c.units
  ·rw[if_pos c0];omega
  ·rw[if_neg c0];have:fI l u<=j:=TO (by simpa using hj) (by unfold eI at h⊢;rw[HL]at h;exact h);omega
theorem Qp1:∀{l:List Pce} {u:Int},fI l u<l.length->u<=eI l (fI l u)
 |[],_,h=>by simp at h
 |c::l,u,h=>by
  unfold fI at h⊢;by_cases c0:u<=c.at_+c.units
  ·rw[if_pos c0];unfold eI;rw[Lu];exact c0
  ·rw[if_neg c0]at h⊢;have:=Qp1 (l:=l) (u:=u) (by simpa using h);unfold eI at this⊢;rw[HL];exact this
structure TQ (t : Trk) : Prop where
 count:t.pieces.length<=10000000
 len:0<=t.length/\t.length<=900000000000000
 pos:∀i,i<t.pieces.length->0<=(pcA t.pieces i).at_/\1<=(pcA t.pieces i).units/\eI t.pieces i<=t.length
 mono:∀i j,i<=j->j<t.pieces.length->eI t.pieces i<=eI t.pieces j
 last:t.pieces≠[]->eI t.pieces (t.pieces.length-1)=t.length
 start:0<=t.start/\t.start<=263886834032640
 s:∀i,i<t.pieces.length-> -900000000000000<=(pcA t.pieces i).s/\(pcA t.pieces i).s<=2000000000000000
 move:∀i,i<t.pieces.length->(pcA t.pieces i).move=0\/(pcA t.pieces i).move=1\/(pcA t.pieces i).move= -1
def clT (t:Trk) (u:Int):Int:=B2 u t.length
theorem Pq {t:Trk} (h:TQ t) (u:Int):0<=clT t u/\clT t u<=t.length:=by have:=h.len;unfold clT B2;omega
def iT (t:Trk) (u:Int):Nat:=fI t.pieces (clT t u)
theorem NT {t:Trk} (h:TQ t) (u:Int) (hne:t.pieces≠[]):iT t u<t.pieces.length:=by
 have hp:0<t.pieces.length:=by
  cases hh:t.pieces with
  |nil=>exact absurd hh hne
  |cons _ _=>simp
 have:=TO (l:=t.pieces) (u:=clT t u) (j:=t.pieces.length-1) (by omega) (by rw[h.last hne];exact(Pq h u).2);unfold iT;omega
def BJ (t:Trk) (u:Int):Int:=if t.pieces=[]then t.start else(pcA t.pieces (iT t u)).s+(pcA t.pieces (iT t u)).move*(clT t u-(pcA t.pieces (iT t u)).at_)
theorem U3 {t:Trk} (h:TQ t) {u:Int} (hi:fI t.pieces u<t.pieces.length):∀(k lo hi:Nat),hi-lo<=k->lo<=fI t.pieces u->fI t.pieces u<=hi->hi<t.pieces.length->
  An Q_ [I u,I lo,I hi, .view As (t.pieces.map AP),I t.length,I t.start,I t.dirs.x,I t.dirs.y,I t.dirs.z]=some (1,[I (fI t.pieces u)])
 |k,lo,hi,hk,h1,h2,h3=>by
  have hcnt:=h.count;have hl:=h.len;by_cases c:lo<hi
  ·have em:IntKind.i64.wrap ((IntKind.i64.wrap ((lo:Int)+hi)).tdiv 2)=(((lo+hi)/2:Nat):Int):=by
    rw[Ae (x:=(lo:Int)+hi) (by omega),Int.tdiv_eq_ediv_of_nonneg (by omega),Ae (by omega)];omega
   have hm1:lo<=(lo+hi)/2/\(lo+hi)/2<hi:=by omega
   generalize(lo+hi)/2=m at*;have hlt:m<t.pieces.length:=by omega
   have hpos:=h.pos m hlt;have hin:(0:Int)<=(m:Int)/\(m:Int)<(t.pieces.length:Int):=by omega
   have hw:IntKind.i64.wrap ((pcA t.pieces m).at_+(pcA t.pieces m).units)=eI t.pieces m:=by unfold eI at hpos⊢;exact Ae (by omega)
   have hst:Q_ [I u,I lo,I hi, .view As (t.pieces.map AP),I t.length,I t.start,I t.dirs.x,I t.dirs.y,I t.dirs.z]=if u<=eI t.pieces m then some (0,[I u,I lo,I m, .view As (t.pieces.map AP),I t.length,I t.start,I t.dirs.x,I t.dirs.y,I t.dirs.z])else some (0,[I u,I (m+1:Nat),I hi, .view As (t.pieces.map AP),I t.length,I t.start,I t.dirs.x,I t.dirs.y,I t.dirs.z]):=by
    rw[Qcg,em];simp only[go_sem,List.length_map,Int.toNat_natCast,R5 hlt,if_pos hin,hw,Ae (x:=(m:Int)+1) (by omega)];rw[if_pos (by omega)];rfl
   by_cases c2:u<=eI t.pieces m
   ·rw[if_pos c2]at hst;rw[Bv hst];cases k with
    |zero=>omega
    |succ k=>exact U3 h (by omega) k lo m (by omega) h1 (TO hlt c2) hlt
   ·rw[if_neg c2]at hst;rw[Bv hst];have hgt:m<fI t.pieces u:=by
     by_cases c3:fI t.pieces u<=m
     ·exact absurd (Int.le_trans (Qp1 (by omega)) (h.mono _ _ c3 hlt)) c2
     ·omega
    cases k with
    |zero=>omega
    |succ k=>exact U3 h (by omega) k (m+1) hi (by omega) (by omega) h2 h3
  ·refine A5 (o:=(1,_)) ?_ (by simp);rw[Qcg,AX (by omega),show fI t.pieces u=hi by omega]
theorem Q4j {t:Trk} (h:TQ t) (u:Int):GT (Bj t++[I (clT t u)])=some [I (if t.pieces=[]then-1 else(iT t u:Int))]:=by
 have he:=Zbq Li (t.pieces.map AP) t.length t.start t.dirs.x t.dirs.y t.dirs.z (clT t u);unfold GT;refine Eq.trans he ?_;rw[List.length_map];have hcnt:=h.count;by_cases c:t.pieces=[]
 ·have hl:Li [I (clT t u),I 0,I (-1), .view As (t.pieces.map AP),I t.length,I t.start,I t.dirs.x,I t.dirs.y,I t.dirs.z]=some (1,[I (-1)]):=by
   refine A5 (o:=(1,_)) ?_ (by simp);rw[Qcg,AX (by omega)]
  have e1:IntKind.i64.wrap ((t.pieces.length:Int)-1)= -1:=by rw[c];rfl
  rw[if_pos c,e1];generalize Li=N at*;simp only[hl,go_sem]
 ·have hp:0<t.pieces.length:=by
   cases hh:t.pieces with
   |nil=>exact absurd hh c
   |cons _ _=>simp
  have hi:=NT h u c;have hl:=U3 h (u:=clT t u) hi t.pieces.length 0 (t.pieces.length-1) (by omega) (by omega) (by unfold iT at hi;omega) (by omega);have hl':Li [I (clT t u),I 0,I (t.pieces.length-1:Nat), .view As (t.pieces.map AP),I t.length,I t.start,I t.dirs.x,I t.dirs.y,I t.dirs.z]=some (1,[I (iT t u:Int)]):=hl;have e1:IntKind.i64.wrap ((t.pieces.length:Int)-1)=((t.pieces.length-1:Nat):Int):=by rw[Ae (by omega)];omega
  rw[if_neg c,e1];generalize Li=N at*;simp only[hl',go_sem]
theorem Zr2 {t:Trk} (h:TQ t) (u:Int) (hne:t.pieces≠[]):
  IntKind.i64.wrap ((pcA t.pieces (iT t u)).s+IntKind.i64.wrap ((pcA t.pieces (iT t u)).move*IntKind.i64.wrap (clT t u-(pcA t.pieces (iT t u)).at_)))=BJ t u:=by
 have hi:=NT h u hne;have h1:=h.pos _ hi;have h2:=h.s _ hi;have h3:=h.move _ hi;have h4:=Pq h u;have h5:=h.len;unfold BJ eI at*;rw[if_neg hne,Ae (x:=clT t u-_) (by omega)];generalize pcA t.pieces (iT t u)=c at*;have hb:(-900000000000000<=c.move*(clT t u-c.at_)/\c.move*(clT t u-c.at_)<=900000000000000):=by
  rcases h3 with h3|h3|h3<;>rw[h3]<;>omega
 rw[Ae (x:=c.move*_) (by omega),Ae (by omega)]
theorem Zxu {MF MC:Fn} {t:Trk} (h:TQ t) {u:Int} (hC:MC [I u,I t.length]=some [I (clT t u)]) (hM:MF (Bj t++[I (clT t u)])=some [I (if t.pieces=[]then-1 else(iT t u:Int))]):Qni MF MC (Bj t++[I u])=some [I (BJ t u)]:=by
 have he:=Zyx MF MC (t.pieces.map AP) t.length t.start t.dirs.x t.dirs.y t.dirs.z u;refine Eq.trans he ?_;simp only[Bj,List.cons_append,List.nil_append]at hM;by_cases c:t.pieces=[]
 ·rw[if_pos c]at hM;simp only[hC,hM,go_sem];rw[if_pos (by omega)];unfold BJ;rw[if_pos c]
 ·have hi:=NT h u c;have hcnt:=h.count;have hin:(0:Int)<=(iT t u:Int)/\(iT t u:Int)<(t.pieces.length:Int):=by omega
  rw[if_neg c]at hM;simp only[hC,hM,go_sem,List.length_map,if_pos hin,Int.toNat_natCast,R5 hi,Zr2 h u c];rw[if_neg (by omega)]
theorem PU {t:Trk} (h:TQ t) (u:Int):Dv (Bj t++[I u])=some [I (BJ t u)]:=Zxu h Qj0 (Q4j h u)
end Go.Bm
namespace Go.Bm
open Classical
def Ii (sp:Int) (l:List Int):Prop:=(∀v∈l,-4096<=v/\v<=4096)/\∀i,i+1<l.length-> -sp<=4*(l.getD (i+1) 0-l.getD i 0)/\4*(l.getD (i+1) 0-l.getD i 0)<=sp
structure AxOK (a : Axs) : Prop where
 step:4<=a.step/\a.step<=64
 back:0<=a.back/\a.back<=6
 origin: -200<=a.origin/\a.origin<=200
 spacing:a.pitch≠[]->4<=a.spacing/\a.spacing<=123
 pitch:Ii a.spacing a.pitch
 count:a.pitch.length<=4
 lim:1<=a.speed/\a.speed<=1000/\2<=a.accel/\a.accel<=1000/\4<=a.jerk/\a.jerk<=1000/\a.low= -16777216/\a.high=16777216
theorem S9 {l m:List Int} {i:Nat} (h:i<l.length):(l++m).getD i 0=l.getD i 0:=by simp[List.getD_eq_getElem?_getD,List.getElem?_append_left h]
theorem Zrb (l m:List Int) (v:Int):(l++v::m).getD l.length 0=v:=by simp[List.getD_eq_getElem?_getD]
theorem Zxs {sp v w:Int} {l:List Int} (h:Ii sp (l++[v])) (hw: -4096<=w/\w<=4096) (hd: -sp<=4*(w-v)/\4*(w-v)<=sp):Ii sp (l++[v]++[w]):=by
 refine⟨?_,?_⟩
 ·intro x hx;rcases List.mem_append.1 hx with hx|hx
  ·exact h.1 x hx
  ·rw[List.mem_singleton]at hx;subst hx;exact hw
 ·intro i hi;simp only[List.length_append,List.length_cons,List.length_nil]at hi;by_cases c:i+1<(l++[v]).length
  ·have:=h.2 i c;have c':i<(l++[v]).length:=by omega
   rw[S9 c,S9 c'];exact this
  ·simp only[List.length_append,List.length_cons,List.length_nil]at c;have e:i=l.length:=by omega
   subst e;have g1:(l++[v]++[w]).getD (l.length+1) 0=w:=by
    simp
   have g2:(l++[v]++[w]).getD l.length 0=v:=by
    rw[List.append_assoc];exact Zrb l ([]++[w]) v
   rw[g1,g2];exact hd
theorem Zjg {sp v:Int} {l:List Int} (h:Ii sp (l++[v])):Ii sp l:=by
 refine⟨fun x hx=>h.1 x (by simp[hx]),fun i hi=> ?_⟩;have:=h.2 i (by simp;omega);rw[S9 hi,S9 (by omega)]at this;exact this
theorem Q81 {sp v:Int} (hv: -4096<=v/\v<=4096):Ii sp ([]++[v]):=⟨fun x hx=>by simp at hx;subst hx;exact hv,fun i hi=>by simp at hi⟩
theorem Zbr {v:Int} (h:0<=v/\v<6):∃x,Af (nth .dead (nth [] [[I 8],[I 4],[I 5],[I 16],[I 23],[I 64]] v.toNat) 0)=x/\4<=x/\x<=64:=by
 have hc:v=0\/v=1\/v=2\/v=3\/v=4\/v=5:=by omega
 rcases hc with rfl|rfl|rfl|rfl|rfl|rfl<;>exact⟨_,rfl,by decide⟩
theorem Qo8 {v:Int} (h:0<=v/\v<5):∃x y z,Af (nth .dead (nth [] [[I 40],[I 1],[I 3],[I 9],[I 1000]] v.toNat) 0)=x/\Af (nth .dead (nth [] [[I 20],[I 2],[I 3],[I 5],[I 1000]] v.toNat) 0)=y/\Af (nth .dead (nth [] [[I 30],[I 4],[I 5],[I 8],[I 1000]] v.toNat) 0)=z/\1<=x/\x<=1000/\2<=y/\y<=1000/\4<=z/\z<=1000:=by
 have hc:v=0\/v=1\/v=2\/v=3\/v=4:=by omega
 rcases hc with rfl|rfl|rfl|rfl|rfl<;>exact⟨_,_,_,rfl,rfl,rfl,by decide⟩
theorem Zjl {v:Int} (h:0<=v/\v<4):∃x,Af (nth .dead (nth [] [[I 0],[I 1],[I 3],[I 6]] v.toNat) 0)=x/\0<=x/\x<=6:=by
 have hc:v=0\/v=1\/v=2\/v=3:=by omega
 rcases hc with rfl|rfl|rfl|rfl<;>exact⟨_,rfl,by decide⟩
abbrev axS (l:Rw) (pit:List Int) (n v:Int) (j:Nat) (a:Axs) (k:Nat):List AC:=
 [.view Aa [], .view Aa (pit.map Ap),I n,I v,I j,I 0,I 0,I 0,I 0,I 0,I 0,I 0,I 0,I 0,I a.step,I a.speed,I a.accel,I a.jerk,I a.low,I a.high,I a.back,I a.origin,I a.spacing, .view Aa l,I k]
theorem Q2y {MN:Fn} {l:Rw} (hN:GA l MN) {a:Axs} (hsp:4<=a.spacing/\a.spacing<=123):∀(r j:Nat) (pit:List Int) (v:Int) (k:Nat),j+r<=4->pit.length=j->Ii a.spacing (pit++[v])->
  ∃(pit':List Int) (k':Nat),An (Rb MN) (axS l pit (j+r:Nat) v j a k)=some (1,[.view Aa [], .view Aa (pit'.map Ap),I 0,I 0,I 0,I 0,I 0,I 0,I 0,I 0,I 0,I a.step,I a.speed,I a.accel,I a.jerk,I a.low,I a.high,I a.back,I a.origin,I a.spacing, .view Aa l,I k'])/\pit'.length=j+r/\Ii a.spacing pit'
 |0,j,pit,v,k,_,hl,h=>by
  refine⟨pit,k,A5 (o:=(1,_)) ?_ (by simp),by omega,Zjg h⟩;rw[Q65,AX (by omega)]
 |r+1,j,pit,v,k,hj,hl,h=>by
  have hv:=h.1 v (by simp);have e4:IntKind.i64.wrap (a.spacing.tdiv 4)=a.spacing/4:=by rw[Int.tdiv_eq_ediv_of_nonneg (by omega),Ae (by omega)]
  have e5:IntKind.i64.wrap (IntKind.i64.wrap (2*(a.spacing/4))+1)=2*(a.spacing/4)+1:=by rw[Ae (x:=2*(a.spacing/4)) (by omega),Ae (by omega)]
  obtain⟨w,k1,hw,w0,w1,-⟩:=hN k (n:=2*(a.spacing/4)+1) (by omega);have e6:IntKind.i64.wrap (IntKind.i64.wrap (v+w)-a.spacing/4)=v+w-a.spacing/4:=by rw[Ae (x:=v+w) (by omega),Ae (by omega)]
  have hle:(pit.map Ap++[[I v]]).length*8<=140737488355328:=by rw[List.length_append,List.length_map];simp only[List.length_cons,List.length_nil];omega
  have hst:Rb MN (axS l pit (j+(r+1):Nat) v j a k)=some (0,axS l (pit++[v]) (j+1+r:Nat) (min (max (v+w-a.spacing/4) (-4096)) 4096) (j+1) a k1):=by
   rw[Q65];simp only[go_sem,if_pos hle,e4,e5,hw,e6,Jy,NH];rw[if_pos (by omega),Ae (x:=(j:Int)+1) (by omega),show j+(r+1)=j+1+r by omega];simp only[axS,List.map_append,List.map_cons,List.map_nil,Ap,Int.natCast_add,Int.cast_ofNat_Int]
  rw[Bv hst];obtain⟨p',k',h1,h2,h3⟩:=Q2y hN hsp r (j+1) (pit++[v]) (min (max (v+w-a.spacing/4) (-4096)) 4096) k1 (by omega) (by simp[hl]) (Zxs h (by omega) (by omega));exact⟨p',k',h1,by omega,h3⟩
theorem Z1w {MN:Fn} {N:Lp} {l:Rw} (hN:GA l MN)
  (hL:∀{a:Axs} {n:Nat} {v:Int} {k:Nat},(4<=a.spacing/\a.spacing<=123)->n<=4->Ii a.spacing ([]++[v])->∃(pit':List Int) (k':Nat),N (axS l [] n v 0 a k)=some (1,[.view Aa [], .view Aa (pit'.map Ap),I 0,I 0,I 0,I 0,I 0,I 0,I 0,I 0,I 0,I a.step,I a.speed,I a.accel,I a.jerk,I a.low,I a.high,I a.back,I a.origin,I a.spacing, .view Aa l,I k'])/\pit'.length=n/\Ii a.spacing pit') (k:Nat):
  ∃(a:Axs) (k':Nat),Qnf MN N [.view Aa l,I k]=some (Bh a++[.view Aa l,I k'])/\AxOK a:=by
 obtain⟨v1,k1,h1,a1,b1,-⟩:=hN k (n:=6) (by omega);obtain⟨v2,k2,h2,a2,b2,-⟩:=hN k1 (n:=4) (by omega);obtain⟨v3,k3,h3,a3,b3,-⟩:=hN k2 (n:=5) (by omega);obtain⟨v4,k4,h4,a4,b4,-⟩:=hN k3 (n:=5) (by omega);obtain⟨v5,k5,h5,a5,b5,-⟩:=hN k4 (n:=5) (by omega);obtain⟨v6,k6,h6,a6,b6,-⟩:=hN k5 (n:=5) (by omega);obtain⟨v7,k7,h7,a7,b7,-⟩:=hN k6 (n:=400) (by omega);obtain⟨v8,k8,h8,a8,b8,-⟩:=hN k7 (n:=120) (by omega);obtain⟨v9,k9,h9,a9,b9,-⟩:=hN k8 (n:=9) (by omega);obtain⟨x1,e1,s1⟩:=Zbr ⟨a1,b1⟩;obtain⟨x2,e2,s2⟩:=Zjl ⟨a2,b2⟩;have i1:(0:Int)<=v1/\v1<(([[I 8],[I 4],[I 5],[I 16],[I 23],[I 64]]:Rw).length:Int):=⟨a1,by simp;omega⟩;have i2:(0:Int)<=v2/\v2<(([[I 0],[I 1],[I 3],[I 6]]:Rw).length:Int):=⟨a2,by simp;omega⟩;have i3:(0:Int)<=v3/\v3<(([[I 40],[I 1],[I 3],[I 9],[I 1000]]:Rw).length:Int):=⟨a3,by simp;omega⟩;have i4:(0:Int)<=v4/\v4<(([[I 20],[I 2],[I 3],[I 5],[I 1000]]:Rw).length:Int):=⟨a4,by simp;omega⟩;have i5:(0:Int)<=v5/\v5<(([[I 30],[I 4],[I 5],[I 8],[I 1000]]:Rw).length:Int):=⟨a5,by simp;omega⟩;obtain⟨x3,_,_,hx3,-,-,s3,t3,-⟩:=Qo8 ⟨a3,b3⟩;obtain⟨_,x4,_,-,hx4,-,-,-,s4,t4,-⟩:=Qo8 ⟨a4,b4⟩;obtain⟨_,_,x5,-,-,hx5,-,-,-,-,s5,t5⟩:=Qo8 ⟨a5,b5⟩;have main : ∀ R, R = (if v6 = 0 then some [I x1, I x3, I x4, I x5, I (-16777216), I 16777216, I x2, I 0, I 0, .view Aa [], .view Aa l, I k6] else
   (N (axS l [] v6.toNat (v9-4) 0 ⟨x1,x3,x4,x5,-16777216,16777216,x2,v7-200,4+v8,[]⟩ k9)).bind fun o=>if o.1=1 then some [I (Af (nth .dead o.2 11)),I (Af (nth .dead o.2 12)),I (Af (nth .dead o.2 13)),I (Af (nth .dead o.2 14)),I (Af (nth .dead o.2 15)),I (Af (nth .dead o.2 16)),I (Af (nth .dead o.2 17)),I (Af (nth .dead o.2 18)),I (Af (nth .dead o.2 19)), .view Aa (BL (nth .dead o.2 1)), .view Aa (BL (nth .dead o.2 20)),I (Af (nth .dead o.2 21))]else none)->
   ∃(a:Axs) (k':Nat),R=some (Bh a++[.view Aa l,I k'])/\AxOK a:=by
  intro R hR;by_cases c:v6=0
  ·rw[if_pos c]at hR;refine⟨⟨x1,x3,x4,x5,-16777216,16777216,x2,0,0,[]⟩,k6,hR,?_⟩;exact⟨s1,s2,by simp,fun h=>absurd rfl h,⟨by simp,by simp⟩,by simp,⟨s3,t3,s4,t4,s5,t5,rfl,rfl⟩⟩
  ·rw[if_neg c]at hR;obtain⟨pit,k',g1,g2,g3⟩:=hL (a:=⟨x1,x3,x4,x5,-16777216,16777216,x2,v7-200,4+v8,[]⟩) (n:=v6.toNat) (v:=v9-4) (k:=k9) (by simp only;omega) (by omega) (Q81 (by omega));rw[g1]at hR;refine⟨⟨x1,x3,x4,x5,-16777216,16777216,x2,v7-200,4+v8,pit⟩,k',?_,?_⟩
   ·rw[hR];simp only[go_sem];try rfl
   ·exact⟨s1,s2,by simp only;omega,fun _=>by simp only;omega,g3,by simp only;omega,⟨s3,t3,s4,t4,s5,t5,rfl,rfl⟩⟩
 refine main _ ?_;rw[Zyn];simp only[go_sem,h1,h2,h3,h4,h5,h6,if_pos i1,if_pos i2,if_pos i3,if_pos i4,if_pos i5,e1,e2,hx3,hx4,hx5];by_cases c:v6=0
 ·rw[if_pos c,if_pos c]
 ·rw[if_neg c,if_neg c];simp only[h7,h8,h9,go_sem,Ae (x:=v9-4) (by omega),Ae (x:=v7-200) (by omega),Ae (x:=4+v8) (by omega)];have e:((v6.toNat:Nat):Int)=v6:=by omega
  simp only[axS,e,List.map_nil];rfl
theorem Uz {l:Rw} (hl:Src l) (k:Nat):∃(a:Axs) (k':Nat),Nm [.view Aa l,I k]=some (Bh a++[.view Aa l,I k'])/\AxOK a:=by
 refine Z1w (N:=Xx) (Hc hl) (fun{a n v k} hs hn hv=> ?_) k;obtain⟨p,k',h1,h2,h3⟩:=Q2y (MN:=BA) (Hc hl) hs n 0 [] v k (by omega) rfl hv;rw[Nat.zero_add]at h1 h2;exact⟨p,k',h1,h2,h3⟩
structure Ax3M (x : Ax3) : Prop where
 a:AxOK x.a
 b:AxOK x.b
 c:AxOK x.c
theorem Ax3M.ok {x:Ax3} (h:Ax3M x):Ax3OK x:=⟨by have:=h.a.back;omega,by have:=h.b.back;omega,by have:=h.c.back;omega⟩
theorem Zty {l:Rw} (hl:Src l):∃x:Ax3,Md [.view Aa l]=some (AI x)/\Ax3M x:=by
 obtain⟨a,k1,h1,g1⟩:=Uz hl 0;obtain⟨b,k2,h2,g2⟩:=Uz hl k1;obtain⟨c,k3,h3,g3⟩:=Uz hl k2;refine⟨⟨a,b,c⟩,?_,g1,g2,g3⟩;have hf:=PI l;unfold Md;generalize Nm=MA at*;generalize Cs=MF at*;rw[Z29];have h1':MA [.view Aa l,I 0]=some (Bh a++[.view Aa l,I k1]):=h1;simp only[Bh,List.cons_append,List.nil_append]at h1' h2 h3;simp only[go_sem,hf,h1',h2,h3]
end Go.Bm
namespace Go.Bm
open Classical
theorem Z1h {p:Pth} {x:Ax3} {mv lo hi f:Int} {d:Pt} (j:Nat):(Co p x mv lo hi (⟨[],0,f,d⟩,d) j).1.start=f/\(Co p x mv lo hi (⟨[],0,f,d⟩,d) j).1.dirs=d:=by
 induction j with
 |zero=>exact⟨rfl,rfl⟩
 |succ j ih=>rw[Co,(Qx7 _).1,(Qx7 _).2];exact ih
theorem Qpc {p:Pth} {x:Ax3} {lo hi mv f:Int} {d:Pt} (hv:mv=1\/mv= -1) (hp:GoodPath p) (hx:Ax3OK x):∀(k j:Nat),j+k=p.segs.length->∀w,w=Co p x mv lo hi (⟨[],0,f,d⟩,d) j->
  An (S7 FJ L8) (PH p x lo hi mv w.1 w.2 j)=some (1,FW x mv (Co p x mv lo hi (⟨[],0,f,d⟩,d) p.segs.length).1 (Co p x mv lo hi (⟨[],0,f,d⟩,d) p.segs.length).2)
 |0,j,hj,w,hw=>by
  have hj':j=p.segs.length:=by omega
  refine A5 (o:=(1,_)) ?_ (by simp);rw[Qtp,AX (by omega),hw,hj']
 |k+1,j,hj,w,hw=>by
  have hcnt:=hp.count;have hb:=Uv (mv:=mv) (lo:=lo) (hi:=hi) (f:=f) (d:=d) hx hp.ok j (by omega);rw[<-hw]at hb;have hst:=Zae (MV:=FJ) (N:=L8) (lo:=lo) (hi:=hi) (now:=w.2) (j:=j) hv hp hx hb (by omega) (by omega) (by omega) (fun{a b s units} hu=>Zic hv hx hb (by omega) (by omega) (k:=268435456) (by omega) hu);rw[Bv hst];exact Qpc hv hp hx k (j+1) (by omega) _ (by rw[Co,<-hw])
theorem Znr {MV:Fn} {N4 N10:Lp} {p:Pth} {x:Ax3} {lo hi mv f:Int} {d:Pt}
  (h4:N4 (OR p x lo hi mv ⟨[],0,f,d⟩ d 0 [] 0)=some (1,[.view Aa (Fd p.segs p.segs.length), .view As [],I lo,I hi,I mv,I p.start.x,I p.start.y,I p.start.z, .view Ah (p.segs.map Ay), .view AD (p.marks.map At),I d.x,I d.y,I d.z,I mv,I x.a.step,I x.a.speed,I x.a.accel,I x.a.jerk,I x.a.low,I x.a.high,I x.a.back,I x.a.origin,I x.a.spacing, .view Aa (x.a.pitch.map Ap),I x.b.step,I x.b.speed,I x.b.accel,I x.b.jerk,I x.b.low,I x.b.high,I x.b.back,I x.b.origin,I x.b.spacing, .view Aa (x.b.pitch.map Ap),I x.c.step,I x.c.speed,I x.c.accel,I x.c.jerk,I x.c.low,I x.c.high,I x.c.back,I x.c.origin,I x.c.spacing, .view Aa (x.c.pitch.map Ap),I 0,I f,I d.x,I d.y,I d.z]))
  (h10:N10 (PH p x lo hi mv ⟨[],0,f,d⟩ d 0)=some (1,FW x mv (Co p x mv lo hi (⟨[],0,f,d⟩,d) p.segs.length).1 (Co p x mv lo hi (⟨[],0,f,d⟩,d) p.segs.length).2)):
  Qhz MV N4 N10 [.view As [],I p.start.x,I p.start.y,I p.start.z, .view Ah (p.segs.map Ay), .view AD (p.marks.map At),I lo,I hi,I mv,I d.x,I d.y,I d.z,I mv,I x.a.step,I x.a.speed,I x.a.accel,I x.a.jerk,I x.a.low,I x.a.high,I x.a.back,I x.a.origin,I x.a.spacing, .view Aa (x.a.pitch.map Ap),I x.b.step,I x.b.speed,I x.b.accel,I x.b.jerk,I x.b.low,I x.b.high,I x.b.back,I x.b.origin,I x.b.spacing, .view Aa (x.b.pitch.map Ap),I x.c.step,I x.c.speed,I x.c.accel,I x.c.jerk,I x.c.low,I x.c.high,I x.c.back,I x.c.origin,I x.c.spacing, .view Aa (x.c.pitch.map Ap),I 0,I f,I d.x,I d.y,I d.z]=some (FW x mv (Co p x mv lo hi (⟨[],0,f,d⟩,d) p.segs.length).1 (Co p x mv lo hi (⟨[],0,f,d⟩,d) p.segs.length).2):=by
 rw[Z2j];simp only[OR,List.map_nil,Int.cast_ofNat_Int]at h4;simp only[PH,FW,List.map_nil,Int.cast_ofNat_Int]at h10;simp only[go_sem,List.length_map,h4,h10]
theorem Znl {p:Pth} {x:Ax3} {lo hi mv f:Int} {d:Pt} (hv:mv=1\/mv= -1) (hp:GoodPath p) (hx:Ax3OK x):
  PA [.view As [],I p.start.x,I p.start.y,I p.start.z, .view Ah (p.segs.map Ay), .view AD (p.marks.map At),I lo,I hi,I mv,I d.x,I d.y,I d.z,I mv,I x.a.step,I x.a.speed,I x.a.accel,I x.a.jerk,I x.a.low,I x.a.high,I x.a.back,I x.a.origin,I x.a.spacing, .view Aa (x.a.pitch.map Ap),I x.b.step,I x.b.speed,I x.b.accel,I x.b.jerk,I x.b.low,I x.b.high,I x.b.back,I x.b.origin,I x.b.spacing, .view Aa (x.b.pitch.map Ap),I x.c.step,I x.c.speed,I x.c.accel,I x.c.jerk,I x.c.low,I x.c.high,I x.c.back,I x.c.origin,I x.c.spacing, .view Aa (x.c.pitch.map Ap),I 0,I f,I d.x,I d.y,I d.z]=some (FW x mv (Co p x mv lo hi (⟨[],0,f,d⟩,d) p.segs.length).1 (Co p x mv lo hi (⟨[],0,f,d⟩,d) p.segs.length).2):=by
 refine Znr (MV:=FJ) (N4:=L8) (N10:=Qlf) ?_ (Qpc hv hp hx p.segs.length 0 (by omega) _ rfl);have h:=Qwd (M:=FJ) (x:=x) (lo:=lo) (hi:=hi) (mv:=mv) (t:=⟨[],0,f,d⟩) (now:=d) hp.ok p.segs.length 0 (by omega);rw[Rs]at h;exact h
theorem Z2o {ME M2 M1 MC ML:Fn} {p:Pth} {x:Ax3} {d:Pt} {from_ to:Int} (hL:ML (By p)=some [I (AT p.segs)]) (hC:∀n h:Int,MC [I n,I h]=some [I (B2 n h)])
  (hE:∀{lo hi mv f:Int},(mv=1\/mv= -1)->ME [.view As [],I p.start.x,I p.start.y,I p.start.z, .view Ah (p.segs.map Ay), .view AD (p.marks.map At),I lo,I hi,I mv,I d.x,I d.y,I d.z,I mv,I x.a.step,I x.a.speed,I x.a.accel,I x.a.jerk,I x.a.low,I x.a.high,I x.a.back,I x.a.origin,I x.a.spacing, .view Aa (x.a.pitch.map Ap),I x.b.step,I x.b.speed,I x.b.accel,I x.b.jerk,I x.b.low,I x.b.high,I x.b.back,I x.b.origin,I x.b.spacing, .view Aa (x.b.pitch.map Ap),I x.c.step,I x.c.speed,I x.c.accel,I x.c.jerk,I x.c.low,I x.c.high,I x.c.back,I x.c.origin,I x.c.spacing, .view Aa (x.c.pitch.map Ap),I 0,I f,I d.x,I d.y,I d.z]=some (FW x mv (Co p x mv lo hi (⟨[],0,f,d⟩,d) p.segs.length).1 (Co p x mv lo hi (⟨[],0,f,d⟩,d) p.segs.length).2)):
  Xl ME M2 M1 MC ML (By p++AI x++[I d.x,I d.y,I d.z,I from_,I to])=some (Bj (EZ p x d from_ to)):=by
 have he:=Q97 ME M2 M1 MC ML p.start.x p.start.y p.start.z (p.segs.map Ay) (p.marks.map At) x.a.step x.a.speed x.a.accel x.a.jerk x.a.low x.a.high x.a.back x.a.origin x.a.spacing (x.a.pitch.map Ap) x.b.step x.b.speed x.b.accel x.b.jerk x.b.low x.b.high x.b.back x.b.origin x.b.spacing (x.b.pitch.map Ap) x.c.step x.c.speed x.c.accel x.c.jerk x.c.low x.c.high x.c.back x.c.origin x.c.spacing (x.c.pitch.map Ap) d.x d.y d.z from_ to;refine Eq.trans he ?_;unfold EZ;simp only[By]at hL;simp only[hL,hC,go_sem,Jy,NH];generalize B2 from_ (AT p.segs)=f at*;generalize B2 to (AT p.segs)=t at*;by_cases c:t<f
 ·have h:=hE (lo:=min f t) (hi:=max f t) (mv:= -1) (f:=f) (.inr rfl);simp only[FW]at h;simp only[h,go_sem,c,if_true]
 ·have h:=hE (lo:=min f t) (hi:=max f t) (mv:=1) (f:=f) (.inl rfl);simp only[FW]at h;simp only[h,go_sem,c,if_false]
theorem Zkt {p:Pth} {x:Ax3} {d:Pt} {from_ to:Int} (hp:GoodPath p) (hx:Ax3OK x):Jw (By p++AI x++[I d.x,I d.y,I d.z,I from_,I to])=some (Bj (EZ p x d from_ to)):=
 Z2o (Qt5 hp.ok) (fun _ _=>Qj0) fun hv=>Znl hv hp hx
theorem Ze2 {p:Pth} {x:Ax3} (d:Pt) (a b:Int) (hp:GoodPath p) (hx:Ax3OK x):(EZ p x d a b).pieces.length<=10000000/\0<=(EZ p x d a b).length/\(EZ p x d a b).length<=900000000000000:=by
 have hc:=hp.count;have h:=Uv (mv:=if B2 a (AT p.segs)>B2 b (AT p.segs)then-1 else 1) (lo:=min (B2 a (AT p.segs)) (B2 b (AT p.segs))) (hi:=max (B2 a (AT p.segs)) (B2 b (AT p.segs))) (f:=B2 a (AT p.segs)) (d:=d) hx hp.ok p.segs.length (Nat.le_refl _);obtain⟨h1,h2,-⟩:=h;unfold EZ;simp only;refine⟨by omega,by omega,by omega⟩
end Go.Bm
namespace Go.Bm
open Classical
theorem Qy1 {x:Ax3} {mv:Int} {Q:Int->Pt->Prop}:∀{a s:Int} {d:Pt} {l:List Pce},Fj x mv Q a s d l->a<=EK a l
 |a,_,_,[],_=>Int.le_refl _
 |a,s,d,c::l,h=>by
  obtain⟨-,-,h3,-,h5⟩:=h;have:=Qy1 h5;unfold EK;omega
theorem PL {x:Ax3} {mv:Int} {Q:Int->Pt->Prop} (hv:mv=1\/mv= -1):∀{a s:Int} {d:Pt} {l:List Pce},Fj x mv Q a s d l->∀i,i<l.length->
  a<=(pcA l i).at_/\1<=(pcA l i).units/\eI l i<=EK a l/\(s-((pcA l i).at_-a)<=(pcA l i).s/\(pcA l i).s<=s+((pcA l i).at_-a))/\((pcA l i).move=0\/(pcA l i).move=mv)
 |a,s,d,c::l,h,0,_=>by
  obtain⟨h1,h2,h3,h4,h5⟩:=h;have:=Qy1 h5;unfold eI;rw[Lu];refine⟨by omega,h3,by unfold EK;omega,by omega,?_⟩;rcases h4 with h4|h4
  ·exact .inr h4.1
  ·exact .inl h4.1
 |a,s,d,c::l,h,i+1,hi=>by
  obtain⟨h1,h2,h3,h4,h5⟩:=h;have ih:=PL hv h5 i (by simpa using hi);unfold eI at ih⊢;rw[HL];obtain⟨g1,g2,g3,g4,g5⟩:=ih;have hm:c.move*c.units=0\/c.move*c.units=c.units\/c.move*c.units= -c.units:=by
   rcases h4 with h4|h4
   ·rw[h4.1];rcases hv with rfl|rfl<;>omega
   ·rw[h4.1];omega
  refine⟨by omega,g2,by unfold EK;exact g3,by omega,g5⟩
theorem Q1m {x:Ax3} {mv:Int} {Q:Int->Pt->Prop} (hv:mv=1\/mv= -1):∀{a s:Int} {d:Pt} {l:List Pce},Fj x mv Q a s d l->∀i j,i<=j->j<l.length->eI l i<=eI l j
 |a,s,d,c::l,h,0,0,_,_=>Int.le_refl _
 |a,s,d,c::l,h,0,j+1,_,hj=>by
  obtain⟨h1,h2,h3,h4,h5⟩:=h;have:=PL hv h5 j (by simpa using hj);unfold eI at*;rw[Lu,HL];omega
 |a,s,d,c::l,h,i+1,0,hij,_=>by omega
 |a,s,d,c::l,h,i+1,j+1,hij,hj=>by
  obtain⟨h1,h2,h3,h4,h5⟩:=h;have:=Q1m hv h5 i j (by omega) (by simpa using hj);unfold eI at*;rw[HL,HL];exact this
theorem Qst {x:Ax3} {mv:Int} {Q:Int->Pt->Prop}:∀{a s:Int} {d:Pt} {l:List Pce},Fj x mv Q a s d l->l≠[]->eI l (l.length-1)=EK a l
 |a,s,d,[c],h,_=>by
  obtain⟨h1,-⟩:=h;show eI [c] 0=EK a [c];unfold eI;rw[Lu];simp only[EK];omega
 |a,s,d,c::e::l,h,_=>by
  obtain⟨-,-,-,-,h5⟩:=h;have:=Qst h5 (by simp);have e1:(c::e::l).length-1=((e::l).length-1)+1:=by simp
  rw[e1];unfold eI at*;rw[HL,this];rfl
def mvP (p:Pth) (a b:Int):Int:=if B2 a (AT p.segs)>B2 b (AT p.segs)then-1 else 1
theorem Zcr (p:Pth) (a b:Int):mvP p a b=1\/mvP p a b= -1:=by unfold mvP;split<;>simp
theorem Q5p {p:Pth} {x:Ax3} {d:Pt} {a b:Int} {Q:Int->Pt->Prop} (hx:Ax3OK x) (hp:GoodPath p) (hQ:Qqw p (mvP p a b) Q):
  ∃d',TC x (mvP p a b) Q (EZ p x d a b) (B2 b (AT p.segs)) d'/\(EZ p x d a b).start=B2 a (AT p.segs)/\(EZ p x d a b).dirs=d:=by
 have hn:=Qtd hp;have ha:0<=B2 a (AT p.segs)/\B2 a (AT p.segs)<=AT p.segs:=by unfold B2;omega
 have hb:0<=B2 b (AT p.segs)/\B2 b (AT p.segs)<=AT p.segs:=by unfold B2;omega
 have hk:=fun mv lo hi f=>Z1h (p:=p) (x:=x) (mv:=mv) (lo:=lo) (hi:=hi) (f:=f) (d:=d) p.segs.length;unfold EZ mvP at*;simp only;generalize B2 a (AT p.segs)=f at*;generalize B2 b (AT p.segs)=t at*;have h:=Q3z (p:=p) (x:=x) (mv:=if f>t then-1 else 1) (lo:=min f t) (hi:=max f t) (f:=f) (d:=d) (Q:=Q) (by split<;>simp) hx hp.ok (by omega) (by split<;>omega) hQ p.segs.length (Nat.le_refl _);have hs:Jq p.segs (if f>t then-1 else 1) (min f t) (max f t) p.segs.length=t:=by
  unfold Jq;rw[Nat.sub_self,Rs,Qsn];by_cases c:f>t
  ·rw[if_pos c,if_pos (by omega)];omega
  ·rw[if_neg c,if_neg (by omega)];omega
 rw[hs]at h;exact⟨_,h,(hk _ _ _ _).1,(hk _ _ _ _).2⟩
theorem Zcl {x:Ax3} {mv:Int} {Q:Int->Pt->Prop} {t:Trk} {s:Int} {d:Pt} (hv:mv=1\/mv= -1) (h:TC x mv Q t s d) (hb:t.pieces.length<=10000000/\0<=t.length/\t.length<=900000000000000) (hs:0<=t.start/\t.start<=263886834032640):TQ t:=by
 obtain⟨h1,h2,-,-⟩:=h;refine⟨hb.1,hb.2,fun i hi=> ?_,Q1m hv h1,fun hne=>by rw[Qst h1 hne,h2],hs,fun i hi=> ?_,fun i hi=> ?_⟩
 ·have:=PL hv h1 i hi;rw[h2]at this;exact⟨this.1,this.2.1,this.2.2.1⟩
 ·have:=PL hv h1 i hi;rw[h2]at this;unfold eI at this;omega
 ·have:=(PL hv h1 i hi).2.2.2.2;rcases hv with rfl|rfl
  ·rcases this with h|h
   ·exact .inl h
   ·exact .inr (.inl h)
  ·rcases this with h|h
   ·exact .inl h
   ·exact .inr (.inr h)
theorem Zvu {p:Pth} {x:Ax3} (d:Pt) (a b:Int) (hx:Ax3OK x) (hp:GoodPath p):TQ (EZ p x d a b):=by
 have hn:=Qtd hp;obtain⟨d',h1,h2,-⟩:=Q5p (d:=d) (a:=a) (b:=b) (Q:=fun _ _=>True) hx hp (fun _ _ _ _ _ _ _ _=>trivial);exact Zcl (Zcr p a b) h1 (Ze2 d a b hp hx) (by rw[h2];unfold B2;omega)
end Go.Bm
namespace Go.Bm
open Classical
def B4 (a:Axs) (i:Nat):Int:=a.pitch.getD i 0
def JO (a:Axs) (p:Int):Int:=
 if a.pitch=[]then 0
 else if p<=a.origin then B4 a 0
 else if(p-a.origin)/a.spacing>=a.pitch.length-1 then B4 a (a.pitch.length-1)
 else B4 a ((p-a.origin)/a.spacing).toNat+Bd ((B4 a (((p-a.origin)/a.spacing).toNat+1)-B4 a ((p-a.origin)/a.spacing).toNat)*(p-a.origin-(p-a.origin)/a.spacing*a.spacing)) a.spacing
def HQ (a:Axs) (p:Int):Int:=Bd (p+JO a p) a.step
def okB (p:Int):Prop:= -1000000000<=p/\p<=1000000000
theorem Q2t {l:List Int} (h:l≠[]):0<l.length:=by
 cases l with
 |nil=>exact absurd rfl h
 |cons _ _=>simp
theorem Pf {a:Axs} (h:AxOK a) {i:Nat} (hi:i<a.pitch.length): -4096<=B4 a i/\B4 a i<=4096:=by
 have e:B4 a i=a.pitch[i]:=by unfold B4;simp[hi]
 rw[e];exact h.pitch.1 _ (List.getElem_mem _)
theorem Sa {a:Axs} {i:Nat} (hi:i<a.pitch.length):nth [] (a.pitch.map Ap) i=[I (B4 a i)]:=by
 have e:B4 a i=a.pitch[i]:=by unfold B4;simp[hi]
 rw[e];exact IW _ _ _ _ hi
theorem Qtz {a:Axs} (h:AxOK a) (hne:a.pitch≠[]) {p:Int} (h1: ¬p<=a.origin) (h2: ¬(p-a.origin)/a.spacing>=a.pitch.length-1):
  ∃(i:Nat) (r:Int),((p-a.origin)/a.spacing=i)/\i+1<a.pitch.length/\0<=r/\r<a.spacing/\p-a.origin=i*a.spacing+r/\p-a.origin-(p-a.origin)/a.spacing*a.spacing=r:=by
 have hs:=h.spacing hne;have e0:=Int.mul_ediv_add_emod (p-a.origin) a.spacing;have e1:=Int.emod_nonneg (p-a.origin) (show a.spacing≠0 by omega);have e2:=Int.emod_lt_of_pos (p-a.origin) (show 0<a.spacing by omega);have e3:0<=(p-a.origin)/a.spacing:=Int.ediv_nonneg (by omega) (by omega);refine⟨((p-a.origin)/a.spacing).toNat,(p-a.origin)%a.spacing,by omega,by omega,e1,e2,?_,?_⟩
 ·rw[Int.toNat_of_nonneg e3,Int.mul_comm];omega
 ·rw[Int.mul_comm ((p-a.origin)/a.spacing)];omega
theorem Qyv {a:Axs} (h:AxOK a) (hne:a.pitch≠[]) {i:Nat} (hi:i+1<a.pitch.length) {r:Int} (hr:0<=r/\r<=a.spacing):
  (-30<=B4 a (i+1)-B4 a i/\B4 a (i+1)-B4 a i<=30)/\(Bd ((B4 a (i+1)-B4 a i)*r) a.spacing).natAbs<=31:=by
 have hs:=h.spacing hne;have hp:=h.pitch.2 i hi;have hd: -30<=B4 a (i+1)-B4 a i/\B4 a (i+1)-B4 a i<=30:=by unfold B4;omega
 refine⟨hd,Qbk (by omega) ?_⟩;have m1:(B4 a (i+1)-B4 a i)*r<=31*r:=Int.mul_le_mul_of_nonneg_right (by omega) hr.1;have m2: -31*r<=(B4 a (i+1)-B4 a i)*r:=Int.mul_le_mul_of_nonneg_right (by omega) hr.1;have e:((31:Nat):Int)=31:=rfl;rw[e];omega
theorem Qub {a:Axs} (h:AxOK a) (p:Int): -5000<=JO a p/\JO a p<=5000:=by
 unfold JO;by_cases c:a.pitch=[]
 ·rw[if_pos c];omega
 ·have hl:=Q2t c;rw[if_neg c];by_cases c1:p<=a.origin
  ·rw[if_pos c1];have:=Pf h (show 0<a.pitch.length from hl);omega
  ·rw[if_neg c1];by_cases c2:(p-a.origin)/a.spacing>=a.pitch.length-1
   ·rw[if_pos c2];have:=Pf h (show a.pitch.length-1<a.pitch.length by omega);omega
   ·rw[if_neg c2];obtain⟨i,r,e1,e2,e3,e4,e5,e6⟩:=Qtz h c c1 c2;rw[e6,e1,Int.toNat_natCast];have b1:=Pf h (show i<a.pitch.length by omega);have b2:=(Qyv h c e2 (r:=r) (by omega)).2;omega
theorem Zze {a:Axs} (h:AxOK a) {v:Int} (hv:v.natAbs<=1000010000):JE (Bh a++[I v])=some [I (Bd v a.step)]:=by
 have hs:=h.step;have he:=Zmz a.step a.speed a.accel a.jerk a.low a.high a.back a.origin a.spacing (a.pitch.map Ap) v;unfold JE;refine Eq.trans he ?_;rw[Ae (x:=2*v) (by omega),Ae (x:=2*v+a.step) (by omega),Ae (x:=2*a.step) (by omega)];have hm:=Int.tmod_add_mul_tdiv (2*v+a.step) (2*a.step);have h1:=Int.tmod_lt_of_pos (2*v+a.step) (show 0<2*a.step by omega);have h2:=Int.lt_tmod_of_pos (2*v+a.step) (show 0<2*a.step by omega);have hq:((2*v+a.step).tdiv (2*a.step)).natAbs<=(2*v+a.step).natAbs:=by rw[Int.natAbs_tdiv];exact Nat.div_le_self _ _
 generalize(2*v+a.step).tdiv (2*a.step)=q at*;generalize(2*v+a.step).tmod (2*a.step)=r at*;have e1:2*a.step*q=q*(2*a.step):=Int.mul_comm _ _;rw[AX (by omega),AX (by omega),AX (by omega),AX (by omega),Ae (x:=q) (by omega)];by_cases h:r<0
 ·rw[DA h,Ae (by omega),Le (k:=q-1) (by omega)]
  ·rw[Int.sub_mul];omega
  ·rw[Int.sub_add_cancel];omega
 ·rw[AX h,Le (k:=q) (by omega)]
  ·omega
  ·rw[Int.add_mul];omega
theorem Z0x {a:Axs} (h:AxOK a) {p:Int} (hp:okB p):Kl (Bh a++[I p])=some [I (JO a p)]:=by
 unfold okB at hp;have ho:=h.origin;have hc:=h.count;have he:=Z24 Bq a.step a.speed a.accel a.jerk a.low a.high a.back a.origin a.spacing (a.pitch.map Ap) p;unfold Kl;have hF:=fun{x y:Int} (hx:x.natAbs<=30) (hy:y.natAbs<=123) (hs:4<=a.spacing/\a.spacing<=123)=>Qxo (a:=x) (b:=y) (c:=a.spacing) (by omega) (by omega) (by omega);generalize Bq=M at*;refine Eq.trans he ?_;unfold JO;rw[List.length_map];by_cases c:a.pitch=[]
 ·rw[if_pos c,c];rfl
 ·have hl:=Q2t c;have hs:=h.spacing c;have e1:IntKind.i64.wrap ((a.pitch.length:Int)-1)=((a.pitch.length-1:Nat):Int):=by rw[Ae (by omega)];omega
  have e2:IntKind.i64.wrap (p-a.origin)=p-a.origin:=Ae (by omega);rw[if_neg c,e2,e1];by_cases c1:p<=a.origin
  ·rw[if_pos c1];simp only[go_sem,Sa hl];rw[if_neg (by omega),if_pos (by omega),if_pos (by omega)]
  ·have e3:IntKind.i64.wrap ((p-a.origin).tdiv a.spacing)=(p-a.origin)/a.spacing:=by
    rw[Int.tdiv_eq_ediv_of_nonneg (by omega)];have:=Int.ediv_nonneg (show 0<=p-a.origin by omega) (show 0<=a.spacing by omega);have:=Int.ediv_le_self a.spacing (show 0<=p-a.origin by omega);exact Ae (by omega)
   rw[if_neg c1,e3];by_cases c2:(p-a.origin)/a.spacing>=(a.pitch.length:Int)-1
   ·rw[if_pos c2];simp only[go_sem,Int.toNat_natCast,Sa (show a.pitch.length-1<a.pitch.length by omega)];rw[if_neg (by omega),if_neg (by omega),if_neg (by omega),if_neg (by omega),if_pos (by omega),if_pos (by omega)]
   ·rw[if_neg c2];obtain⟨i,r,g1,g2,g3,g4,g5,g6⟩:=Qtz h c c1 c2;obtain⟨n1,n2⟩:=Qyv h c g2 (r:=r) (by omega);have b1:=Pf h (show i<a.pitch.length by omega);rw[g6,g1]at*;rw[Int.toNat_natCast];have w1:IntKind.i64.wrap ((i:Int)+1)=((i+1:Nat):Int):=by rw[Ae (by omega)];omega
    have hmul:(i:Int)*a.spacing=p-a.origin-r:=by omega
    have w2:IntKind.i64.wrap (p-a.origin-IntKind.i64.wrap ((i:Int)*a.spacing))=r:=by rw[hmul,Ae (x:=p-a.origin-r) (by omega),Ae (by omega)];omega
    have hin1:(0:Int)<=(i:Int)/\(i:Int)<(a.pitch.length:Int):=by omega
    have hin2:(0:Int)<=((i+1:Nat):Int)/\((i+1:Nat):Int)<(a.pitch.length:Int):=by omega
    simp only[go_sem,w1,w2,Int.toNat_natCast,Sa (show i<a.pitch.length by omega),Sa g2,if_pos hin1,if_pos hin2];have b2:=Pf h g2;generalize B4 a (i+1)=y at*;generalize B4 a i=z at*;rw[if_neg (by omega),if_neg (by omega),if_neg (by omega),if_neg (by omega),if_neg (by omega),Ae (x:=y-z) (by omega),hF (by omega) (by omega) hs];simp only[go_sem];rw[Ae (by omega)]
theorem Zix {a:Axs} (h:AxOK a) {p:Int} (hp:okB p):Mc (Bh a++[I p])=some [I (HQ a p)]:=by
 have hb:=Qub h p;have h1:=Z0x h hp;unfold okB at hp;have h2:=Zze h (v:=p+JO a p) (by omega);have he:=Zt0 JE Kl a.step a.speed a.accel a.jerk a.low a.high a.back a.origin a.spacing (a.pitch.map Ap) p;unfold Mc;generalize JE=M1 at*;generalize Kl=M2 at*;refine Eq.trans he ?_;simp only[Bh,List.cons_append,List.nil_append]at h1 h2;simp only[h1,go_sem,Ae (x:=p+JO a p) (by omega),h2];rfl
end Go.Bm
