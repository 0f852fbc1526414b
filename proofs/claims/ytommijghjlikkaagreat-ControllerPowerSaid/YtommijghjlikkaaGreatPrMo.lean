/- laid together -/
import Derived.Test.YtommijghjlikkaaGreatPrAtF
import Derived.Test.YtommijghjlikkaaGreatMx2
set_option linter.unusedVariables false
set_option linter.unusedSimpArgs false
/- tracks: pieces, how a piece is added, the way over a path -/
set_option maxRecDepth 100000
namespace Go.Bm
open Classical

theorem Zse {α:Type} (d x:α) (l:List α):nth d (x::l) 40=nth d l 39:=by simp[nth]
theorem Zzu {α:Type} (d x:α) (l:List α):nth d (x::l) 41=nth d l 40:=by simp[nth]
theorem Zh2 {α:Type} (d x:α) (l:List α):nth d (x::l) 42=nth d l 41:=by simp[nth]
theorem Zhy {α:Type} (d x:α) (l:List α):nth d (x::l) 43=nth d l 42:=by simp[nth]
theorem Zj8 {α:Type} (d x:α) (l:List α):nth d (x::l) 44=nth d l 43:=by simp[nth]
theorem Q75 {α:Type} (d x:α) (l:List α):nth d (x::l) 45=nth d l 44:=by simp[nth]
theorem Zn9 {α:Type} (d x:α) (l:List α):nth d (x::l) 46=nth d l 45:=by simp[nth]
theorem Zdf {α:Type} (d x:α) (l:List α):nth d (x::l) 47=nth d l 46:=by simp[nth]
theorem Zpi {α:Type} (d x:α) (l:List α):nth d (x::l) 48=nth d l 47:=by simp[nth]
theorem Zo1 {α:Type} (d x:α) (l:List α):nth d (x::l) 49=nth d l 48:=by simp[nth]
theorem Zci {α:Type} (d x:α) (l:List α):nth d (x::l) 50=nth d l 49:=by simp[nth]
theorem Zxo {α:Type} (d x:α) (l:List α):nth d (x::l) 51=nth d l 50:=by simp[nth]
theorem Zca {α:Type} (d x:α) (l:List α):nth d (x::l) 52=nth d l 51:=by simp[nth]
theorem Zrn {α:Type} (d x:α) (l:List α):nth d (x::l) 53=nth d l 52:=by simp[nth]
theorem Zbd {α:Type} (d x:α) (l:List α):nth d (x::l) 54=nth d l 53:=by simp[nth]
theorem Zf0 {α:Type} (d x:α) (l:List α):nth d (x::l) 55=nth d l 54:=by simp[nth]
attribute [go_sem] Zse Zzu Zh2 Zhy Zj8 Q75 Zn9 Zdf Zpi Zo1 Zci Zxo Zca Zrn Zbd Zf0
theorem Jg (a b:Int):mn a b=min a b:=by unfold mn;rw[Int.min_def];split<;>split<;>omega
theorem LF (a b:Int):mx a b=max a b:=by unfold mx;rw[Int.max_def];split<;>split<;>omega

def Rg (now a b mv:Int):Int:=if b>a then mv else if b<a then-mv else now
def DF (now a b:Pt) (mv:Int):Pt:=⟨Rg now.x a.x b.x mv,Rg now.y a.y b.y mv,Rg now.z a.z b.z mv⟩
def slk (was dirs n v:Int):Int:=if was=dirs then v else max v n
def CA (x:Ax3) (was dirs:Pt):Int:=slk was.z dirs.z x.c.back (slk was.y dirs.y x.b.back (slk was.x dirs.x x.a.back 0))
def pc0:Pce:=⟨0,0,0,0,⟨0,0,0⟩,⟨0,0,0⟩⟩
def A_ (l:List Pce):Pce:=l.getD (l.length-1) pc0
def Fm (t:Trk) (c:Pce):Trk:=
 if t.pieces≠[]/\c.move≠0/\(A_ t.pieces).move=c.move/\(A_ t.pieces).dirs=c.dirs then
  {t with pieces:=t.pieces.set (t.pieces.length-1) {A_ t.pieces with units:=(A_ t.pieces).units+c.units},length:=t.length+c.units}
 else{t with pieces:=t.pieces++[{c with at_:=t.length}],length:=t.length+c.units}
def Az (l:List Sgm) (i:Nat):Int:=AR (l.take i)
def Ck (x:Ax3) (mv:Int) (a b:Pt) (s units:Int) (st:Trk×Pt):Trk×Pt:=
 (Fm (if CA x st.2 (DF st.2 a b mv) > 0 then Fm st.1 ⟨0, CA x st.2 (DF st.2 a b mv), s, 0, st.2, DF st.2 a b mv⟩ else st.1)
  ⟨0,units,s,mv,DF st.2 a b mv,DF st.2 a b mv⟩,DF st.2 a b mv)
def HK (p:Pth) (x:Ax3) (mv lo hi:Int) (i:Nat) (s:Trk×Pt):Trk×Pt:=
 if max (Az p.segs i) lo<min (Az p.segs (i+1)) hi then
  Ck x mv (Et p.start p.segs i) (sgA p.segs i).to (if mv<0 then min (Az p.segs (i+1)) hi else max (Az p.segs i) lo) (min (Az p.segs (i+1)) hi-max (Az p.segs i) lo) s
 else s
def D7 (n:Nat) (mv:Int) (j:Nat):Nat:=if mv<0 then n-1-j else j
def Cd (p:Pth) (x:Ax3) (mv lo hi:Int) (t0:Trk×Pt):Nat->Trk×Pt
 |0=>t0
 |j+1=>HK p x mv lo hi (D7 p.segs.length mv j) (Cd p x mv lo hi t0 j)
def BX (n hi:Int):Int:=max 0 (min n hi)
def Eo (p:Pth) (x:Ax3) (d:Pt) (from_ to:Int):Trk:=
 let n:=AR p.segs
 let f:=BX from_ n
 let t:=BX to n
 (Cd p x (if f>t then-1 else 1) (min f t) (max f t) (⟨[],0,f,d⟩,d) p.segs.length).1

structure Ax3OK (x : Ax3) : Prop where
 a:0<=x.a.back/\x.a.back<=1000
 b:0<=x.b.back/\x.b.back<=1000
 c:0<=x.c.back/\x.c.back<=1000
theorem QV {x:Ax3} (h:Ax3OK x) (a b:Pt):0<=CA x a b/\CA x a b<=1000:=by
 obtain⟨h1,h2,h3⟩:=h
 unfold CA slk
 (repeat' split)<;>omega
structure TB (t : Trk) (n m : Int) : Prop where
 count:(t.pieces.length:Int)<=n
 len:0<=t.length/\t.length<=m
 each:∀c∈t.pieces,0<=c.units/\c.units<=t.length
theorem Qst {l:List Pce} (h:l≠[]):A_ l∈l:=by
 have hp:0<l.length:=by cases l with
  |nil=>exact absurd rfl h
  |cons _ _=>simp
 have hlt:l.length-1<l.length:=by omega
 unfold A_
 rw[List.getD_eq_getElem?_getD,List.getElem?_eq_getElem hlt,Option.getD_some]
 exact List.getElem_mem _
theorem Qko {t:Trk} {n m:Int} (h:TB t n m) {c:Pce} {k:Int} (hc:0<=c.units/\c.units<=k):TB (Fm t c) (n+1) (m+k):=by
 obtain⟨h1,h2,h3⟩:=h
 unfold Fm
 by_cases g:t.pieces≠[]/\c.move≠0/\(A_ t.pieces).move=c.move/\(A_ t.pieces).dirs=c.dirs
 ·rw[if_pos g]
  refine⟨by simp only[List.length_set];omega,by simp only;omega,?_⟩
  intro q hq
  rcases List.mem_or_eq_of_mem_set hq with hq|rfl
  ·have:=h3 q hq;simp only;omega
  ·have:=h3 _ (Qst g.1);simp only;omega
 ·rw[if_neg g]
  refine⟨by simp only[List.length_append,List.length_cons,List.length_nil];omega,by simp only;omega,?_⟩
  intro q hq
  rcases List.mem_append.1 hq with hq|hq
  ·have:=h3 q hq;simp only;omega
  ·rw[List.mem_singleton]at hq;subst hq;simp only;omega
theorem Q4u (t:Trk) (c:Pce):(Fm t c).start=t.start/\(Fm t c).dirs=t.dirs:=by
 unfold Fm
 split<;>exact⟨rfl,rfl⟩
theorem Te (l:List Sgm):Az l 0=0:=by unfold Az;rw[List.take_zero];rfl
theorem Pm {l:List Sgm} {i:Nat} (h:i<l.length):Az l (i+1)=Az l i+(sgA l i).len:=by
 unfold Az
 rw[List.take_add_one,List.getElem?_eq_getElem h,Option.toList_some,Qlt,L5 h]
theorem Qnv (l:List Sgm):Az l l.length=AR l:=by unfold Az;rw[List.take_length]
theorem Qbr {l:List Sgm} (h:SegOK l):∀i,i<=l.length->0<=Az l i/\Az l i<=i*268435456
 |0,_=>by rw[Te];simp
 |i+1,hi=>by
  have:=Qbr h i (by omega)
  have:=h.seg _ (Hn (show i<l.length by omega))
  rw[Pm (by omega)]
  omega
theorem Zxw {p:Pth} {x:Ax3} {mv lo hi:Int} {i:Nat} {s:Trk×Pt} {n m:Int} (hx:Ax3OK x) (hp:SegOK p.segs) (hi':i<p.segs.length) (h:TB s.1 n m):TB (HK p x mv lo hi i s).1 (n+2) (m+268436456):=by
 have hl:=hp.seg _ (Hn hi')
 have e:=Pm hi'
 unfold HK
 by_cases c:max (Az p.segs i) lo<min (Az p.segs (i+1)) hi
 ·rw[if_pos c]
  unfold Ck
  have hs:=QV hx s.2 (DF s.2 (Et p.start p.segs i) (sgA p.segs i).to mv)
  have e1:n+2=n+1+1:=by omega
  have e2:m+268436456=m+1000+268435456:=by omega
  rw[e1,e2]
  refine Qko ?_ (by simp only;omega)
  by_cases c2:CA x s.2 (DF s.2 (Et p.start p.segs i) (sgA p.segs i).to mv)>0
  ·rw[if_pos c2];exact Qko h (by simp only;omega)
  ·rw[if_neg c2];exact⟨by have:=h.count;omega,by have:=h.len;omega,h.each⟩
 ·rw[if_neg c];exact⟨by have:=h.count;omega,by have:=h.len;omega,h.each⟩
theorem Qho {n j:Nat} (mv:Int) (h:j<n):D7 n mv j<n:=by unfold D7;split<;>omega
theorem XV {p:Pth} {x:Ax3} {mv lo hi f:Int} {d:Pt} (hx:Ax3OK x) (hp:SegOK p.segs):∀j,j<=p.segs.length->TB (Cd p x mv lo hi (⟨[],0,f,d⟩,d) j).1 (j*2) (j*268436456)
 |0,_=>⟨by simp[Cd],by simp[Cd],by simp[Cd]⟩
 |j+1,hj=>by
  have h:=Zxw (mv:=mv) (lo:=lo) (hi:=hi) hx hp (Qho mv (show j<p.segs.length by omega)) (XV (mv:=mv) (lo:=lo) (hi:=hi) (f:=f) (d:=d) hx hp j (by omega))
  rw[Cd]
  have e1:((j+1:Nat):Int)*2=j*2+2:=by omega
  have e2:((j+1:Nat):Int)*268436456=j*268436456+268436456:=by omega
  rw[e1,e2];exact h
theorem Qz8 {p:Pth} {x:Ax3} {mv lo hi:Int} {i:Nat} (s:Trk×Pt):(HK p x mv lo hi i s).1.start=s.1.start/\(HK p x mv lo hi i s).1.dirs=s.1.dirs:=by
 unfold HK
 by_cases c:max (Az p.segs i) lo<min (Az p.segs (i+1)) hi
 ·rw[if_pos c]
  unfold Ck
  simp only[Q4u]
  by_cases c2:CA x s.2 (DF s.2 (Et p.start p.segs i) (sgA p.segs i).to mv)>0
  ·rw[if_pos c2];simp only[Q4u];exact⟨trivial,trivial⟩
  ·rw[if_neg c2];exact⟨rfl,rfl⟩
 ·rw[if_neg c];exact⟨rfl,rfl⟩
end Go.Bm
/- tracks: the EQ of the pieces of a way -/
set_option maxRecDepth 100000
namespace Go.Bm
open Classical

def EQ (x:Ax3) (mv:Int) (Q:Int->Pt->Prop):Int->Int->Pt->List Pce->Prop
 |_,_,_,[]=>True
 |at_,s,d,c::l=>c.at_=at_/\c.s=s/\1<=c.units/\((c.move=mv/\c.was=c.dirs/\CA x d c.dirs=0/\∀k,0<=k->k<c.units->Q (s+mv*k) c.dirs)\/(c.move=0/\c.was=d/\c.units=CA x d c.dirs))/\EQ x mv Q (at_+c.units) (s+c.move*c.units) c.dirs l
def D8:Int->List Pce->Int
 |a,[]=>a
 |a,c::l=>D8 (a+c.units) l
def GB:Int->List Pce->Int
 |s,[]=>s
 |s,c::l=>GB (s+c.move*c.units) l
def H4:Pt->List Pce->Pt
 |d,[]=>d
 |_,c::l=>H4 c.dirs l
theorem Rq (c:Pce):∀(a:Int) (l:List Pce),D8 a (l++[c])=D8 a l+c.units
 |_,[]=>rfl
 |_,k::l=>Rq c _ l
theorem QT (c:Pce):∀(s:Int) (l:List Pce),GB s (l++[c])=GB s l+c.move*c.units
 |_,[]=>rfl
 |_,k::l=>QT c _ l
theorem Rh (c:Pce):∀(d:Pt) (l:List Pce),H4 d (l++[c])=c.dirs
 |_,[]=>rfl
 |_,k::l=>Rh c _ l
theorem Sw {x:Ax3} {mv:Int} {Q:Int->Pt->Prop} {c:Pce}:∀{at_ s:Int} {d:Pt} {l:List Pce},
  EQ x mv Q at_ s d (l++[c])↔EQ x mv Q at_ s d l/\c.at_=D8 at_ l/\c.s=GB s l/\1<=c.units/\((c.move=mv/\c.was=c.dirs/\CA x (H4 d l) c.dirs=0/\∀k,0<=k->k<c.units->Q (GB s l+mv*k) c.dirs)\/(c.move=0/\c.was=H4 d l/\c.units=CA x (H4 d l) c.dirs))
 |at_,s,d,[]=>by
  simp only[List.nil_append,EQ,D8,GB,H4,and_true,true_and]
 |at_,s,d,k::l=>by
  simp only[List.cons_append,EQ,D8,GB,H4]
  rw[Sw]
  constructor
  ·rintro⟨h1,h2,h4,h5,h6,h7⟩;exact⟨⟨h1,h2,h4,h5,h6⟩,h7⟩
  ·rintro⟨⟨h1,h2,h4,h5,h6⟩,h7⟩;exact⟨h1,h2,h4,h5,h6,h7⟩
theorem Zad {l:List Pce} (h:l≠[]) (v:Pce):l.set (l.length-1) v=l.dropLast++[v]:=by
 have e:=List.dropLast_concat_getLast h
 have hl:l.length-1=l.dropLast.length:=by rw[List.length_dropLast]
 conv=>lhs;arg 1;rw[<-e]
 rw[hl,List.set_append_right _ _ (Nat.le_refl _),Nat.sub_self]
 rfl
theorem Zls {l:List Pce} (h:l≠[]):l.dropLast++[A_ l]=l:=by
 have e:=List.dropLast_concat_getLast h
 have hp:0<l.length:=by
  cases l with
  |nil=>exact absurd rfl h
  |cons _ _=>simp
 have hlt:l.length-1<l.length:=by omega
 have hl:A_ l=l.getLast h:=by
  unfold A_
  rw[List.getD_eq_getElem?_getD,List.getElem?_eq_getElem hlt,Option.getD_some,List.getLast_eq_getElem]
 rw[hl];exact e
structure TC (x : Ax3) (mv : Int) (Q : Int -> Pt -> Prop) (t : Trk) (s : Int) (d : Pt) : Prop where
 ch:EQ x mv Q 0 t.start t.dirs t.pieces
 len:D8 0 t.pieces=t.length
 s:GB t.start t.pieces=s
 d:H4 t.dirs t.pieces=d
theorem Qir {x:Ax3} {mv:Int} {Q:Int->Pt->Prop} {t:Trk} {s:Int} {d:Pt} (hm:mv≠0) (h:TC x mv Q t s d) {c:Pce} (hs:c.s=s) (hu:1<=c.units)
  (hc:(c.move=mv/\c.was=c.dirs/\CA x d c.dirs=0/\∀k,0<=k->k<c.units->Q (s+mv*k) c.dirs)\/(c.move=0/\c.was=d/\c.units=CA x d c.dirs)):TC x mv Q (Fm t c) (s+c.move*c.units) c.dirs:=by
 obtain⟨h1,h2,h3,h4⟩:=h
 unfold Fm
 by_cases g:t.pieces≠[]/\c.move≠0/\(A_ t.pieces).move=c.move/\(A_ t.pieces).dirs=c.dirs
 ·rw[if_pos g]
  obtain⟨g1,g2,g3,g4⟩:=g
  have e:=Zls g1
  rw[Zad g1]
  rw[<-e]at h1 h2 h3 h4
  rw[Sw]at h1
  rw[Rq]at h2
  rw[QT]at h3
  rw[Rh]at h4
  generalize t.pieces.dropLast=I at*
  generalize A_ t.pieces=L at*
  obtain⟨k0,k1,k2,k4,k5⟩:=h1
  replace hc:=hc.resolve_right fun h=>g2 h.1
  replace k5:=k5.resolve_right fun h=>g2 (g3▸h.1)
  obtain⟨c1,c2,-,c3⟩:=hc
  obtain⟨q1,q2,q4,q3⟩:=k5
  refine⟨?_,?_,?_,?_⟩
  ·show EQ x mv Q 0 t.start t.dirs (I++[_])
   rw[Sw]
   refine⟨k0,k1,k2,by simp only;omega, .inl ⟨q1,q2,q4,?_⟩⟩
   intro k hk0 hk1
   simp only at hk1
   by_cases hlt:k<L.units
   ·exact q3 k hk0 hlt
   ·have:=c3 (k-L.units) (by omega) (by omega)
    rw[<-h3,q1,<-g4]at this
    have ea:GB t.start I+mv*L.units+mv*(k-L.units)=GB t.start I+mv*k:=by rw[Int.mul_sub];omega
    rw[ea]at this;exact this
  ·show D8 0 (I++[_])=t.length+c.units
   rw[Rq];simp only;omega
  ·show GB t.start (I++[_])=s+c.move*c.units
   rw[QT]
   simp only
   rw[g3]at h3⊢
   rw[Int.mul_add];omega
  ·show H4 t.dirs (I++[_])=c.dirs
   rw[Rh];exact g4
 ·rw[if_neg g]
  refine⟨?_,?_,?_,?_⟩
  ·show EQ x mv Q 0 t.start t.dirs (t.pieces++[_])
   rw[Sw]
   refine⟨h1,h2.symm,by rw[h3];exact hs,hu,?_⟩
   rw[h3,h4];exact hc
  ·show D8 0 (t.pieces++[_])=t.length+c.units
   rw[Rq,h2]
  ·show GB t.start (t.pieces++[_])=s+c.move*c.units
   rw[QT,h3]
  ·show H4 t.dirs (t.pieces++[_])=c.dirs
   rw[Rh]
theorem Zwa (x:Ax3) (d:Pt):CA x d d=0:=by unfold CA slk;simp
theorem Q4e {x:Ax3} {mv:Int} {Q:Int->Pt->Prop} {t:Trk} {s units:Int} {d a b:Pt} (hm:mv≠0) (hx:∀w d,0<=CA x w d) (h:TC x mv Q t s d) (hu:1<=units) (hQ:∀k,0<=k->k<units->Q (s+mv*k) (DF d a b mv)):
  TC x mv Q (Ck x mv a b s units (t,d)).1 (s+mv*units) (DF d a b mv):=by
 unfold Ck
 simp only
 generalize DF d a b mv=nx at*
 by_cases c:CA x d nx>0
 ·rw[if_pos c]
  have h1:=Qir hm h (c:=⟨0,CA x d nx,s,0,d,nx⟩) rfl (by simp only;omega) (.inr ⟨rfl,rfl,rfl⟩)
  simp only[Int.zero_mul,Int.add_zero]at h1
  exact Qir hm h1 (c:=⟨0,units,s,mv,nx,nx⟩) rfl hu (.inl ⟨rfl,rfl,Zwa x nx,hQ⟩)
 ·rw[if_neg c]
  have:=hx d nx
  exact Qir hm h (c:=⟨0,units,s,mv,nx,nx⟩) rfl hu (.inl ⟨rfl,rfl,by simp only;omega,hQ⟩)
def Je (l:List Sgm) (mv lo hi:Int) (j:Nat):Int:=if mv<0 then min (max (Az l (l.length-j)) lo) hi else min (max (Az l j) lo) hi
def Q55 (p:Pth) (mv:Int) (Q:Int->Pt->Prop):Prop:=∀i,i<p.segs.length->∀(d:Pt) (s:Int),Az p.segs i<=s->s<=Az p.segs (i+1)->Az p.segs i<=s+mv->s+mv<=Az p.segs (i+1)->Q s (DF d (Et p.start p.segs i) (sgA p.segs i).to mv)
theorem Qyq {p:Pth} {x:Ax3} {mv lo hi f:Int} {d:Pt} {Q:Int->Pt->Prop} (hv:mv=1\/mv= -1) (hx:Ax3OK x) (hp:SegOK p.segs) (hlo:0<=lo/\lo<=hi/\hi<=AR p.segs) (hf:(mv=1/\f=lo)\/(mv= -1/\f=hi)) (hQ:Q55 p mv Q):
  ∀j,j<=p.segs.length->TC x mv Q (Cd p x mv lo hi (⟨[],0,f,d⟩,d) j).1 (Je p.segs mv lo hi j) (Cd p x mv lo hi (⟨[],0,f,d⟩,d) j).2
 |0,_=>by
  have hs:Je p.segs mv lo hi 0=f:=by
   unfold Je
   have:=Qnv p.segs
   rcases hf with⟨rfl,rfl⟩|⟨rfl,rfl⟩
   ·rw[if_neg (by omega),Te];omega
   ·rw[if_pos (by omega),Nat.sub_zero,this];omega
  rw[hs]
  exact⟨trivial,rfl,rfl,rfl⟩
 |j+1,hj=>by
  have ih:=Qyq hv hx hp hlo hf hQ (f:=f) (d:=d) j (by omega)
  have hil:=Qho mv (show j<p.segs.length by omega)
  have hg:=hp.seg _ (Hn hil)
  have hsucc:=Pm hil
  have hq:=hQ _ hil
  rw[Cd]
  unfold HK
  have hcase:(mv=1/\D7 p.segs.length mv j=j)\/(mv= -1/\D7 p.segs.length mv j=p.segs.length-1-j):=by
   unfold D7
   rcases hv with rfl|rfl
   ·exact .inl ⟨rfl,if_neg (by omega)⟩
   ·exact .inr ⟨rfl,if_pos (by omega)⟩
  have hway:Je p.segs mv lo hi j=(if mv<0 then min (max (Az p.segs (D7 p.segs.length mv j+1)) lo) hi else min (max (Az p.segs (D7 p.segs.length mv j)) lo) hi)/\
    Je p.segs mv lo hi (j+1)=(if mv<0 then min (max (Az p.segs (D7 p.segs.length mv j)) lo) hi else min (max (Az p.segs (D7 p.segs.length mv j+1)) lo) hi):=by
   unfold Je
   rcases hcase with⟨rfl,e⟩|⟨rfl,e⟩
   ·rw[e,if_neg (by omega),if_neg (by omega),if_neg (by omega),if_neg (by omega)];exact⟨rfl,rfl⟩
   ·rw[e,if_pos (by omega),if_pos (by omega),if_pos (by omega),if_pos (by omega),show p.segs.length-1-j+1=p.segs.length-j by omega,show p.segs.length-(j+1)=p.segs.length-1-j by omega];exact⟨rfl,rfl⟩
  rw[hway.1]at ih
  rw[hway.2]
  generalize D7 p.segs.length mv j=i at*
  generalize Cd p x mv lo hi (⟨[],0,f,d⟩,d) j=w at*
  obtain⟨t,dn⟩:=w
  simp only at ih⊢
  by_cases c:max (Az p.segs i) lo<min (Az p.segs (i+1)) hi
  ·rw[if_pos c]
   rcases hcase with⟨rfl,-⟩|⟨rfl,-⟩
   ·rw[if_neg (by omega)]at ih⊢
    rw[if_neg (by omega)]
    have e1:min (max (Az p.segs i) lo) hi=max (Az p.segs i) lo:=by omega
    rw[e1]at ih
    have:=Q4e (a:=Et p.start p.segs i) (b:=(sgA p.segs i).to) (units:=min (Az p.segs (i+1)) hi-max (Az p.segs i) lo) (by omega) (fun w d=>(QV hx w d).1) ih (by omega) (fun k h0 h1=>hq dn _ (by omega) (by omega) (by omega) (by omega))
    have e2:max (Az p.segs i) lo+1*(min (Az p.segs (i+1)) hi-max (Az p.segs i) lo)=min (max (Az p.segs (i+1)) lo) hi:=by omega
    rw[e2]at this;exact this
   ·rw[if_pos (by omega)]at ih⊢
    rw[if_pos (by omega)]
    have e1:min (max (Az p.segs (i+1)) lo) hi=min (Az p.segs (i+1)) hi:=by omega
    rw[e1]at ih
    have:=Q4e (a:=Et p.start p.segs i) (b:=(sgA p.segs i).to) (units:=min (Az p.segs (i+1)) hi-max (Az p.segs i) lo) (by omega) (fun w d=>(QV hx w d).1) ih (by omega) (fun k h0 h1=>hq dn _ (by omega) (by omega) (by omega) (by omega))
    have e2:min (Az p.segs (i+1)) hi+ -1*(min (Az p.segs (i+1)) hi-max (Az p.segs i) lo)=min (max (Az p.segs i) lo) hi:=by omega
    rw[e2]at this;exact this
  ·rw[if_neg c]
   have e:(if mv<0 then min (max (Az p.segs (i+1)) lo) hi else min (max (Az p.segs i) lo) hi)=(if mv<0 then min (max (Az p.segs i) lo) hi else min (max (Az p.segs (i+1)) lo) hi):=by
    split<;>omega
   rw[<-e];exact ih
end Go.Bm
/- tracks: the functions that add a piece, turn the directions and find the greatest backlash -/
set_option maxRecDepth 100000
namespace Go.Bm
open Classical

theorem Zy3 {l:List Pce} (h:l≠[]):nth [] (l.map AM) (l.length-1)=AM (A_ l):=by
 have hp:0<l.length:=by cases l with
  |nil=>exact absurd rfl h
  |cons _ _=>simp
 unfold A_
 have hlt:l.length-1<l.length:=by omega
 rw[Ik _ _ _ _ hlt,List.getD_eq_getElem?_getD,List.getElem?_eq_getElem hlt,Option.getD_some]
theorem Qp3 {a b:Pt}:a=b↔a.x=b.x/\a.y=b.y/\a.z=b.z:=Dz
theorem Q81 {t:Trk} {c:Pce} {n m k:Int} (h:TB t n m) (hn:n<=10000000) (hm:m<=1000000000000000000) (hk:k<=1000000000000000000) (hc:0<=c.units/\c.units<=k):
  Zy [.view Aq (t.pieces.map AM),I c.at_,I c.units,I c.s,I c.move,I c.was.x,I c.was.y,I c.was.z,I c.dirs.x,I c.dirs.y,I c.dirs.z,I t.length,I t.start,I t.dirs.x,I t.dirs.y,I t.dirs.z]=some (Bh (Fm t c)):=by
 obtain⟨h1,h2,h3⟩:=h
 have hw:IntKind.i64.wrap (t.length+c.units)=t.length+c.units:=Ae (by omega)
 have hble:((t.pieces.map AM++[[I t.length,I c.units,I c.s,I c.move,I c.was.x,I c.was.y,I c.was.z,I c.dirs.x,I c.dirs.y,I c.dirs.z]]).length*80).ble 140737488355328=true:=by
  rw[Nat.ble_eq,List.length_append,List.length_map];simp only[List.length_cons,List.length_nil];omega
 have hble':(t.pieces.map AM++[[I t.length,I c.units,I c.s,I c.move,I c.was.x,I c.was.y,I c.was.z,I c.dirs.x,I c.dirs.y,I c.dirs.z]]).length*80<=140737488355328:=Nat.le_of_ble_eq_true hble
 have happ:some [AC.view Aq (t.pieces.map AM++[[I t.length,I c.units,I c.s,I c.move,I c.was.x,I c.was.y,I c.was.z,I c.dirs.x,I c.dirs.y,I c.dirs.z]]),I (t.length+c.units),I t.start,I t.dirs.x,I t.dirs.y,I t.dirs.z]=
   some (Bh {t with pieces:=t.pieces++[{c with at_:=t.length}],length:=t.length+c.units}):=by
  simp only[Bh,List.map_append,List.map_cons,List.map_nil]
 by_cases c1:t.pieces=[]
 ·have hg: ¬(t.pieces≠[]/\c.move≠0/\(A_ t.pieces).move=c.move/\(A_ t.pieces).dirs=c.dirs):=fun g=>g.1 c1
  unfold Fm
  rw[if_neg hg,<-happ]
  rw[Q2b,List.length_map,AW (by rw[c1];simp),Bz hble,hw]
 ·have hp:0<t.pieces.length:=by
   cases hh:t.pieces with
   |nil=>exact absurd hh c1
   |cons _ _=>simp
  have e1:IntKind.i64.wrap ((t.pieces.length:Int)-1)=((t.pieces.length-1:Nat):Int):=by rw[Ae (by omega)];omega
  have hin:(0:Int)<=((t.pieces.length-1:Nat):Int)/\((t.pieces.length-1:Nat):Int)<(t.pieces.length:Int):=by omega
  have hl:=h3 _ (Qst c1)
  have hw2:IntKind.i64.wrap ((A_ t.pieces).units+c.units)=(A_ t.pieces).units+c.units:=Ae (by omega)
  have hset:some [AC.view Aq ((t.pieces.map AM).set (t.pieces.length-1) [I (A_ t.pieces).at_,I ((A_ t.pieces).units+c.units),I (A_ t.pieces).s,I (A_ t.pieces).move,I (A_ t.pieces).was.x,I (A_ t.pieces).was.y,I (A_ t.pieces).was.z,I (A_ t.pieces).dirs.x,I (A_ t.pieces).dirs.y,I (A_ t.pieces).dirs.z]),I (t.length+c.units),I t.start,I t.dirs.x,I t.dirs.y,I t.dirs.z]=
   some (Bh {t with pieces:=t.pieces.set (t.pieces.length-1) {A_ t.pieces with units:=(A_ t.pieces).units+c.units},length:=t.length+c.units}):=by
   simp only[Bh,List.map_set]
  have hr:=Zy3 c1
  have main : ∀ R, R = (if c.move ≠ 0 then if (A_ t.pieces).move = c.move then if (A_ t.pieces).dirs.x = c.dirs.x /\ (A_ t.pieces).dirs.y = c.dirs.y /\ (A_ t.pieces).dirs.z = c.dirs.z then
    some (Bh {t with pieces:=t.pieces.set (t.pieces.length-1) {A_ t.pieces with units:=(A_ t.pieces).units+c.units},length:=t.length+c.units})
    else some (Bh {t with pieces:=t.pieces++[{c with at_:=t.length}],length:=t.length+c.units})else some (Bh {t with pieces:=t.pieces++[{c with at_:=t.length}],length:=t.length+c.units})else some (Bh {t with pieces:=t.pieces++[{c with at_:=t.length}],length:=t.length+c.units}))->R=some (Bh (Fm t c)):=by
   intro R hR
   rw[hR]
   unfold Fm
   by_cases g1:c.move≠0
   ·by_cases g2:(A_ t.pieces).move=c.move
    ·by_cases g3:(A_ t.pieces).dirs.x=c.dirs.x/\(A_ t.pieces).dirs.y=c.dirs.y/\(A_ t.pieces).dirs.z=c.dirs.z
     ·rw[if_pos g1,if_pos g2,if_pos g3,if_pos ⟨c1,g1,g2,Qp3.2 g3⟩]
     ·rw[if_pos g1,if_pos g2,if_neg g3,if_neg fun g=>g3 (Qp3.1 g.2.2.2)]
    ·rw[if_pos g1,if_neg g2,if_neg fun g=>g2 g.2.2.1]
   ·rw[if_neg g1,if_neg fun g=>g1 g.2.1]
  refine main _ ?_
  rw[<-happ,<-hset]
  rw[Q2b,List.length_map,e1,Int.toNat_natCast,hr]
  simp only[go_sem,hw,hw2,if_pos hin,if_pos hble']
  rw[if_pos (by omega)]
  simp only[and_true]
theorem Zuc (x:Ax3) (w d:Pt):Od (AJ x++[I w.x,I w.y,I w.z,I d.x,I d.y,I d.z])=some [I (CA x w d)]:=by
 have he:=Zqi x.a.step x.a.speed x.a.accel x.a.jerk x.a.low x.a.high x.a.back x.a.origin x.a.spacing (x.a.pitch.map At) x.b.step x.b.speed x.b.accel x.b.jerk x.b.low x.b.high x.b.back x.b.origin x.b.spacing (x.b.pitch.map At) x.c.step x.c.speed x.c.accel x.c.jerk x.c.low x.c.high x.c.back x.c.origin x.c.spacing (x.c.pitch.map At) w.x w.y w.z d.x d.y d.z
 unfold Od
 refine Eq.trans he ?_
 unfold CA slk
 simp only[go_sem,LF]
 (repeat' split)<;>first|rfl|(exfalso;omega)
theorem Zt6 (n a b:Pt) {mv:Int} (hm:mv=1\/mv= -1):Mk [I n.x,I n.y,I n.z,I a.x,I a.y,I a.z,I b.x,I b.y,I b.z,I mv]=some (ptR (DF n a b mv)):=by
 unfold Mk
 rw[Zju]
 have e:IntKind.i64.wrap (0-mv)= -mv:=by rw[Ae (by omega)];omega
 unfold DF Rg
 simp only[go_sem,e]
 (repeat' split)<;>first|rfl|(exfalso;omega)
theorem Xb {n hi:Int}:EM [I n,I hi]=some [I (BX n hi)]:=by
 unfold EM
 rw[Zo5]
 simp only[Jg,LF]
 rfl
theorem Z0w {MU MT MA:Fn} {x:Ax3} {mv:Int} {a b:Pt} {s units:Int} {t:Trk} {now:Pt} {n m k:Int} (hx:Ax3OK x) (h:TB t n m) (hn:n<=9000000) (hm:m<=900000000000000000) (hk:k<=900000000000000000) (hu:0<=units/\units<=k)
  (hT:MT [I now.x,I now.y,I now.z,I a.x,I a.y,I a.z,I b.x,I b.y,I b.z,I mv]=some (ptR (DF now a b mv))) (hU:∀w d:Pt,MU (AJ x++[I w.x,I w.y,I w.z,I d.x,I d.y,I d.z])=some [I (CA x w d)])
  (hA : ∀ {t : Trk} {c : Pce} {n m k : Int}, TB t n m -> n <= 10000000 -> m <= 1000000000000000000 -> k <= 1000000000000000000 -> (0 <= c.units /\ c.units <= k) ->
   MA [.view Aq (t.pieces.map AM),I c.at_,I c.units,I c.s,I c.move,I c.was.x,I c.was.y,I c.was.z,I c.dirs.x,I c.dirs.y,I c.dirs.z,I t.length,I t.start,I t.dirs.x,I t.dirs.y,I t.dirs.z]=some (Bh (Fm t c))):
  Qb4 MU MT MA (.view Aq (t.pieces.map AM)::I a.x::I a.y::I a.z::I b.x::I b.y::I b.z::I s::I units::I now.x::I now.y::I now.z::I mv::(AJ x++[I t.length,I t.start,I t.dirs.x,I t.dirs.y,I t.dirs.z]))=
   some (.view Aq ((Ck x mv a b s units (t, now)).1.pieces.map AM) :: I (Ck x mv a b s units (t, now)).2.x :: I (Ck x mv a b s units (t, now)).2.y :: I (Ck x mv a b s units (t, now)).2.z :: I mv :: (AJ x ++
    [I (Ck x mv a b s units (t,now)).1.length,I (Ck x mv a b s units (t,now)).1.start,I (Ck x mv a b s units (t,now)).1.dirs.x,I (Ck x mv a b s units (t,now)).1.dirs.y,I (Ck x mv a b s units (t,now)).1.dirs.z])):=by
 have he:=Zg6 MU MT MA (t.pieces.map AM) a.x a.y a.z b.x b.y b.z s units now.x now.y now.z mv x.a.step x.a.speed x.a.accel x.a.jerk x.a.low x.a.high x.a.back x.a.origin x.a.spacing (x.a.pitch.map At) x.b.step x.b.speed x.b.accel x.b.jerk x.b.low x.b.high x.b.back x.b.origin x.b.spacing (x.b.pitch.map At) x.c.step x.c.speed x.c.accel x.c.jerk x.c.low x.c.high x.c.back x.c.origin x.c.spacing (x.c.pitch.map At) t.length t.start t.dirs.x t.dirs.y t.dirs.z
 refine Eq.trans he ?_
 have hs:=QV hx now (DF now a b mv)
 have hU':=hU now (DF now a b mv)
 simp only[AJ,List.cons_append,List.nil_append]at hU'⊢
 unfold Ck
 simp only
 generalize DF now a b mv=nx at*
 simp only[hT,go_sem,hU']
 by_cases c:CA x now nx>0
 ·have h1:=hA (c:=⟨0,CA x now nx,s,0,now,nx⟩) h (by omega) (by omega) (k:=1000) (by omega) (by simp only;omega)
  have hb:=Qko (k:=1000) h (c:=⟨0,CA x now nx,s,0,now,nx⟩) (by simp only;omega)
  have h2:=hA (c:=⟨0,units,s,mv,nx,nx⟩) hb (by omega) (by omega) (k:=k) (by omega) hu
  simp only at h1 h2
  rw[if_pos c,if_pos c]
  simp only[h1,Bh,go_sem,h2]
 ·have h2:=hA (c:=⟨0,units,s,mv,nx,nx⟩) h (by omega) (by omega) (k:=k) (by omega) hu
  simp only at h2
  rw[if_neg c,if_neg c]
  simp only[h2,Bh,go_sem]
theorem Zhw {x:Ax3} {mv:Int} {a b:Pt} {s units:Int} {t:Trk} {now:Pt} {n m k:Int} (hv:mv=1\/mv= -1) (hx:Ax3OK x) (h:TB t n m) (hn:n<=9000000) (hm:m<=900000000000000000) (hk:k<=900000000000000000) (hu:0<=units/\units<=k):
  E8 (.view Aq (t.pieces.map AM)::I a.x::I a.y::I a.z::I b.x::I b.y::I b.z::I s::I units::I now.x::I now.y::I now.z::I mv::(AJ x++[I t.length,I t.start,I t.dirs.x,I t.dirs.y,I t.dirs.z]))=
   some (.view Aq ((Ck x mv a b s units (t, now)).1.pieces.map AM) :: I (Ck x mv a b s units (t, now)).2.x :: I (Ck x mv a b s units (t, now)).2.y :: I (Ck x mv a b s units (t, now)).2.z :: I mv :: (AJ x ++
    [I (Ck x mv a b s units (t,now)).1.length,I (Ck x mv a b s units (t,now)).1.start,I (Ck x mv a b s units (t,now)).1.dirs.x,I (Ck x mv a b s units (t,now)).1.dirs.y,I (Ck x mv a b s units (t,now)).1.dirs.z])):=
 Z0w hx h hn hm hk hu (Zt6 now a b hv) (Zuc x) fun h1 h2 h3 h4 h5=>Q81 h1 h2 h3 h4 h5
end Go.Bm
/- tracks: the loops over the segments, by the reference and by the program -/
set_option maxRecDepth 100000
namespace Go.Bm
open Classical

end Go.Bm
/- tracks: the way between two positions, by the reference and by the program -/
set_option maxRecDepth 100000
namespace Go.Bm
open Classical

def EL (l:List Sgm) (j:Nat):Rw:=(List.range j).map fun i=>[I (Az l i)]
theorem Qp (l:List Sgm) (j:Nat):(EL l j).length=j:=by simp[EL]
theorem Zjz (l:List Sgm) (j:Nat):EL l (j+1)=EL l j++[[I (Az l j)]]:=by unfold EL;rw[List.range_succ,List.map_append];rfl
theorem Zmd {l:List Sgm} {n i:Nat} (h:i<n):nth [] (EL l n) i=[I (Az l i)]:=by
 have hlt:i<(EL l n).length:=by rw[Qp];exact h
 rw[Iu [] _ i hlt]
 simp[EL]
abbrev Pd (p:Pth) (x:Ax3) (lo hi mv:Int) (t:Trk) (now:Pt) (at_:Int) (bl:Rw) (j:Nat):List AC:=
 [.view Aa bl, .view Aq (t.pieces.map AM),I lo,I hi,I mv,I at_, .view Ah (p.segs.map Ay),I p.segs.length,I j,I p.start.x,I p.start.y,I p.start.z, .view Ah (p.segs.map Ay), .view AB (p.marks.map As),I now.x,I now.y,I now.z,I mv,I x.a.step,I x.a.speed,I x.a.accel,I x.a.jerk,I x.a.low,I x.a.high,I x.a.back,I x.a.origin,I x.a.spacing, .view Aa (x.a.pitch.map At),I x.b.step,I x.b.speed,I x.b.accel,I x.b.jerk,I x.b.low,I x.b.high,I x.b.back,I x.b.origin,I x.b.spacing, .view Aa (x.b.pitch.map At),I x.c.step,I x.c.speed,I x.c.accel,I x.c.jerk,I x.c.low,I x.c.high,I x.c.back,I x.c.origin,I x.c.spacing, .view Aa (x.c.pitch.map At),I t.length,I t.start,I t.dirs.x,I t.dirs.y,I t.dirs.z]
theorem Qwj {M:Fn} {p:Pth} {x:Ax3} {lo hi mv:Int} {t:Trk} {now:Pt} (h:SegOK p.segs):∀(k j:Nat),j+k=p.segs.length->
  An (SR M) (Pd p x lo hi mv t now (Az p.segs j) (EL p.segs j) j)=some (1,[.view Aa (EL p.segs p.segs.length), .view Aq (t.pieces.map AM),I lo,I hi,I mv,I p.start.x,I p.start.y,I p.start.z, .view Ah (p.segs.map Ay), .view AB (p.marks.map As),I now.x,I now.y,I now.z,I mv,I x.a.step,I x.a.speed,I x.a.accel,I x.a.jerk,I x.a.low,I x.a.high,I x.a.back,I x.a.origin,I x.a.spacing, .view Aa (x.a.pitch.map At),I x.b.step,I x.b.speed,I x.b.accel,I x.b.jerk,I x.b.low,I x.b.high,I x.b.back,I x.b.origin,I x.b.spacing, .view Aa (x.b.pitch.map At),I x.c.step,I x.c.speed,I x.c.accel,I x.c.jerk,I x.c.low,I x.c.high,I x.c.back,I x.c.origin,I x.c.spacing, .view Aa (x.c.pitch.map At),I t.length,I t.start,I t.dirs.x,I t.dirs.y,I t.dirs.z])
 |0,j,hj=>by
  have hj':j=p.segs.length:=by omega
  refine A7 (o:=(1,_)) ?_ (by simp)
  rw[Qqz,AW (by omega),hj']
 |k+1,j,hj=>by
  have hlt:j<p.segs.length:=by omega
  have hcnt:=h.count
  have hpos:=Qbr h j (by omega)
  have hg:=h.seg _ (Hn hlt)
  have hst:SR M (Pd p x lo hi mv t now (Az p.segs j) (EL p.segs j) j)=some (0,Pd p x lo hi mv t now (Az p.segs (j+1)) (EL p.segs (j+1)) (j+1)):=by
   have hle:(EL p.segs j++[[I (Az p.segs j)]]).length*8<=140737488355328:=by rw[List.length_append,Qp];simp only[List.length_cons,List.length_nil];omega
   have e1:IntKind.i64.wrap ((j:Int)+1)=((j+1:Nat):Int):=by rw[Ae (by omega)];omega
   rw[Qqz]
   simp only[go_sem,List.length_map,Int.toNat_natCast,Kw hlt,if_pos hle,e1,Zjz]
   rw[if_pos (by omega),if_pos (by omega),Ae (x:=Az p.segs j+(sgA p.segs j).len) (by omega),Pm hlt]
  rw[Bt hst]
  exact Qwj h k (j+1) (by omega)
abbrev OH (p:Pth) (x:Ax3) (lo hi mv:Int) (t:Trk) (now:Pt) (j:Nat):List AC:=
 [.view Aa (EL p.segs p.segs.length), .view Aq (t.pieces.map AM),I lo,I hi,I mv,I p.segs.length,I j,I p.start.x,I p.start.y,I p.start.z, .view Ah (p.segs.map Ay), .view AB (p.marks.map As),I now.x,I now.y,I now.z,I mv,I x.a.step,I x.a.speed,I x.a.accel,I x.a.jerk,I x.a.low,I x.a.high,I x.a.back,I x.a.origin,I x.a.spacing, .view Aa (x.a.pitch.map At),I x.b.step,I x.b.speed,I x.b.accel,I x.b.jerk,I x.b.low,I x.b.high,I x.b.back,I x.b.origin,I x.b.spacing, .view Aa (x.b.pitch.map At),I x.c.step,I x.c.speed,I x.c.accel,I x.c.jerk,I x.c.low,I x.c.high,I x.c.back,I x.c.origin,I x.c.spacing, .view Aa (x.c.pitch.map At),I t.length,I t.start,I t.dirs.x,I t.dirs.y,I t.dirs.z]
abbrev FT (x:Ax3) (mv:Int) (t:Trk) (now:Pt):List AC:=[.view Aq (t.pieces.map AM),I now.x,I now.y,I now.z,I mv,I x.a.step,I x.a.speed,I x.a.accel,I x.a.jerk,I x.a.low,I x.a.high,I x.a.back,I x.a.origin,I x.a.spacing, .view Aa (x.a.pitch.map At),I x.b.step,I x.b.speed,I x.b.accel,I x.b.jerk,I x.b.low,I x.b.high,I x.b.back,I x.b.origin,I x.b.spacing, .view Aa (x.b.pitch.map At),I x.c.step,I x.c.speed,I x.c.accel,I x.c.jerk,I x.c.low,I x.c.high,I x.c.back,I x.c.origin,I x.c.spacing, .view Aa (x.c.pitch.map At),I t.length,I t.start,I t.dirs.x,I t.dirs.y,I t.dirs.z]
theorem Zbk {MV:Fn} {N:Lp} {p:Pth} {x:Ax3} {lo hi mv:Int} {t:Trk} {now:Pt} {n m:Int} {j:Nat} (hv:mv=1\/mv= -1) (hp:GoodPath p) (hx:Ax3OK x) (h:TB t n m) (hn:n<=9000000) (hm:m<=900000000000000000)
  (hj:j<p.segs.length)
  (hV:∀{a b:Pt} {s units:Int},(0<=units/\units<=268435456)->MV [.view Aq (t.pieces.map AM),I a.x,I a.y,I a.z,I b.x,I b.y,I b.z,I s,I units,I now.x,I now.y,I now.z,I mv,I x.a.step,I x.a.speed,I x.a.accel,I x.a.jerk,I x.a.low,I x.a.high,I x.a.back,I x.a.origin,I x.a.spacing, .view Aa (x.a.pitch.map At),I x.b.step,I x.b.speed,I x.b.accel,I x.b.jerk,I x.b.low,I x.b.high,I x.b.back,I x.b.origin,I x.b.spacing, .view Aa (x.b.pitch.map At),I x.c.step,I x.c.speed,I x.c.accel,I x.c.jerk,I x.c.low,I x.c.high,I x.c.back,I x.c.origin,I x.c.spacing, .view Aa (x.c.pitch.map At),I t.length,I t.start,I t.dirs.x,I t.dirs.y,I t.dirs.z]=some (FT x mv (Ck x mv a b s units (t,now)).1 (Ck x mv a b s units (t,now)).2)):
  Sl MV N (OH p x lo hi mv t now j)=some (0,OH p x lo hi mv (HK p x mv lo hi (D7 p.segs.length mv j) (t,now)).1 (HK p x mv lo hi (D7 p.segs.length mv j) (t,now)).2 (j+1)):=by
 have hok:=hp.ok
 have hcnt:=hok.count
 have hil0:=Qho mv hj
 have hcase:(mv=1/\D7 p.segs.length mv j=j)\/(mv= -1/\D7 p.segs.length mv j=p.segs.length-1-j):=by
  unfold D7
  rcases hv with rfl|rfl
  ·exact .inl ⟨rfl,if_neg (by omega)⟩
  ·exact .inr ⟨rfl,if_pos (by omega)⟩
 obtain⟨i,hix⟩:∃i,D7 p.segs.length mv j=i:=⟨_,rfl⟩
 rw[hix]at hil0 hcase⊢
 have hil:i<p.segs.length:=hil0
 have hg:=hok.seg _ (Hn hil)
 have hr:=Kw hil
 have hb:=Zmd (l:=p.segs) hil
 have hpos:=Qbr hok i (by omega)
 have hsucc:=Pm hil
 have hin:(0:Int)<=(i:Nat)/\(i:Int)<(p.segs.length:Int):=by omega
 have hin0:(j:Int)<(p.segs.length:Int):=by omega
 have e1:IntKind.i64.wrap ((j:Int)+1)=((j+1:Nat):Int):=by rw[Ae (by omega)];omega
 have hI:IntKind.i64.wrap (IntKind.i64.wrap ((p.segs.length:Int)-1)-(j:Int))=((p.segs.length-1-j:Nat):Int):=by rw[Ae (x:=(p.segs.length:Int)-1) (by omega),Ae (by omega)];omega
 have hw:IntKind.i64.wrap (Az p.segs i+(sgA p.segs i).len)=Az p.segs (i+1):=by rw[hsucc,Ae (by omega)]
 have hwd:max (Az p.segs i) lo<min (Az p.segs (i+1)) hi->IntKind.i64.wrap (min (Az p.segs (i+1)) hi-max (Az p.segs i) lo)=min (Az p.segs (i+1)) hi-max (Az p.segs i) lo:=fun _=>Ae (by omega)
 have hd:max (Az p.segs i) lo<min (Az p.segs (i+1)) hi->0<=min (Az p.segs (i+1)) hi-max (Az p.segs i) lo/\min (Az p.segs (i+1)) hi-max (Az p.segs i) lo<=268435456:=fun _=>by omega
 have hI1:i≠0->IntKind.i64.wrap ((i:Int)-1)=((i-1:Nat):Int)/\((0:Int)<=((i-1:Nat):Int)/\((i-1:Nat):Int)<(p.segs.length:Int))/\nth [] (p.segs.map Ay) (i-1)=Ay (sgA p.segs (i-1))/\Et p.start p.segs i=(sgA p.segs (i-1)).to:=by
  intro h0
  refine⟨by rw[Ae (by omega)];omega,by omega,Kw (by omega),?_⟩
  obtain⟨q,rfl⟩:∃q,i=q+1:=⟨i-1,by omega⟩
  exact Q3 (by omega)
 unfold HK
 rw[Qwx]
 rcases hcase with⟨rfl,rfl⟩|⟨rfl,ei⟩
 ·simp only[go_sem,List.length_map,Qp,Int.toNat_natCast,hr,hb,if_pos hin,if_pos hin0,LF,Jg,hw,e1]
  rw[if_neg (by omega)]
  by_cases c:max (Az p.segs i) lo<min (Az p.segs (i+1)) hi
  ·rw[if_neg (by omega),if_pos c,hwd c]
   by_cases c0:i=0
   ·rw[if_neg (by omega)]
    have hV':=hV (a:=p.start) (b:=(sgA p.segs i).to) (s:=max (Az p.segs i) lo) (hd c)
    subst c0
    rw[Jd]
    rw[if_neg (by omega),hV']
    simp only[FT,go_sem]
    rfl
   ·obtain⟨k1,k2,k3,k4⟩:=hI1 c0
    rw[if_pos (by omega),k1]
    have hV':=hV (a:=(sgA p.segs (i-1)).to) (b:=(sgA p.segs i).to) (s:=max (Az p.segs i) lo) (hd c)
    rw[k4]
    simp only[Int.toNat_natCast,k3,go_sem,if_pos k2]
    rw[if_neg (by omega),hV']
    simp only[FT,go_sem]
    rfl
  ·rw[if_pos (by omega),if_neg c]
 ·rw[<-ei]at hI
  simp only[go_sem,List.length_map,Qp,hI,Int.toNat_natCast,hr,hb,if_pos hin,if_pos hin0,LF,Jg,hw,e1]
  rw[if_pos (by omega)]
  by_cases c:max (Az p.segs i) lo<min (Az p.segs (i+1)) hi
  ·rw[if_neg (by omega),if_pos c,hwd c]
   by_cases c0:i=0
   ·rw[if_neg (by omega)]
    have hV':=hV (a:=p.start) (b:=(sgA p.segs i).to) (s:=min (Az p.segs (i+1)) hi) (hd c)
    subst c0
    rw[Jd]
    rw[if_pos (by omega),hV']
    simp only[FT,go_sem]
    rfl
   ·obtain⟨k1,k2,k3,k4⟩:=hI1 c0
    rw[if_pos (by omega),k1]
    have hV':=hV (a:=(sgA p.segs (i-1)).to) (b:=(sgA p.segs i).to) (s:=min (Az p.segs (i+1)) hi) (hd c)
    rw[k4]
    simp only[Int.toNat_natCast,k3,go_sem,if_pos k2]
    rw[if_pos (by omega),hV']
    simp only[FT,go_sem]
    rfl
  ·rw[if_pos (by omega),if_neg c]
end Go.Bm
/- tracks: the piece of a track position, the path position and the take-ups, by the reference and by the program -/
set_option maxRecDepth 100000
namespace Go.Bm
open Classical

def pcA (l:List Pce) (i:Nat):Pce:=l.getD i pc0
def eI (l:List Pce) (i:Nat):Int:=(pcA l i).at_+(pcA l i).units
def fI:List Pce->Int->Nat
 |[],_=>0
 |c::l,u=>if u<=c.at_+c.units then 0 else fI l u+1
theorem HC (c:Pce) (l:List Pce) (i:Nat):pcA (c::l) (i+1)=pcA l i:=by unfold pcA;simp
theorem J3 (c:Pce) (l:List Pce):pcA (c::l) 0=c:=by unfold pcA;simp
theorem Qs {l:List Pce} {i:Nat} (h:i<l.length):nth [] (l.map AM) i=AM (pcA l i):=by
 have e:pcA l i=l[i]:=by unfold pcA;simp[h]
 rw[e];exact Ik _ _ _ _ h
theorem QZ:∀{l:List Pce} {u:Int} {j:Nat},j<l.length->u<=eI l j->fI l u<=j
 |c::l,u,0,_,h=>by
  unfold eI at h;rw[J3]at h
  unfold fI;rw[if_pos h];exact Nat.le_refl _
 |c::l,u,j+1,hj,h=>by
  unfold fI
  by_cases c0:u<=c.at_+c.units
  ·rw[if_pos c0];omega
  ·rw[if_neg c0]
   have:fI l u<=j:=QZ (by simpa using hj) (by unfold eI at h⊢;rw[HC]at h;exact h)
   omega
theorem Qxz:∀{l:List Pce} {u:Int},fI l u<l.length->u<=eI l (fI l u)
 |[],_,h=>by simp at h
 |c::l,u,h=>by
  unfold fI at h⊢
  by_cases c0:u<=c.at_+c.units
  ·rw[if_pos c0];unfold eI;rw[J3];exact c0
  ·rw[if_neg c0]at h⊢
   have:=Qxz (l:=l) (u:=u) (by simpa using h)
   unfold eI at this⊢;rw[HC];exact this
structure TQ (t : Trk) : Prop where
 count:t.pieces.length<=10000000
 len:0<=t.length/\t.length<=900000000000000
 pos:∀i,i<t.pieces.length->0<=(pcA t.pieces i).at_/\1<=(pcA t.pieces i).units/\eI t.pieces i<=t.length
 mono:∀i j,i<=j->j<t.pieces.length->eI t.pieces i<=eI t.pieces j
 last:t.pieces≠[]->eI t.pieces (t.pieces.length-1)=t.length
 start:0<=t.start/\t.start<=263886834032640
 s:∀i,i<t.pieces.length-> -900000000000000<=(pcA t.pieces i).s/\(pcA t.pieces i).s<=2000000000000000
 move:∀i,i<t.pieces.length->(pcA t.pieces i).move=0\/(pcA t.pieces i).move=1\/(pcA t.pieces i).move= -1
def clT (t:Trk) (u:Int):Int:=BX u t.length
theorem O2 {t:Trk} (h:TQ t) (u:Int):0<=clT t u/\clT t u<=t.length:=by have:=h.len;unfold clT BX;omega
def iT (t:Trk) (u:Int):Nat:=fI t.pieces (clT t u)
theorem Ng {t:Trk} (h:TQ t) (u:Int) (hne:t.pieces≠[]):iT t u<t.pieces.length:=by
 have hp:0<t.pieces.length:=by
  cases hh:t.pieces with
  |nil=>exact absurd hh hne
  |cons _ _=>simp
 have:=QZ (l:=t.pieces) (u:=clT t u) (j:=t.pieces.length-1) (by omega) (by rw[h.last hne];exact(O2 h u).2)
 unfold iT;omega
def Bn (t:Trk) (u:Int):Int:=if t.pieces=[]then t.start else(pcA t.pieces (iT t u)).s+(pcA t.pieces (iT t u)).move*(clT t u-(pcA t.pieces (iT t u)).at_)
theorem Qgc {t:Trk} (h:TQ t) {u:Int} (hi:fI t.pieces u<t.pieces.length):∀(k lo hi:Nat),hi-lo<=k->lo<=fI t.pieces u->fI t.pieces u<=hi->hi<t.pieces.length->
  An Rc [I u,I lo,I hi, .view Aq (t.pieces.map AM),I t.length,I t.start,I t.dirs.x,I t.dirs.y,I t.dirs.z]=some (1,[I (fI t.pieces u)])
 |k,lo,hi,hk,h1,h2,h3=>by
  have hcnt:=h.count
  have hl:=h.len
  by_cases c:lo<hi
  ·have em:IntKind.i64.wrap ((IntKind.i64.wrap ((lo:Int)+hi)).tdiv 2)=(((lo+hi)/2:Nat):Int):=by
    rw[Ae (x:=(lo:Int)+hi) (by omega),Int.tdiv_eq_ediv_of_nonneg (by omega),Ae (by omega)];omega
   have hm1:lo<=(lo+hi)/2/\(lo+hi)/2<hi:=by omega
   generalize(lo+hi)/2=m at*
   have hlt:m<t.pieces.length:=by omega
   have hpos:=h.pos m hlt
   have hin:(0:Int)<=(m:Int)/\(m:Int)<(t.pieces.length:Int):=by omega
   have hw:IntKind.i64.wrap ((pcA t.pieces m).at_+(pcA t.pieces m).units)=eI t.pieces m:=by unfold eI at hpos⊢;exact Ae (by omega)
   have hst:Rc [I u,I lo,I hi, .view Aq (t.pieces.map AM),I t.length,I t.start,I t.dirs.x,I t.dirs.y,I t.dirs.z]=if u<=eI t.pieces m then some (0,[I u,I lo,I m, .view Aq (t.pieces.map AM),I t.length,I t.start,I t.dirs.x,I t.dirs.y,I t.dirs.z])else some (0,[I u,I (m+1:Nat),I hi, .view Aq (t.pieces.map AM),I t.length,I t.start,I t.dirs.x,I t.dirs.y,I t.dirs.z]):=by
    rw[VB,em]
    simp only[go_sem,List.length_map,Int.toNat_natCast,Qs hlt,if_pos hin,hw,Ae (x:=(m:Int)+1) (by omega)]
    rw[if_pos (by omega)]
    rfl
   by_cases c2:u<=eI t.pieces m
   ·rw[if_pos c2]at hst
    rw[Bt hst]
    cases k with
    |zero=>omega
    |succ k=>exact Qgc h (by omega) k lo m (by omega) h1 (QZ hlt c2) hlt
   ·rw[if_neg c2]at hst
    rw[Bt hst]
    have hgt:m<fI t.pieces u:=by
     by_cases c3:fI t.pieces u<=m
     ·exact absurd (Int.le_trans (Qxz (by omega)) (h.mono _ _ c3 hlt)) c2
     ·omega
    cases k with
    |zero=>omega
    |succ k=>exact Qgc h (by omega) k (m+1) hi (by omega) (by omega) h2 h3
  ·refine A7 (o:=(1,_)) ?_ (by simp)
   rw[VB,AW (by omega),show fI t.pieces u=hi by omega]
theorem Qop {t:Trk} (h:TQ t) (u:Int):Ga (Bh t++[I (clT t u)])=some [I (if t.pieces=[]then-1 else(iT t u:Int))]:=by
 have he:=Zs7 KJ (t.pieces.map AM) t.length t.start t.dirs.x t.dirs.y t.dirs.z (clT t u)
 unfold Ga
 refine Eq.trans he ?_
 rw[List.length_map]
 have hcnt:=h.count
 by_cases c:t.pieces=[]
 ·have hl:KJ [I (clT t u),I 0,I (-1), .view Aq (t.pieces.map AM),I t.length,I t.start,I t.dirs.x,I t.dirs.y,I t.dirs.z]=some (1,[I (-1)]):=by
   refine A7 (o:=(1,_)) ?_ (by simp)
   rw[VB,AW (by omega)]
  have e1:IntKind.i64.wrap ((t.pieces.length:Int)-1)= -1:=by rw[c];rfl
  rw[if_pos c,e1]
  generalize KJ=N at*
  simp only[hl,go_sem]
 ·have hp:0<t.pieces.length:=by
   cases hh:t.pieces with
   |nil=>exact absurd hh c
   |cons _ _=>simp
  have hi:=Ng h u c
  have hl:=Qgc h (u:=clT t u) hi t.pieces.length 0 (t.pieces.length-1) (by omega) (by omega) (by unfold iT at hi;omega) (by omega)
  have hl':KJ [I (clT t u),I 0,I (t.pieces.length-1:Nat), .view Aq (t.pieces.map AM),I t.length,I t.start,I t.dirs.x,I t.dirs.y,I t.dirs.z]=some (1,[I (iT t u:Int)]):=hl
  have e1:IntKind.i64.wrap ((t.pieces.length:Int)-1)=((t.pieces.length-1:Nat):Int):=by rw[Ae (by omega)];omega
  rw[if_neg c,e1]
  generalize KJ=N at*
  simp only[hl',go_sem]
theorem Zkr {t:Trk} (h:TQ t) (u:Int) (hne:t.pieces≠[]):
  IntKind.i64.wrap ((pcA t.pieces (iT t u)).s+IntKind.i64.wrap ((pcA t.pieces (iT t u)).move*IntKind.i64.wrap (clT t u-(pcA t.pieces (iT t u)).at_)))=Bn t u:=by
 have hi:=Ng h u hne
 have h1:=h.pos _ hi
 have h2:=h.s _ hi
 have h3:=h.move _ hi
 have h4:=O2 h u
 have h5:=h.len
 unfold Bn eI at*
 rw[if_neg hne,Ae (x:=clT t u-_) (by omega)]
 generalize pcA t.pieces (iT t u)=c at*
 have hb:(-900000000000000<=c.move*(clT t u-c.at_)/\c.move*(clT t u-c.at_)<=900000000000000):=by
  rcases h3 with h3|h3|h3<;>rw[h3]<;>omega
 rw[Ae (x:=c.move*_) (by omega),Ae (by omega)]
theorem Zzv {MF MC:Fn} {t:Trk} (h:TQ t) {u:Int} (hC:MC [I u,I t.length]=some [I (clT t u)]) (hM:MF (Bh t++[I (clT t u)])=some [I (if t.pieces=[]then-1 else(iT t u:Int))]):Qdx MF MC (Bh t++[I u])=some [I (Bn t u)]:=by
 have he:=Zia MF MC (t.pieces.map AM) t.length t.start t.dirs.x t.dirs.y t.dirs.z u
 refine Eq.trans he ?_
 simp only[Bh,List.cons_append,List.nil_append]at hM
 by_cases c:t.pieces=[]
 ·rw[if_pos c]at hM
  simp only[hC,hM,go_sem]
  rw[if_pos (by omega)]
  unfold Bn;rw[if_pos c]
 ·have hi:=Ng h u c
  have hcnt:=h.count
  have hin:(0:Int)<=(iT t u:Int)/\(iT t u:Int)<(t.pieces.length:Int):=by omega
  rw[if_neg c]at hM
  simp only[hC,hM,go_sem,List.length_map,if_pos hin,Int.toNat_natCast,Qs hi,Zkr h u c]
  rw[if_neg (by omega)]
theorem QX {t:Trk} (h:TQ t) (u:Int):Dx (Bh t++[I u])=some [I (Bn t u)]:=Zzv h Xb (Qop h u)
end Go.Bm
/- the axes and directions that the laws' maker makes -/
set_option maxRecDepth 100000
namespace Go.Bm
open Classical

def Hx (sp:Int) (l:List Int):Prop:=(∀v∈l,-4096<=v/\v<=4096)/\∀i,i+1<l.length-> -sp<=4*(l.getD (i+1) 0-l.getD i 0)/\4*(l.getD (i+1) 0-l.getD i 0)<=sp
structure AxOK (a : Axs) : Prop where
 step:4<=a.step/\a.step<=64
 back:0<=a.back/\a.back<=6
 origin: -200<=a.origin/\a.origin<=200
 spacing:a.pitch≠[]->4<=a.spacing/\a.spacing<=123
 pitch:Hx a.spacing a.pitch
 count:a.pitch.length<=4
 lim:1<=a.speed/\a.speed<=1000/\2<=a.accel/\a.accel<=1000/\4<=a.jerk/\a.jerk<=1000/\a.low= -16777216/\a.high=16777216
theorem SZ {l m:List Int} {i:Nat} (h:i<l.length):(l++m).getD i 0=l.getD i 0:=by simp[List.getD_eq_getElem?_getD,List.getElem?_append_left h]
theorem Zvx (l m:List Int) (v:Int):(l++v::m).getD l.length 0=v:=by simp[List.getD_eq_getElem?_getD]
theorem Zcy {sp v w:Int} {l:List Int} (h:Hx sp (l++[v])) (hw: -4096<=w/\w<=4096) (hd: -sp<=4*(w-v)/\4*(w-v)<=sp):Hx sp (l++[v]++[w]):=by
 refine⟨?_,?_⟩
 ·intro x hx
  rcases List.mem_append.1 hx with hx|hx
  ·exact h.1 x hx
  ·rw[List.mem_singleton]at hx;subst hx;exact hw
 ·intro i hi
  simp only[List.length_append,List.length_cons,List.length_nil]at hi
  by_cases c:i+1<(l++[v]).length
  ·have:=h.2 i c
   have c':i<(l++[v]).length:=by omega
   rw[SZ c,SZ c']
   exact this
  ·simp only[List.length_append,List.length_cons,List.length_nil]at c
   have e:i=l.length:=by omega
   subst e
   have g1:(l++[v]++[w]).getD (l.length+1) 0=w:=by
    simp
   have g2:(l++[v]++[w]).getD l.length 0=v:=by
    rw[List.append_assoc];exact Zvx l ([]++[w]) v
   rw[g1,g2];exact hd
theorem Zg3 {sp v:Int} {l:List Int} (h:Hx sp (l++[v])):Hx sp l:=by
 refine⟨fun x hx=>h.1 x (by simp[hx]),fun i hi=> ?_⟩
 have:=h.2 i (by simp;omega)
 rw[SZ hi,SZ (by omega)]at this
 exact this
theorem Zn4 {sp v:Int} (hv: -4096<=v/\v<=4096):Hx sp ([]++[v]):=⟨fun x hx=>by simp at hx;subst hx;exact hv,fun i hi=>by simp at hi⟩

theorem Q7a {v:Int} (h:0<=v/\v<6):∃x,Af (nth .dead (nth [] [[I 8],[I 4],[I 5],[I 16],[I 23],[I 64]] v.toNat) 0)=x/\4<=x/\x<=64:=by
 have hc:v=0\/v=1\/v=2\/v=3\/v=4\/v=5:=by omega
 rcases hc with rfl|rfl|rfl|rfl|rfl|rfl<;>exact⟨_,rfl,by decide⟩
theorem Qf3 {v:Int} (h:0<=v/\v<5):∃x y z,Af (nth .dead (nth [] [[I 40],[I 1],[I 3],[I 9],[I 1000]] v.toNat) 0)=x/\Af (nth .dead (nth [] [[I 20],[I 2],[I 3],[I 5],[I 1000]] v.toNat) 0)=y/\Af (nth .dead (nth [] [[I 30],[I 4],[I 5],[I 8],[I 1000]] v.toNat) 0)=z/\1<=x/\x<=1000/\2<=y/\y<=1000/\4<=z/\z<=1000:=by
 have hc:v=0\/v=1\/v=2\/v=3\/v=4:=by omega
 rcases hc with rfl|rfl|rfl|rfl|rfl<;>exact⟨_,_,_,rfl,rfl,rfl,by decide⟩
theorem Z0h {v:Int} (h:0<=v/\v<4):∃x,Af (nth .dead (nth [] [[I 0],[I 1],[I 3],[I 6]] v.toNat) 0)=x/\0<=x/\x<=6:=by
 have hc:v=0\/v=1\/v=2\/v=3:=by omega
 rcases hc with rfl|rfl|rfl|rfl<;>exact⟨_,rfl,by decide⟩
abbrev axS (l:Rw) (pit:List Int) (n v:Int) (j:Nat) (a:Axs) (k:Nat):List AC:=
 [.view Aa [], .view Aa (pit.map At),I n,I v,I j,I 0,I 0,I 0,I 0,I 0,I 0,I 0,I 0,I 0,I a.step,I a.speed,I a.accel,I a.jerk,I a.low,I a.high,I a.back,I a.origin,I a.spacing, .view Aa l,I k]
theorem Qvl {MN:Fn} {l:Rw} (hN:Gz l MN) {a:Axs} (hsp:4<=a.spacing/\a.spacing<=123):∀(r j:Nat) (pit:List Int) (v:Int) (k:Nat),j+r<=4->pit.length=j->Hx a.spacing (pit++[v])->
  ∃(pit':List Int) (k':Nat),An (S3 MN) (axS l pit (j+r:Nat) v j a k)=some (1,[.view Aa [], .view Aa (pit'.map At),I 0,I 0,I 0,I 0,I 0,I 0,I 0,I 0,I 0,I a.step,I a.speed,I a.accel,I a.jerk,I a.low,I a.high,I a.back,I a.origin,I a.spacing, .view Aa l,I k'])/\pit'.length=j+r/\Hx a.spacing pit'
 |0,j,pit,v,k,_,hl,h=>by
  refine⟨pit,k,A7 (o:=(1,_)) ?_ (by simp),by omega,Zg3 h⟩
  rw[Qp4,AW (by omega)]
 |r+1,j,pit,v,k,hj,hl,h=>by
  have hv:=h.1 v (by simp)
  have e4:IntKind.i64.wrap (a.spacing.tdiv 4)=a.spacing/4:=by rw[Int.tdiv_eq_ediv_of_nonneg (by omega),Ae (by omega)]
  have e5:IntKind.i64.wrap (IntKind.i64.wrap (2*(a.spacing/4))+1)=2*(a.spacing/4)+1:=by rw[Ae (x:=2*(a.spacing/4)) (by omega),Ae (by omega)]
  obtain⟨w,k1,hw,w0,w1,-⟩:=hN k (n:=2*(a.spacing/4)+1) (by omega)
  have e6:IntKind.i64.wrap (IntKind.i64.wrap (v+w)-a.spacing/4)=v+w-a.spacing/4:=by rw[Ae (x:=v+w) (by omega),Ae (by omega)]
  have hle:(pit.map At++[[I v]]).length*8<=140737488355328:=by rw[List.length_append,List.length_map];simp only[List.length_cons,List.length_nil];omega
  have hst:S3 MN (axS l pit (j+(r+1):Nat) v j a k)=some (0,axS l (pit++[v]) (j+1+r:Nat) (min (max (v+w-a.spacing/4) (-4096)) 4096) (j+1) a k1):=by
   rw[Qp4]
   simp only[go_sem,if_pos hle,e4,e5,hw,e6,Jg,LF]
   rw[if_pos (by omega),Ae (x:=(j:Int)+1) (by omega),show j+(r+1)=j+1+r by omega]
   simp only[axS,List.map_append,List.map_cons,List.map_nil,At,Int.natCast_add,Int.cast_ofNat_Int]
  rw[Bt hst]
  obtain⟨p',k',h1,h2,h3⟩:=Qvl hN hsp r (j+1) (pit++[v]) (min (max (v+w-a.spacing/4) (-4096)) 4096) k1 (by omega) (by simp[hl]) (Zcy h (by omega) (by omega))
  exact⟨p',k',h1,by omega,h3⟩
theorem Zh0 {MN:Fn} {N:Lp} {l:Rw} (hN:Gz l MN)
  (hL:∀{a:Axs} {n:Nat} {v:Int} {k:Nat},(4<=a.spacing/\a.spacing<=123)->n<=4->Hx a.spacing ([]++[v])->∃(pit':List Int) (k':Nat),N (axS l [] n v 0 a k)=some (1,[.view Aa [], .view Aa (pit'.map At),I 0,I 0,I 0,I 0,I 0,I 0,I 0,I 0,I 0,I a.step,I a.speed,I a.accel,I a.jerk,I a.low,I a.high,I a.back,I a.origin,I a.spacing, .view Aa l,I k'])/\pit'.length=n/\Hx a.spacing pit') (k:Nat):
  ∃(a:Axs) (k':Nat),Up MN N [.view Aa l,I k]=some (Bd a++[.view Aa l,I k'])/\AxOK a:=by
 obtain⟨v1,k1,h1,a1,b1,-⟩:=hN k (n:=6) (by omega)
 obtain⟨v2,k2,h2,a2,b2,-⟩:=hN k1 (n:=4) (by omega)
 obtain⟨v3,k3,h3,a3,b3,-⟩:=hN k2 (n:=5) (by omega)
 obtain⟨v4,k4,h4,a4,b4,-⟩:=hN k3 (n:=5) (by omega)
 obtain⟨v5,k5,h5,a5,b5,-⟩:=hN k4 (n:=5) (by omega)
 obtain⟨v6,k6,h6,a6,b6,-⟩:=hN k5 (n:=5) (by omega)
 obtain⟨v7,k7,h7,a7,b7,-⟩:=hN k6 (n:=400) (by omega)
 obtain⟨v8,k8,h8,a8,b8,-⟩:=hN k7 (n:=120) (by omega)
 obtain⟨v9,k9,h9,a9,b9,-⟩:=hN k8 (n:=9) (by omega)
 obtain⟨x1,e1,s1⟩:=Q7a ⟨a1,b1⟩
 obtain⟨x2,e2,s2⟩:=Z0h ⟨a2,b2⟩
 have i1:(0:Int)<=v1/\v1<(([[I 8],[I 4],[I 5],[I 16],[I 23],[I 64]]:Rw).length:Int):=⟨a1,by simp;omega⟩
 have i2:(0:Int)<=v2/\v2<(([[I 0],[I 1],[I 3],[I 6]]:Rw).length:Int):=⟨a2,by simp;omega⟩
 have i3:(0:Int)<=v3/\v3<(([[I 40],[I 1],[I 3],[I 9],[I 1000]]:Rw).length:Int):=⟨a3,by simp;omega⟩
 have i4:(0:Int)<=v4/\v4<(([[I 20],[I 2],[I 3],[I 5],[I 1000]]:Rw).length:Int):=⟨a4,by simp;omega⟩
 have i5:(0:Int)<=v5/\v5<(([[I 30],[I 4],[I 5],[I 8],[I 1000]]:Rw).length:Int):=⟨a5,by simp;omega⟩
 obtain⟨x3,_,_,hx3,-,-,s3,t3,-⟩:=Qf3 ⟨a3,b3⟩
 obtain⟨_,x4,_,-,hx4,-,-,-,s4,t4,-⟩:=Qf3 ⟨a4,b4⟩
 obtain⟨_,_,x5,-,-,hx5,-,-,-,-,s5,t5⟩:=Qf3 ⟨a5,b5⟩
 have main : ∀ R, R = (if v6 = 0 then some [I x1, I x3, I x4, I x5, I (-16777216), I 16777216, I x2, I 0, I 0, .view Aa [], .view Aa l, I k6] else
   (N (axS l [] v6.toNat (v9-4) 0 ⟨x1,x3,x4,x5,-16777216,16777216,x2,v7-200,4+v8,[]⟩ k9)).bind fun o=>if o.1=1 then some [I (Af (nth .dead o.2 11)),I (Af (nth .dead o.2 12)),I (Af (nth .dead o.2 13)),I (Af (nth .dead o.2 14)),I (Af (nth .dead o.2 15)),I (Af (nth .dead o.2 16)),I (Af (nth .dead o.2 17)),I (Af (nth .dead o.2 18)),I (Af (nth .dead o.2 19)), .view Aa (Br (nth .dead o.2 1)), .view Aa (Br (nth .dead o.2 20)),I (Af (nth .dead o.2 21))]else none)->
   ∃(a:Axs) (k':Nat),R=some (Bd a++[.view Aa l,I k'])/\AxOK a:=by
  intro R hR
  by_cases c:v6=0
  ·rw[if_pos c]at hR
   refine⟨⟨x1,x3,x4,x5,-16777216,16777216,x2,0,0,[]⟩,k6,hR,?_⟩
   exact⟨s1,s2,by simp,fun h=>absurd rfl h,⟨by simp,by simp⟩,by simp,⟨s3,t3,s4,t4,s5,t5,rfl,rfl⟩⟩
  ·rw[if_neg c]at hR
   obtain⟨pit,k',g1,g2,g3⟩:=hL (a:=⟨x1,x3,x4,x5,-16777216,16777216,x2,v7-200,4+v8,[]⟩) (n:=v6.toNat) (v:=v9-4) (k:=k9) (by simp only;omega) (by omega) (Zn4 (by omega))
   rw[g1]at hR
   refine⟨⟨x1,x3,x4,x5,-16777216,16777216,x2,v7-200,4+v8,pit⟩,k',?_,?_⟩
   ·rw[hR];simp only[go_sem];try rfl
   ·exact⟨s1,s2,by simp only;omega,fun _=>by simp only;omega,g3,by simp only;omega,⟨s3,t3,s4,t4,s5,t5,rfl,rfl⟩⟩
 refine main _ ?_
 rw[Q86]
 simp only[go_sem,h1,h2,h3,h4,h5,h6,if_pos i1,if_pos i2,if_pos i3,if_pos i4,if_pos i5,e1,e2,hx3,hx4,hx5]
 by_cases c:v6=0
 ·rw[if_pos c,if_pos c]
 ·rw[if_neg c,if_neg c]
  simp only[h7,h8,h9,go_sem,Ae (x:=v9-4) (by omega),Ae (x:=v7-200) (by omega),Ae (x:=4+v8) (by omega)]
  have e:((v6.toNat:Nat):Int)=v6:=by omega
  simp only[axS,e,List.map_nil]
  rfl
theorem Qfe {l:Rw} (hl:Src l) (k:Nat):∃(a:Axs) (k':Nat),Ms [.view Aa l,I k]=some (Bd a++[.view Aa l,I k'])/\AxOK a:=by
 refine Zh0 (N:=Um) (GY hl) (fun{a n v k} hs hn hv=> ?_) k
 obtain⟨p,k',h1,h2,h3⟩:=Qvl (MN:=Bs) (GY hl) hs n 0 [] v k (by omega) rfl hv
 rw[Nat.zero_add]at h1 h2
 exact⟨p,k',h1,h2,h3⟩
structure Ax3M (x : Ax3) : Prop where
 a:AxOK x.a
 b:AxOK x.b
 c:AxOK x.c
theorem Ax3M.ok {x:Ax3} (h:Ax3M x):Ax3OK x:=⟨by have:=h.a.back;omega,by have:=h.b.back;omega,by have:=h.c.back;omega⟩
theorem Zar {l:Rw} (hl:Src l):∃x:Ax3,LW [.view Aa l]=some (AJ x)/\Ax3M x:=by
 obtain⟨a,k1,h1,g1⟩:=Qfe hl 0
 obtain⟨b,k2,h2,g2⟩:=Qfe hl k1
 obtain⟨c,k3,h3,g3⟩:=Qfe hl k2
 refine⟨⟨a,b,c⟩,?_,g1,g2,g3⟩
 have hf:=OT l
 unfold LW
 generalize Ms=MA at*
 generalize Ce=MF at*
 rw[Zbr]
 have h1':MA [.view Aa l,I 0]=some (Bd a++[.view Aa l,I k1]):=h1
 simp only[Bd,List.cons_append,List.nil_append]at h1' h2 h3
 simp only[go_sem,hf,h1',h2,h3]
end Go.Bm
/- tracks: the way between two positions, by the program; the law TrackLeg -/
set_option maxRecDepth 100000
namespace Go.Bm
open Classical

theorem Zd3 {p:Pth} {x:Ax3} {mv lo hi f:Int} {d:Pt} (j:Nat):(Cd p x mv lo hi (⟨[],0,f,d⟩,d) j).1.start=f/\(Cd p x mv lo hi (⟨[],0,f,d⟩,d) j).1.dirs=d:=by
 induction j with
 |zero=>exact⟨rfl,rfl⟩
 |succ j ih=>rw[Cd,(Qz8 _).1,(Qz8 _).2];exact ih
theorem Qre {p:Pth} {x:Ax3} {lo hi mv f:Int} {d:Pt} (hv:mv=1\/mv= -1) (hp:GoodPath p) (hx:Ax3OK x):∀(k j:Nat),j+k=p.segs.length->∀w,w=Cd p x mv lo hi (⟨[],0,f,d⟩,d) j->
  An (Sl E8 NL) (OH p x lo hi mv w.1 w.2 j)=some (1,FT x mv (Cd p x mv lo hi (⟨[],0,f,d⟩,d) p.segs.length).1 (Cd p x mv lo hi (⟨[],0,f,d⟩,d) p.segs.length).2)
 |0,j,hj,w,hw=>by
  have hj':j=p.segs.length:=by omega
  refine A7 (o:=(1,_)) ?_ (by simp)
  rw[Qwx,AW (by omega),hw,hj']
 |k+1,j,hj,w,hw=>by
  have hcnt:=hp.count
  have hb:=XV (mv:=mv) (lo:=lo) (hi:=hi) (f:=f) (d:=d) hx hp.ok j (by omega)
  rw[<-hw]at hb
  have hst:=Zbk (MV:=E8) (N:=NL) (lo:=lo) (hi:=hi) (now:=w.2) (j:=j) hv hp hx hb (by omega) (by omega) (by omega) (fun{a b s units} hu=>Zhw hv hx hb (by omega) (by omega) (k:=268435456) (by omega) hu)
  rw[Bt hst]
  exact Qre hv hp hx k (j+1) (by omega) _ (by rw[Cd,<-hw])
theorem Zft {MV:Fn} {N4 N10:Lp} {p:Pth} {x:Ax3} {lo hi mv f:Int} {d:Pt}
  (h4:N4 (Pd p x lo hi mv ⟨[],0,f,d⟩ d 0 [] 0)=some (1,[.view Aa (EL p.segs p.segs.length), .view Aq [],I lo,I hi,I mv,I p.start.x,I p.start.y,I p.start.z, .view Ah (p.segs.map Ay), .view AB (p.marks.map As),I d.x,I d.y,I d.z,I mv,I x.a.step,I x.a.speed,I x.a.accel,I x.a.jerk,I x.a.low,I x.a.high,I x.a.back,I x.a.origin,I x.a.spacing, .view Aa (x.a.pitch.map At),I x.b.step,I x.b.speed,I x.b.accel,I x.b.jerk,I x.b.low,I x.b.high,I x.b.back,I x.b.origin,I x.b.spacing, .view Aa (x.b.pitch.map At),I x.c.step,I x.c.speed,I x.c.accel,I x.c.jerk,I x.c.low,I x.c.high,I x.c.back,I x.c.origin,I x.c.spacing, .view Aa (x.c.pitch.map At),I 0,I f,I d.x,I d.y,I d.z]))
  (h10:N10 (OH p x lo hi mv ⟨[],0,f,d⟩ d 0)=some (1,FT x mv (Cd p x mv lo hi (⟨[],0,f,d⟩,d) p.segs.length).1 (Cd p x mv lo hi (⟨[],0,f,d⟩,d) p.segs.length).2)):
  Ue MV N4 N10 [.view Aq [],I p.start.x,I p.start.y,I p.start.z, .view Ah (p.segs.map Ay), .view AB (p.marks.map As),I lo,I hi,I mv,I d.x,I d.y,I d.z,I mv,I x.a.step,I x.a.speed,I x.a.accel,I x.a.jerk,I x.a.low,I x.a.high,I x.a.back,I x.a.origin,I x.a.spacing, .view Aa (x.a.pitch.map At),I x.b.step,I x.b.speed,I x.b.accel,I x.b.jerk,I x.b.low,I x.b.high,I x.b.back,I x.b.origin,I x.b.spacing, .view Aa (x.b.pitch.map At),I x.c.step,I x.c.speed,I x.c.accel,I x.c.jerk,I x.c.low,I x.c.high,I x.c.back,I x.c.origin,I x.c.spacing, .view Aa (x.c.pitch.map At),I 0,I f,I d.x,I d.y,I d.z]=some (FT x mv (Cd p x mv lo hi (⟨[],0,f,d⟩,d) p.segs.length).1 (Cd p x mv lo hi (⟨[],0,f,d⟩,d) p.segs.length).2):=by
 rw[Q7p]
 simp only[Pd,List.map_nil,Int.cast_ofNat_Int]at h4
 simp only[OH,FT,List.map_nil,Int.cast_ofNat_Int]at h10
 simp only[go_sem,List.length_map,h4,h10]
theorem Zee {p:Pth} {x:Ax3} {lo hi mv f:Int} {d:Pt} (hv:mv=1\/mv= -1) (hp:GoodPath p) (hx:Ax3OK x):
  OC [.view Aq [],I p.start.x,I p.start.y,I p.start.z, .view Ah (p.segs.map Ay), .view AB (p.marks.map As),I lo,I hi,I mv,I d.x,I d.y,I d.z,I mv,I x.a.step,I x.a.speed,I x.a.accel,I x.a.jerk,I x.a.low,I x.a.high,I x.a.back,I x.a.origin,I x.a.spacing, .view Aa (x.a.pitch.map At),I x.b.step,I x.b.speed,I x.b.accel,I x.b.jerk,I x.b.low,I x.b.high,I x.b.back,I x.b.origin,I x.b.spacing, .view Aa (x.b.pitch.map At),I x.c.step,I x.c.speed,I x.c.accel,I x.c.jerk,I x.c.low,I x.c.high,I x.c.back,I x.c.origin,I x.c.spacing, .view Aa (x.c.pitch.map At),I 0,I f,I d.x,I d.y,I d.z]=some (FT x mv (Cd p x mv lo hi (⟨[],0,f,d⟩,d) p.segs.length).1 (Cd p x mv lo hi (⟨[],0,f,d⟩,d) p.segs.length).2):=by
 refine Zft (MV:=E8) (N4:=NL) (N10:=Zh) ?_ (Qre hv hp hx p.segs.length 0 (by omega) _ rfl)
 have h:=Qwj (M:=E8) (x:=x) (lo:=lo) (hi:=hi) (mv:=mv) (t:=⟨[],0,f,d⟩) (now:=d) hp.ok p.segs.length 0 (by omega)
 rw[Te]at h
 exact h
theorem Zzh {ME M2 M1 MC ML:Fn} {p:Pth} {x:Ax3} {d:Pt} {from_ to:Int} (hL:ML (Bo p)=some [I (AR p.segs)]) (hC:∀n h:Int,MC [I n,I h]=some [I (BX n h)])
  (hE:∀{lo hi mv f:Int},(mv=1\/mv= -1)->ME [.view Aq [],I p.start.x,I p.start.y,I p.start.z, .view Ah (p.segs.map Ay), .view AB (p.marks.map As),I lo,I hi,I mv,I d.x,I d.y,I d.z,I mv,I x.a.step,I x.a.speed,I x.a.accel,I x.a.jerk,I x.a.low,I x.a.high,I x.a.back,I x.a.origin,I x.a.spacing, .view Aa (x.a.pitch.map At),I x.b.step,I x.b.speed,I x.b.accel,I x.b.jerk,I x.b.low,I x.b.high,I x.b.back,I x.b.origin,I x.b.spacing, .view Aa (x.b.pitch.map At),I x.c.step,I x.c.speed,I x.c.accel,I x.c.jerk,I x.c.low,I x.c.high,I x.c.back,I x.c.origin,I x.c.spacing, .view Aa (x.c.pitch.map At),I 0,I f,I d.x,I d.y,I d.z]=some (FT x mv (Cd p x mv lo hi (⟨[],0,f,d⟩,d) p.segs.length).1 (Cd p x mv lo hi (⟨[],0,f,d⟩,d) p.segs.length).2)):
  Qci ME M2 M1 MC ML (Bo p++AJ x++[I d.x,I d.y,I d.z,I from_,I to])=some (Bh (Eo p x d from_ to)):=by
 have he:=Zhx ME M2 M1 MC ML p.start.x p.start.y p.start.z (p.segs.map Ay) (p.marks.map As) x.a.step x.a.speed x.a.accel x.a.jerk x.a.low x.a.high x.a.back x.a.origin x.a.spacing (x.a.pitch.map At) x.b.step x.b.speed x.b.accel x.b.jerk x.b.low x.b.high x.b.back x.b.origin x.b.spacing (x.b.pitch.map At) x.c.step x.c.speed x.c.accel x.c.jerk x.c.low x.c.high x.c.back x.c.origin x.c.spacing (x.c.pitch.map At) d.x d.y d.z from_ to
 refine Eq.trans he ?_
 unfold Eo
 simp only[Bo]at hL
 simp only[hL,hC,go_sem,Jg,LF]
 generalize BX from_ (AR p.segs)=f at*
 generalize BX to (AR p.segs)=t at*
 by_cases c:t<f
 ·have h:=hE (lo:=min f t) (hi:=max f t) (mv:= -1) (f:=f) (.inr rfl)
  simp only[FT]at h
  simp only[h,go_sem,c,if_true]
 ·have h:=hE (lo:=min f t) (hi:=max f t) (mv:=1) (f:=f) (.inl rfl)
  simp only[FT]at h
  simp only[h,go_sem,c,if_false]
theorem Zvh {p:Pth} {x:Ax3} {d:Pt} {from_ to:Int} (hp:GoodPath p) (hx:Ax3OK x):Ju (Bo p++AJ x++[I d.x,I d.y,I d.z,I from_,I to])=some (Bh (Eo p x d from_ to)):=
 Zzh (Qy9 hp.ok) (fun _ _=>Xb) fun hv=>Zee hv hp hx
theorem Q8i {p:Pth} {x:Ax3} (d:Pt) (a b:Int) (hp:GoodPath p) (hx:Ax3OK x):(Eo p x d a b).pieces.length<=10000000/\0<=(Eo p x d a b).length/\(Eo p x d a b).length<=900000000000000:=by
 have hc:=hp.count
 have h:=XV (mv:=if BX a (AR p.segs)>BX b (AR p.segs)then-1 else 1) (lo:=min (BX a (AR p.segs)) (BX b (AR p.segs))) (hi:=max (BX a (AR p.segs)) (BX b (AR p.segs))) (f:=BX a (AR p.segs)) (d:=d) hx hp.ok p.segs.length (Nat.le_refl _)
 obtain⟨h1,h2,-⟩:=h
 unfold Eo
 simp only
 refine⟨by omega,by omega,by omega⟩
end Go.Bm
/- tracks: what is known of every way over a path -/
set_option maxRecDepth 100000
namespace Go.Bm
open Classical

theorem Q5c {x:Ax3} {mv:Int} {Q:Int->Pt->Prop}:∀{a s:Int} {d:Pt} {l:List Pce},EQ x mv Q a s d l->a<=D8 a l
 |a,_,_,[],_=>Int.le_refl _
 |a,s,d,c::l,h=>by
  obtain⟨-,-,h3,-,h5⟩:=h
  have:=Q5c h5
  unfold D8;omega
theorem O9 {x:Ax3} {mv:Int} {Q:Int->Pt->Prop} (hv:mv=1\/mv= -1):∀{a s:Int} {d:Pt} {l:List Pce},EQ x mv Q a s d l->∀i,i<l.length->
  a<=(pcA l i).at_/\1<=(pcA l i).units/\eI l i<=D8 a l/\(s-((pcA l i).at_-a)<=(pcA l i).s/\(pcA l i).s<=s+((pcA l i).at_-a))/\((pcA l i).move=0\/(pcA l i).move=mv)
 |a,s,d,c::l,h,0,_=>by
  obtain⟨h1,h2,h3,h4,h5⟩:=h
  have:=Q5c h5
  unfold eI
  rw[J3]
  refine⟨by omega,h3,by unfold D8;omega,by omega,?_⟩
  rcases h4 with h4|h4
  ·exact .inr h4.1
  ·exact .inl h4.1
 |a,s,d,c::l,h,i+1,hi=>by
  obtain⟨h1,h2,h3,h4,h5⟩:=h
  have ih:=O9 hv h5 i (by simpa using hi)
  unfold eI at ih⊢
  rw[HC]
  obtain⟨g1,g2,g3,g4,g5⟩:=ih
  have hm:c.move*c.units=0\/c.move*c.units=c.units\/c.move*c.units= -c.units:=by
   rcases h4 with h4|h4
   ·rw[h4.1];rcases hv with rfl|rfl<;>omega
   ·rw[h4.1];omega
  refine⟨by omega,g2,by unfold D8;exact g3,by omega,g5⟩
theorem Qvv {x:Ax3} {mv:Int} {Q:Int->Pt->Prop} (hv:mv=1\/mv= -1):∀{a s:Int} {d:Pt} {l:List Pce},EQ x mv Q a s d l->∀i j,i<=j->j<l.length->eI l i<=eI l j
 |a,s,d,c::l,h,0,0,_,_=>Int.le_refl _
 |a,s,d,c::l,h,0,j+1,_,hj=>by
  obtain⟨h1,h2,h3,h4,h5⟩:=h
  have:=O9 hv h5 j (by simpa using hj)
  unfold eI at*
  rw[J3,HC];omega
 |a,s,d,c::l,h,i+1,0,hij,_=>by omega
 |a,s,d,c::l,h,i+1,j+1,hij,hj=>by
  obtain⟨h1,h2,h3,h4,h5⟩:=h
  have:=Qvv hv h5 i j (by omega) (by simpa using hj)
  unfold eI at*
  rw[HC,HC];exact this
theorem Q3w {x:Ax3} {mv:Int} {Q:Int->Pt->Prop}:∀{a s:Int} {d:Pt} {l:List Pce},EQ x mv Q a s d l->l≠[]->eI l (l.length-1)=D8 a l
 |a,s,d,[c],h,_=>by
  obtain⟨h1,-⟩:=h
  show eI [c] 0=D8 a [c]
  unfold eI
  rw[J3];simp only[D8];omega
 |a,s,d,c::e::l,h,_=>by
  obtain⟨-,-,-,-,h5⟩:=h
  have:=Q3w h5 (by simp)
  have e1:(c::e::l).length-1=((e::l).length-1)+1:=by simp
  rw[e1]
  unfold eI at*
  rw[HC,this];rfl
def mvP (p:Pth) (a b:Int):Int:=if BX a (AR p.segs)>BX b (AR p.segs)then-1 else 1
theorem Zv4 (p:Pth) (a b:Int):mvP p a b=1\/mvP p a b= -1:=by unfold mvP;split<;>simp
theorem Q44 {p:Pth} {x:Ax3} {d:Pt} {a b:Int} {Q:Int->Pt->Prop} (hx:Ax3OK x) (hp:GoodPath p) (hQ:Q55 p (mvP p a b) Q):
  ∃d',TC x (mvP p a b) Q (Eo p x d a b) (BX b (AR p.segs)) d'/\(Eo p x d a b).start=BX a (AR p.segs)/\(Eo p x d a b).dirs=d:=by
 have hn:=Qn2 hp
 have ha:0<=BX a (AR p.segs)/\BX a (AR p.segs)<=AR p.segs:=by unfold BX;omega
 have hb:0<=BX b (AR p.segs)/\BX b (AR p.segs)<=AR p.segs:=by unfold BX;omega
 have hk:=fun mv lo hi f=>Zd3 (p:=p) (x:=x) (mv:=mv) (lo:=lo) (hi:=hi) (f:=f) (d:=d) p.segs.length
 unfold Eo mvP at*
 simp only
 generalize BX a (AR p.segs)=f at*
 generalize BX b (AR p.segs)=t at*
 have h:=Qyq (p:=p) (x:=x) (mv:=if f>t then-1 else 1) (lo:=min f t) (hi:=max f t) (f:=f) (d:=d) (Q:=Q) (by split<;>simp) hx hp.ok (by omega) (by split<;>omega) hQ p.segs.length (Nat.le_refl _)
 have hs:Je p.segs (if f>t then-1 else 1) (min f t) (max f t) p.segs.length=t:=by
  unfold Je
  rw[Nat.sub_self,Te,Qnv]
  by_cases c:f>t
  ·rw[if_pos c,if_pos (by omega)];omega
  ·rw[if_neg c,if_neg (by omega)];omega
 rw[hs]at h
 exact⟨_,h,(hk _ _ _ _).1,(hk _ _ _ _).2⟩
theorem Zn8 {x:Ax3} {mv:Int} {Q:Int->Pt->Prop} {t:Trk} {s:Int} {d:Pt} (hv:mv=1\/mv= -1) (h:TC x mv Q t s d) (hb:t.pieces.length<=10000000/\0<=t.length/\t.length<=900000000000000) (hs:0<=t.start/\t.start<=263886834032640):TQ t:=by
 obtain⟨h1,h2,-,-⟩:=h
 refine⟨hb.1,hb.2,fun i hi=> ?_,Qvv hv h1,fun hne=>by rw[Q3w h1 hne,h2],hs,fun i hi=> ?_,fun i hi=> ?_⟩
 ·have:=O9 hv h1 i hi
  rw[h2]at this;exact⟨this.1,this.2.1,this.2.2.1⟩
 ·have:=O9 hv h1 i hi
  rw[h2]at this;unfold eI at this;omega
 ·have:=(O9 hv h1 i hi).2.2.2.2
  rcases hv with rfl|rfl
  ·rcases this with h|h
   ·exact .inl h
   ·exact .inr (.inl h)
  ·rcases this with h|h
   ·exact .inl h
   ·exact .inr (.inr h)
theorem Zzf {p:Pth} {x:Ax3} (d:Pt) (a b:Int) (hx:Ax3OK x) (hp:GoodPath p):TQ (Eo p x d a b):=by
 have hn:=Qn2 hp
 obtain⟨d',h1,h2,-⟩:=Q44 (d:=d) (a:=a) (b:=b) (Q:=fun _ _=>True) hx hp (fun _ _ _ _ _ _ _ _=>trivial)
 exact Zn8 (Zv4 p a b) h1 (Q8i d a b hp hx) (by rw[h2];unfold BX;omega)
end Go.Bm
/- motors: corrected positions, steps, the difference of a motor and its table -/
set_option maxRecDepth 100000
namespace Go.Bm
open Classical

def BV (a:Axs) (i:Nat):Int:=a.pitch.getD i 0
def JD (a:Axs) (p:Int):Int:=
 if a.pitch=[]then 0
 else if p<=a.origin then BV a 0
 else if(p-a.origin)/a.spacing>=a.pitch.length-1 then BV a (a.pitch.length-1)
 else BV a ((p-a.origin)/a.spacing).toNat+Bb ((BV a (((p-a.origin)/a.spacing).toNat+1)-BV a ((p-a.origin)/a.spacing).toNat)*(p-a.origin-(p-a.origin)/a.spacing*a.spacing)) a.spacing
def HJ (a:Axs) (p:Int):Int:=Bb (p+JD a p) a.step
def okB (p:Int):Prop:= -1000000000<=p/\p<=1000000000
theorem Q3p {l:List Int} (h:l≠[]):0<l.length:=by
 cases l with
 |nil=>exact absurd rfl h
 |cons _ _=>simp
theorem OX {a:Axs} (h:AxOK a) {i:Nat} (hi:i<a.pitch.length): -4096<=BV a i/\BV a i<=4096:=by
 have e:BV a i=a.pitch[i]:=by unfold BV;simp[hi]
 rw[e];exact h.pitch.1 _ (List.getElem_mem _)
theorem Ss {a:Axs} {i:Nat} (hi:i<a.pitch.length):nth [] (a.pitch.map At) i=[I (BV a i)]:=by
 have e:BV a i=a.pitch[i]:=by unfold BV;simp[hi]
 rw[e];exact Ik _ _ _ _ hi
theorem Qte {a:Axs} (h:AxOK a) (hne:a.pitch≠[]) {p:Int} (h1: ¬p<=a.origin) (h2: ¬(p-a.origin)/a.spacing>=a.pitch.length-1):
  ∃(i:Nat) (r:Int),((p-a.origin)/a.spacing=i)/\i+1<a.pitch.length/\0<=r/\r<a.spacing/\p-a.origin=i*a.spacing+r/\p-a.origin-(p-a.origin)/a.spacing*a.spacing=r:=by
 have hs:=h.spacing hne
 have e0:=Int.mul_ediv_add_emod (p-a.origin) a.spacing
 have e1:=Int.emod_nonneg (p-a.origin) (show a.spacing≠0 by omega)
 have e2:=Int.emod_lt_of_pos (p-a.origin) (show 0<a.spacing by omega)
 have e3:0<=(p-a.origin)/a.spacing:=Int.ediv_nonneg (by omega) (by omega)
 refine⟨((p-a.origin)/a.spacing).toNat,(p-a.origin)%a.spacing,by omega,by omega,e1,e2,?_,?_⟩
 ·rw[Int.toNat_of_nonneg e3,Int.mul_comm];omega
 ·rw[Int.mul_comm ((p-a.origin)/a.spacing)];omega
theorem Qyl {a:Axs} (h:AxOK a) (hne:a.pitch≠[]) {i:Nat} (hi:i+1<a.pitch.length) {r:Int} (hr:0<=r/\r<=a.spacing):
  (-30<=BV a (i+1)-BV a i/\BV a (i+1)-BV a i<=30)/\(Bb ((BV a (i+1)-BV a i)*r) a.spacing).natAbs<=31:=by
 have hs:=h.spacing hne
 have hp:=h.pitch.2 i hi
 have hd: -30<=BV a (i+1)-BV a i/\BV a (i+1)-BV a i<=30:=by unfold BV;omega
 refine⟨hd,Qli (by omega) ?_⟩
 have m1:(BV a (i+1)-BV a i)*r<=31*r:=Int.mul_le_mul_of_nonneg_right (by omega) hr.1
 have m2: -31*r<=(BV a (i+1)-BV a i)*r:=Int.mul_le_mul_of_nonneg_right (by omega) hr.1
 have e:((31:Nat):Int)=31:=rfl
 rw[e];omega
theorem Qsd {a:Axs} (h:AxOK a) (p:Int): -5000<=JD a p/\JD a p<=5000:=by
 unfold JD
 by_cases c:a.pitch=[]
 ·rw[if_pos c];omega
 ·have hl:=Q3p c
  rw[if_neg c]
  by_cases c1:p<=a.origin
  ·rw[if_pos c1];have:=OX h (show 0<a.pitch.length from hl);omega
  ·rw[if_neg c1]
   by_cases c2:(p-a.origin)/a.spacing>=a.pitch.length-1
   ·rw[if_pos c2];have:=OX h (show a.pitch.length-1<a.pitch.length by omega);omega
   ·rw[if_neg c2]
    obtain⟨i,r,e1,e2,e3,e4,e5,e6⟩:=Qte h c c1 c2
    rw[e6,e1,Int.toNat_natCast]
    have b1:=OX h (show i<a.pitch.length by omega)
    have b2:=(Qyl h c e2 (r:=r) (by omega)).2
    omega

theorem Zy0 {a:Axs} (h:AxOK a) {v:Int} (hv:v.natAbs<=1000010000):JU (Bd a++[I v])=some [I (Bb v a.step)]:=by
 have hs:=h.step
 have he:=Zww a.step a.speed a.accel a.jerk a.low a.high a.back a.origin a.spacing (a.pitch.map At) v
 unfold JU
 refine Eq.trans he ?_
 rw[Ae (x:=2*v) (by omega),Ae (x:=2*v+a.step) (by omega),Ae (x:=2*a.step) (by omega)]
 have hm:=Int.tmod_add_mul_tdiv (2*v+a.step) (2*a.step)
 have h1:=Int.tmod_lt_of_pos (2*v+a.step) (show 0<2*a.step by omega)
 have h2:=Int.lt_tmod_of_pos (2*v+a.step) (show 0<2*a.step by omega)
 have hq:((2*v+a.step).tdiv (2*a.step)).natAbs<=(2*v+a.step).natAbs:=by rw[Int.natAbs_tdiv];exact Nat.div_le_self _ _
 generalize(2*v+a.step).tdiv (2*a.step)=q at*
 generalize(2*v+a.step).tmod (2*a.step)=r at*
 have e1:2*a.step*q=q*(2*a.step):=Int.mul_comm _ _
 rw[AW (by omega),AW (by omega),AW (by omega),AW (by omega),Ae (x:=q) (by omega)]
 by_cases h:r<0
 ·rw[Du h,Ae (by omega),KK (k:=q-1) (by omega)]
  ·rw[Int.sub_mul];omega
  ·rw[Int.sub_add_cancel];omega
 ·rw[AW h,KK (k:=q) (by omega)]
  ·omega
  ·rw[Int.add_mul];omega
theorem Znm {a:Axs} (h:AxOK a) {p:Int} (hp:okB p):JL (Bd a++[I p])=some [I (JD a p)]:=by
 unfold okB at hp
 have ho:=h.origin
 have hc:=h.count
 have he:=Zgt Be a.step a.speed a.accel a.jerk a.low a.high a.back a.origin a.spacing (a.pitch.map At) p
 unfold JL
 have hF:=fun{x y:Int} (hx:x.natAbs<=30) (hy:y.natAbs<=123) (hs:4<=a.spacing/\a.spacing<=123)=>Qpk (a:=x) (b:=y) (c:=a.spacing) (by omega) (by omega) (by omega)
 generalize Be=M at*
 refine Eq.trans he ?_
 unfold JD
 rw[List.length_map]
 by_cases c:a.pitch=[]
 ·rw[if_pos c,c];rfl
 ·have hl:=Q3p c
  have hs:=h.spacing c
  have e1:IntKind.i64.wrap ((a.pitch.length:Int)-1)=((a.pitch.length-1:Nat):Int):=by rw[Ae (by omega)];omega
  have e2:IntKind.i64.wrap (p-a.origin)=p-a.origin:=Ae (by omega)
  rw[if_neg c,e2,e1]
  by_cases c1:p<=a.origin
  ·rw[if_pos c1]
   simp only[go_sem,Ss hl]
   rw[if_neg (by omega),if_pos (by omega),if_pos (by omega)]
  ·have e3:IntKind.i64.wrap ((p-a.origin).tdiv a.spacing)=(p-a.origin)/a.spacing:=by
    rw[Int.tdiv_eq_ediv_of_nonneg (by omega)]
    have:=Int.ediv_nonneg (show 0<=p-a.origin by omega) (show 0<=a.spacing by omega)
    have:=Int.ediv_le_self a.spacing (show 0<=p-a.origin by omega)
    exact Ae (by omega)
   rw[if_neg c1,e3]
   by_cases c2:(p-a.origin)/a.spacing>=(a.pitch.length:Int)-1
   ·rw[if_pos c2]
    simp only[go_sem,Int.toNat_natCast,Ss (show a.pitch.length-1<a.pitch.length by omega)]
    rw[if_neg (by omega),if_neg (by omega),if_neg (by omega),if_neg (by omega),if_pos (by omega),if_pos (by omega)]
   ·rw[if_neg c2]
    obtain⟨i,r,g1,g2,g3,g4,g5,g6⟩:=Qte h c c1 c2
    obtain⟨n1,n2⟩:=Qyl h c g2 (r:=r) (by omega)
    have b1:=OX h (show i<a.pitch.length by omega)
    rw[g6,g1]at*
    rw[Int.toNat_natCast]
    have w1:IntKind.i64.wrap ((i:Int)+1)=((i+1:Nat):Int):=by rw[Ae (by omega)];omega
    have hmul:(i:Int)*a.spacing=p-a.origin-r:=by omega
    have w2:IntKind.i64.wrap (p-a.origin-IntKind.i64.wrap ((i:Int)*a.spacing))=r:=by rw[hmul,Ae (x:=p-a.origin-r) (by omega),Ae (by omega)];omega
    have hin1:(0:Int)<=(i:Int)/\(i:Int)<(a.pitch.length:Int):=by omega
    have hin2:(0:Int)<=((i+1:Nat):Int)/\((i+1:Nat):Int)<(a.pitch.length:Int):=by omega
    simp only[go_sem,w1,w2,Int.toNat_natCast,Ss (show i<a.pitch.length by omega),Ss g2,if_pos hin1,if_pos hin2]
    have b2:=OX h g2
    generalize BV a (i+1)=y at*
    generalize BV a i=z at*
    rw[if_neg (by omega),if_neg (by omega),if_neg (by omega),if_neg (by omega),if_neg (by omega),Ae (x:=y-z) (by omega),hF (by omega) (by omega) hs]
    simp only[go_sem]
    rw[Ae (by omega)]
theorem Zpp {a:Axs} (h:AxOK a) {p:Int} (hp:okB p):Mm (Bd a++[I p])=some [I (HJ a p)]:=by
 have hb:=Qsd h p
 have h1:=Znm h hp
 unfold okB at hp
 have h2:=Zy0 h (v:=p+JD a p) (by omega)
 have he:=Zyg JU JL a.step a.speed a.accel a.jerk a.low a.high a.back a.origin a.spacing (a.pitch.map At) p
 unfold Mm
 generalize JU=M1 at*
 generalize JL=M2 at*
 refine Eq.trans he ?_
 simp only[Bd,List.cons_append,List.nil_append]at h1 h2
 simp only[h1,go_sem,Ae (x:=p+JD a p) (by omega),h2]
 rfl
end Go.Bm
