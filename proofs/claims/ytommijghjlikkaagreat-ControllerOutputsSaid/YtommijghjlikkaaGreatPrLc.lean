/- laid together -/
import Derived.Test.YtommijghjlikkaaGreatPrTk
import Derived.Test.YtommijghjlikkaaGreatMx3
import Derived.Lib.ItoaNum
set_option linter.unusedVariables false
set_option linter.unusedSimpArgs false
set_option maxRecDepth 100000
open Go.IntKind (wrap)
namespace Go.Bm
open Classical
def DD (x:Ax3) (mv:Int) (Q:Int->Pt->Prop):Int->Int->Pt->List Pce->Prop
 |_,_,_,[]=>True
 |at_,s,d,c::l=>c.at_=at_/\c.s=s/\1<=c.units/\((c.move=mv/\c.was=c.dirs/\Cz x d c.dirs=0/\∀k,0<=k->k<c.units->Q (s+mv*k) c.dirs)\/(c.move=0/\c.was=d/\c.units=Cz x d c.dirs))/\DD x mv Q (at_+c.units) (s+c.move*c.units) c.dirs l
def BK:Int->List Pce->Int
 |a,[]=>a
 |a,c::l=>BK (a+c.units) l
def B2:Int->List Pce->Int
 |s,[]=>s
 |s,c::l=>B2 (s+c.move*c.units) l
def FH:Pt->List Pce->Pt
 |d,[]=>d
 |_,c::l=>FH c.dirs l
theorem S4 (c:Pce):∀(a:Int) (l:List Pce),BK a (l++[c])=BK a l+c.units
 |_,[]=>rfl
 |_,k::l=>S4 c _ l
theorem S9 (c:Pce):∀(s:Int) (l:List Pce),B2 s (l++[c])=B2 s l+c.move*c.units
 |_,[]=>rfl
 |_,k::l=>S9 c _ l
theorem TL (c:Pce):∀(d:Pt) (l:List Pce),FH d (l++[c])=c.dirs
 |_,[]=>rfl
 |_,k::l=>TL c _ l
theorem TD {x:Ax3} {mv:Int} {Q:Int->Pt->Prop} {c:Pce}:∀{at_ s:Int} {d:Pt} {l:List Pce},
  DD x mv Q at_ s d (l++[c])↔DD x mv Q at_ s d l/\c.at_=BK at_ l/\c.s=B2 s l/\1<=c.units/\((c.move=mv/\c.was=c.dirs/\Cz x (FH d l) c.dirs=0/\∀k,0<=k->k<c.units->Q (B2 s l+mv*k) c.dirs)\/(c.move=0/\c.was=FH d l/\c.units=Cz x (FH d l) c.dirs))
 |at_,s,d,[]=>by
  simp only[ay,DD,BK,B2,FH,and_true,true_and]
 |at_,s,d,k::l=>by
  simp only[aq,DD,BK,B2,FH];rw[TD];constructor
  ·rintro⟨D,E,G,I,J,L⟩;exact⟨⟨D,E,G,I,J⟩,L⟩
  ·rintro⟨⟨D,E,G,I,J⟩,L⟩;exact⟨D,E,G,I,J,L⟩
theorem Zfn {l:List Pce} (h:l≠[]) (v:Pce):l.set (l.length-1) v=l.dropLast++[v]:=by
 have e:=List.dropLast_concat_getLast h;have D:l.length-1=l.dropLast.length:=by rw[List.length_dropLast]
 conv=>lhs;arg 1;rw[<-e]
 rw[D,List.set_append_right _ _ (co _),Nat.sub_self];rfl
theorem Ze8 {l:List Pce} (h:l≠[]):l.dropLast++[Be l]=l:=by
 have e:=List.dropLast_concat_getLast h;have G:0<l.length:=by
  cases l with
  |nil=>exact absurd rfl h
  |cons _ _=>simp
 have D:l.length-1<l.length:=by omega
 have E:Be l=l.getLast h:=by
  unfold Be;rw[List.getD_eq_getElem?_getD,ah D,Option.getD_some,List.getLast_eq_getElem]
 rw[E];exact e
structure TC (x : Ax3) (mv : Int) (Q : Int -> Pt -> Prop) (t : Trk) (s : Int) (d : Pt) : Prop where
 ch:DD x mv Q 0 t.start t.dirs t.aD
 len:BK 0 t.aD=t.length
 s:B2 t.start t.aD=s
 d:FH t.dirs t.aD=d
theorem Qkd {x:Ax3} {mv:Int} {Q:Int->Pt->Prop} {t:Trk} {s:Int} {d:Pt} (hm:mv≠0) (h:TC x mv Q t s d) {c:Pce} (Y:c.s=s) (hu:1<=c.units)
  (E:(c.move=mv/\c.was=c.dirs/\Cz x d c.dirs=0/\∀k,0<=k->k<c.units->Q (s+mv*k) c.dirs)\/(c.move=0/\c.was=d/\c.units=Cz x d c.dirs)):TC x mv Q (FC t c) (s+c.move*c.units) c.dirs:=by
 obtain⟨G,J,D,M⟩:=h;unfold FC;by_cases g:t.aD≠[]/\c.move≠0/\(Be t.aD).move=c.move/\(Be t.aD).dirs=c.dirs
 ·rw[aa g];obtain⟨g1,g2,U,V⟩:=g;have e:=Ze8 g1;rw[Zfn g1];rw[<-e]at G J D M;rw[TD]at G;rw[S4]at J;rw[S9]at D;rw[TL]at M;generalize t.aD.dropLast=I at*;generalize Be t.aD=L at*;obtain⟨k0,k1,k2,k4,N⟩:=G
  replace E:=E.resolve_right λh=>g2 h.1
  replace N:=N.resolve_right λh=>g2 (U▸h.1)
  obtain⟨c1,c2,-,c3⟩:=E;obtain⟨X,q2,q4,q3⟩:=N;refine⟨?_,?_,?_,?_⟩
  ·show DD x mv Q 0 t.start t.dirs (I++[_]);rw[TD];refine⟨k0,k1,k2,by simp only;omega, .inl ⟨X,q2,q4,?_⟩⟩;intro k O S;simp only at S;by_cases T:k<L.units
   ·exact q3 k O T
   ·have:=c3 (k-L.units) (by omega) (by omega);rw[<-D,X,<-V]at this;have ea:B2 t.start I+mv*L.units+mv*(k-L.units)=B2 t.start I+mv*k:=by rw[Int.mul_sub];omega
    rw[ea]at this;exact this
  ·show BK 0 (I++[_])=t.length+c.units;rw[S4];simp only;omega
  ·show B2 t.start (I++[_])=s+c.move*c.units;rw[S9];simp only;rw[U]at D⊢;rw[Int.mul_add];omega
  ·show FH t.dirs (I++[_])=c.dirs;rw[TL];exact V
 ·rw[ab g];refine⟨?_,?_,?_,?_⟩
  ·show DD x mv Q 0 t.start t.dirs (t.aD++[_]);rw[TD];refine⟨G,J.symm,by rw[D];exact Y,hu,?_⟩;rw[D,M];exact E
  ·show BK 0 (t.aD++[_])=t.length+c.units;rw[S4,J]
  ·show B2 t.start (t.aD++[_])=s+c.move*c.units;rw[S9,D]
  ·show FH t.dirs (t.aD++[_])=c.dirs;rw[TL]
theorem Zin (x:Ax3) (d:Pt):Cz x d d=0:=by unfold Cz slk;simp
theorem Qwy {x:Ax3} {mv:Int} {Q:Int->Pt->Prop} {t:Trk} {s units:Int} {d a b:Pt} (E:mv≠0) (L:∀w d,0<=Cz x w d) (h:TC x mv Q t s d) (G:1<=units) (I:∀k,0<=k->k<units->Q (s+mv*k) (DV d a b mv)):
  TC x mv Q (CM x mv a b s units (t,d)).1 (s+mv*units) (DV d a b mv):=by
 unfold CM;simp only;generalize DV d a b mv=D at*;by_cases c:Cz x d D>0
 ·rw[aa c];have J:=Qkd E h (c:=⟨0,Cz x d D,s,0,d,D⟩) rfl (by simp only;omega) (.inr ⟨rfl,rfl,rfl⟩);simp only[Int.zero_mul,Int.add_zero]at J;exact Qkd E J (c:=⟨0,units,s,mv,D,D⟩) rfl G (.inl ⟨rfl,rfl,Zin x D,I⟩)
 ·rw[ab c];have:=L d D;exact Qkd E h (c:=⟨0,units,s,mv,D,D⟩) rfl G (.inl ⟨rfl,rfl,by simp only;omega,I⟩)
def Kx (l:List Sgm) (mv D E:Int) (j:Nat):Int:=if mv<0 then min (max (AD l (l.length-j)) D) E else min (max (AD l j) D) E
def Qu9 (p:Pth) (mv:Int) (Q:Int->Pt->Prop):Prop:=∀i,i<p.aE.length->∀(d:Pt) (s:Int),AD p.aE i<=s->s<=AD p.aE (i+1)->AD p.aE i<=s+mv->s+mv<=AD p.aE (i+1)->Q s (DV d (Fj p.start p.aE i) (sgA p.aE i).to mv)
theorem Q79 {p:Pth} {x:Ax3} {mv lo hi f:Int} {d:Pt} {Q:Int->Pt->Prop} (N:mv=1\/mv= -1) (J:Ax3OK x) (O:SegOK p.aE) (L:0<=lo/\lo<=hi/\hi<=Ay p.aE) (hf:(mv=1/\f=lo)\/(mv= -1/\f=hi)) (S:Qu9 p mv Q):
  ∀j,j<=p.aE.length->TC x mv Q (Cj p x mv lo hi (⟨[],0,f,d⟩,d) j).1 (Kx p.aE mv lo hi j) (Cj p x mv lo hi (⟨[],0,f,d⟩,d) j).2
 |0,_=>by
  have V:Kx p.aE mv lo hi 0=f:=by
   unfold Kx;have:=Q8l p.aE;rcases hf with⟨rfl,rfl⟩|⟨rfl,rfl⟩
   ·rw[ab (by omega),Ts];omega
   ·rw[aa (by omega),Nat.sub_zero,this];omega
  rw[V];exact⟨trivial,rfl,rfl,rfl⟩
 |j+1,hj=>by
  have E:=Q79 N J O L hf S (f:=f) (d:=d) j (by omega);have I:=Xt mv (show j<p.aE.length by omega);have hg:=O.seg _ (Il I);have M:=Qu I;have T:=S _ I;rw[Cj];unfold Io;have D:(mv=1/\Eu p.aE.length mv j=j)\/(mv= -1/\Eu p.aE.length mv j=p.aE.length-1-j):=by
   unfold Eu;rcases N with rfl|rfl
   ·exact .inl ⟨rfl,ab (by omega)⟩
   ·exact .inr ⟨rfl,aa (by omega)⟩
  have G:Kx p.aE mv lo hi j=(if mv<0 then min (max (AD p.aE (Eu p.aE.length mv j+1)) lo) hi else min (max (AD p.aE (Eu p.aE.length mv j)) lo) hi)/\
    Kx p.aE mv lo hi (j+1)=(if mv<0 then min (max (AD p.aE (Eu p.aE.length mv j)) lo) hi else min (max (AD p.aE (Eu p.aE.length mv j+1)) lo) hi):=by
   unfold Kx;rcases D with⟨rfl,e⟩|⟨rfl,e⟩
   ·rw[e,ab (by omega),ab (by omega),ab (by omega),ab (by omega)];exact⟨rfl,rfl⟩
   ·rw[e,aa (by omega),aa (by omega),aa (by omega),aa (by omega),show p.aE.length-1-j+1=p.aE.length-j by omega,show p.aE.length-(j+1)=p.aE.length-1-j by omega];exact⟨rfl,rfl⟩
  rw[G.1]at E;rw[G.2];generalize Eu p.aE.length mv j=i at*;generalize Cj p x mv lo hi (⟨[],0,f,d⟩,d) j=w at*;obtain⟨t,U⟩:=w;simp only at E⊢;by_cases c:max (AD p.aE i) lo<min (AD p.aE (i+1)) hi
  ·rw[aa c];rcases D with⟨rfl,-⟩|⟨rfl,-⟩
   ·rw[ab (by omega)]at E⊢;rw[ab (by omega)];have e1:min (max (AD p.aE i) lo) hi=max (AD p.aE i) lo:=by omega
    rw[e1]at E;have:=Qwy (a:=Fj p.start p.aE i) (b:=(sgA p.aE i).to) (units:=min (AD p.aE (i+1)) hi-max (AD p.aE i) lo) (by omega) (λw d=>(Tf J w d).1) E (by omega) (λk X Y=>T U _ (by omega) (by omega) (by omega) (by omega));have e2:max (AD p.aE i) lo+1*(min (AD p.aE (i+1)) hi-max (AD p.aE i) lo)=min (max (AD p.aE (i+1)) lo) hi:=by omega
    rw[e2]at this;exact this
   ·rw[aa (by omega)]at E⊢;rw[aa (by omega)];have e1:min (max (AD p.aE (i+1)) lo) hi=min (AD p.aE (i+1)) hi:=by omega
    rw[e1]at E;have:=Qwy (a:=Fj p.start p.aE i) (b:=(sgA p.aE i).to) (units:=min (AD p.aE (i+1)) hi-max (AD p.aE i) lo) (by omega) (λw d=>(Tf J w d).1) E (by omega) (λk X Y=>T U _ (by omega) (by omega) (by omega) (by omega));have e2:min (AD p.aE (i+1)) hi+ -1*(min (AD p.aE (i+1)) hi-max (AD p.aE i) lo)=min (max (AD p.aE i) lo) hi:=by omega
    rw[e2]at this;exact this
  ·rw[ab c];have e:(if mv<0 then min (max (AD p.aE (i+1)) lo) hi else min (max (AD p.aE i) lo) hi)=(if mv<0 then min (max (AD p.aE i) lo) hi else min (max (AD p.aE (i+1)) lo) hi):=by
    split<;>omega
   rw[<-e];exact E
theorem Z2g {l:List Pce} (h:l≠[]):nth [] (l.map AI) (l.length-1)=AI (Be l):=by
 have E:0<l.length:=by cases l with
  |nil=>exact absurd rfl h
  |cons _ _=>simp
 unfold Be;have D:l.length-1<l.length:=by omega
 rw[IH _ _ _ _ D,List.getD_eq_getElem?_getD,ah D,Option.getD_some]
theorem Zak {a b:Pt}:a=b↔a.x=b.x/\a.y=b.y/\a.z=b.z:=DT
theorem Zxk {t:Trk} {c:Pce} {n m k:Int} (h:TB t n m) (hn:n<=10000000) (hm:m<=1000000000000000000) (hk:k<=1000000000000000000) (hc:0<=c.units/\c.units<=k):
  Vk [.view Aq (t.aD.map AI),I c.at_,I c.units,I c.s,I c.move,I c.was.x,I c.was.y,I c.was.z,I c.dirs.x,I c.dirs.y,I c.dirs.z,I t.length,I t.start,I t.dirs.x,I t.dirs.y,I t.dirs.z]=some (A8 (FC t c)):=by
 obtain⟨h1,h2,T⟩:=h;have S:wrap .i64 (t.length+c.units)=t.length+c.units:=Ae (by omega);have D:((t.aD.map AI++[[I t.length,I c.units,I c.s,I c.move,I c.was.x,I c.was.y,I c.was.z,I c.dirs.x,I c.dirs.y,I c.dirs.z]]).length*80).ble 140737488355328=true:=by
  rw[Nat.ble_eq,ao,af];simp only[bh,cx];omega
 have G:(t.aD.map AI++[[I t.length,I c.units,I c.s,I c.move,I c.was.x,I c.was.y,I c.was.z,I c.dirs.x,I c.dirs.y,I c.dirs.z]]).length*80<=140737488355328:=az D;have E:some [AC.view Aq (t.aD.map AI++[[I t.length,I c.units,I c.s,I c.move,I c.was.x,I c.was.y,I c.was.z,I c.dirs.x,I c.dirs.y,I c.dirs.z]]),I (t.length+c.units),I t.start,I t.dirs.x,I t.dirs.y,I t.dirs.z]=
   some (A8 {t with aD:=t.aD++[{c with at_:=t.length}],length:=t.length+c.units}):=by
  simp only[A8,bz,bj,dh]
 by_cases J:t.aD=[]
 ·have U: ¬(t.aD≠[]/\c.move≠0/\(Be t.aD).move=c.move/\(Be t.aD).dirs=c.dirs):=λg=>g.1 J;unfold FC;rw[ab U,<-E];rw[Zad,af,A_ (by rw[J];simp),BO D,S]
 ·have hp:0<t.aD.length:=by
   cases V:t.aD with
   |nil=>exact absurd V J
   |cons _ _=>simp
  have e1:wrap .i64 ((t.aD.length:Int)-1)=((t.aD.length-1:Nat):Int):=by rw[Ae (by omega)];omega
  have N:(0:Int)<=((t.aD.length-1:Nat):Int)/\((t.aD.length-1:Nat):Int)<(t.aD.length:Int):=by omega
  have hl:=T _ (Qen J);have O:wrap .i64 ((Be t.aD).units+c.units)=(Be t.aD).units+c.units:=Ae (by omega);have L:some [AC.view Aq ((t.aD.map AI).set (t.aD.length-1) [I (Be t.aD).at_,I ((Be t.aD).units+c.units),I (Be t.aD).s,I (Be t.aD).move,I (Be t.aD).was.x,I (Be t.aD).was.y,I (Be t.aD).was.z,I (Be t.aD).dirs.x,I (Be t.aD).dirs.y,I (Be t.aD).dirs.z]),I (t.length+c.units),I t.start,I t.dirs.x,I t.dirs.y,I t.dirs.z]=
   some (A8 {t with aD:=t.aD.set (t.aD.length-1) {Be t.aD with units:=(Be t.aD).units+c.units},length:=t.length+c.units}):=by
   simp only[A8,List.map_set]
  have X:=Z2g J;have main : ∀ R, R = (if c.move ≠ 0 then if (Be t.aD).move = c.move then if (Be t.aD).dirs.x = c.dirs.x /\ (Be t.aD).dirs.y = c.dirs.y /\ (Be t.aD).dirs.z = c.dirs.z then
    some (A8 {t with aD:=t.aD.set (t.aD.length-1) {Be t.aD with units:=(Be t.aD).units+c.units},length:=t.length+c.units})
    else some (A8 {t with aD:=t.aD++[{c with at_:=t.length}],length:=t.length+c.units})else some (A8 {t with aD:=t.aD++[{c with at_:=t.length}],length:=t.length+c.units})else some (A8 {t with aD:=t.aD++[{c with at_:=t.length}],length:=t.length+c.units}))->R=some (A8 (FC t c)):=by
   intro R Y;rw[Y];unfold FC;by_cases g1:c.move≠0
   ·by_cases g2:(Be t.aD).move=c.move
    ·by_cases M:(Be t.aD).dirs.x=c.dirs.x/\(Be t.aD).dirs.y=c.dirs.y/\(Be t.aD).dirs.z=c.dirs.z
     ·rw[aa g1,aa g2,aa M,aa ⟨J,g1,g2,Zak.2 M⟩]
     ·rw[aa g1,aa g2,ab M,ab λg=>M (Zak.1 g.2.2.2)]
    ·rw[aa g1,ab g2,ab λg=>g2 g.2.2.1]
   ·rw[ab g1,ab λg=>g1 g.2.1]
  refine main _ ?_;rw[<-E,<-L];rw[Zad,af,e1,aj,X];simp only[go_sem,S,O,aa N,aa G];rw[aa (by omega)];simp only[and_true]
theorem Zjp (x:Ax3) (w d:Pt):NC (AM x++[I w.x,I w.y,I w.z,I d.x,I d.y,I d.z])=some [I (Cz x w d)]:=by
 have he:=Zex x.a.step x.a.speed x.a.accel x.a.jerk x.a.low x.a.high x.a.back x.a.origin x.a.spacing (x.a.pitch.map Ao) x.b.step x.b.speed x.b.accel x.b.jerk x.b.low x.b.high x.b.back x.b.origin x.b.spacing (x.b.pitch.map Ao) x.c.step x.c.speed x.c.accel x.c.jerk x.c.low x.c.high x.c.back x.c.origin x.c.spacing (x.c.pitch.map Ao) w.x w.y w.z d.x d.y d.z;unfold NC;refine Eq.trans he ?_;unfold Cz slk;simp only[go_sem,Ow]
 (repeat' split)<;>first|rfl|(exfalso;omega)
theorem Z9w (n a b:Pt) {mv:Int} (D:mv=1\/mv= -1):OD [I n.x,I n.y,I n.z,I a.x,I a.y,I a.z,I b.x,I b.y,I b.z,I mv]=some (ptR (DV n a b mv)):=by
 unfold OD;rw[Zgx];have e:wrap .i64 (0-mv)= -mv:=by rw[Ae (by omega)];omega
 unfold DV Q0;simp only[go_sem,e]
 (repeat' split)<;>first|rfl|(exfalso;omega)
theorem RV {n D:Int}:FX [I n,I D]=some [I (Bj n D)]:=by
 unfold FX;rw[Zq4];simp only[KD,Ow];rfl
theorem Zdo {J L M:Fn} {x:Ax3} {mv:Int} {a b:Pt} {s units:Int} {t:Trk} {now:Pt} {n m k:Int} (T:Ax3OK x) (h:TB t n m) (X:n<=9000000) (Y:m<=900000000000000000) (hk:k<=900000000000000000) (O:0<=units/\units<=k)
  (U:L [I now.x,I now.y,I now.z,I a.x,I a.y,I a.z,I b.x,I b.y,I b.z,I mv]=some (ptR (DV now a b mv))) (V:∀w d:Pt,J (AM x++[I w.x,I w.y,I w.z,I d.x,I d.y,I d.z])=some [I (Cz x w d)])
  (N : ∀ {t : Trk} {c : Pce} {n m k : Int}, TB t n m -> n <= 10000000 -> m <= 1000000000000000000 -> k <= 1000000000000000000 -> (0 <= c.units /\ c.units <= k) ->
   M [.view Aq (t.aD.map AI),I c.at_,I c.units,I c.s,I c.move,I c.was.x,I c.was.y,I c.was.z,I c.dirs.x,I c.dirs.y,I c.dirs.z,I t.length,I t.start,I t.dirs.x,I t.dirs.y,I t.dirs.z]=some (A8 (FC t c))):
  Qp1 J L M (.view Aq (t.aD.map AI)::I a.x::I a.y::I a.z::I b.x::I b.y::I b.z::I s::I units::I now.x::I now.y::I now.z::I mv::(AM x++[I t.length,I t.start,I t.dirs.x,I t.dirs.y,I t.dirs.z]))=
   some (.view Aq ((CM x mv a b s units (t, now)).1.aD.map AI) :: I (CM x mv a b s units (t, now)).2.x :: I (CM x mv a b s units (t, now)).2.y :: I (CM x mv a b s units (t, now)).2.z :: I mv :: (AM x ++
    [I (CM x mv a b s units (t,now)).1.length,I (CM x mv a b s units (t,now)).1.start,I (CM x mv a b s units (t,now)).1.dirs.x,I (CM x mv a b s units (t,now)).1.dirs.y,I (CM x mv a b s units (t,now)).1.dirs.z])):=by
 have he:=Z04 J L M (t.aD.map AI) a.x a.y a.z b.x b.y b.z s units now.x now.y now.z mv x.a.step x.a.speed x.a.accel x.a.jerk x.a.low x.a.high x.a.back x.a.origin x.a.spacing (x.a.pitch.map Ao) x.b.step x.b.speed x.b.accel x.b.jerk x.b.low x.b.high x.b.back x.b.origin x.b.spacing (x.b.pitch.map Ao) x.c.step x.c.speed x.c.accel x.c.jerk x.c.low x.c.high x.c.back x.c.origin x.c.spacing (x.c.pitch.map Ao) t.length t.start t.dirs.x t.dirs.y t.dirs.z;refine Eq.trans he ?_;have hs:=Tf T now (DV now a b mv);have E:=V now (DV now a b mv);simp only[AM,aq,ay]at E⊢;unfold CM;simp only;generalize DV now a b mv=D at*;simp only[U,go_sem,E];by_cases c:Cz x now D>0
 ·have S:=N (c:=⟨0,Cz x now D,s,0,now,D⟩) h (by omega) (by omega) (k:=1000) (by omega) (by simp only;omega);have hb:=Qrh (k:=1000) h (c:=⟨0,Cz x now D,s,0,now,D⟩) (by simp only;omega);have G:=N (c:=⟨0,units,s,mv,D,D⟩) hb (by omega) (by omega) (k:=k) (by omega) O;simp only at S G;rw[aa c,aa c];simp only[S,A8,go_sem,G]
 ·have G:=N (c:=⟨0,units,s,mv,D,D⟩) h (by omega) (by omega) (k:=k) (by omega) O;simp only at G;rw[ab c,ab c];simp only[G,A8,go_sem]
theorem Zve {x:Ax3} {mv:Int} {a b:Pt} {s units:Int} {t:Trk} {now:Pt} {n m k:Int} (D:mv=1\/mv= -1) (E:Ax3OK x) (h:TB t n m) (G:n<=9000000) (J:m<=900000000000000000) (L:k<=900000000000000000) (M:0<=units/\units<=k):
  Gk (.view Aq (t.aD.map AI)::I a.x::I a.y::I a.z::I b.x::I b.y::I b.z::I s::I units::I now.x::I now.y::I now.z::I mv::(AM x++[I t.length,I t.start,I t.dirs.x,I t.dirs.y,I t.dirs.z]))=
   some (.view Aq ((CM x mv a b s units (t, now)).1.aD.map AI) :: I (CM x mv a b s units (t, now)).2.x :: I (CM x mv a b s units (t, now)).2.y :: I (CM x mv a b s units (t, now)).2.z :: I mv :: (AM x ++
    [I (CM x mv a b s units (t,now)).1.length,I (CM x mv a b s units (t,now)).1.start,I (CM x mv a b s units (t,now)).1.dirs.x,I (CM x mv a b s units (t,now)).1.dirs.y,I (CM x mv a b s units (t,now)).1.dirs.z])):=
 Zdo E h G J L M (Z9w now a b D) (Zjp x) λN O S T U=>Zxk N O S T U
def FV (l:List Sgm) (j:Nat):Rw:=(List.range j).map λi=>[I (AD l i)]
theorem SQ (l:List Sgm) (j:Nat):(FV l j).length=j:=by simp[FV]
theorem Zlz (l:List Sgm) (j:Nat):FV l (j+1)=FV l j++[[I (AD l j)]]:=by unfold FV;rw[List.range_succ,bz];rfl
theorem Z5t {l:List Sgm} {n i:Nat} (h:i<n):nth [] (FV l n) i=[I (AD l i)]:=by
 have D:i<(FV l n).length:=by rw[SQ];exact h
 rw[Ht [] _ i D];simp[FV]
abbrev Q_ (p:Pth) (x:Ax3) (D E mv:Int) (t:Trk) (now:Pt) (at_:Int) (G:Rw) (j:Nat):List AC:=
 [.view Aa G, .view Aq (t.aD.map AI),I D,I E,I mv,I at_, .view Ah (p.aE.map Av),I p.aE.length,I j,I p.start.x,I p.start.y,I p.start.z, .view Ah (p.aE.map Av), .view AJ (p.aC.map At),I now.x,I now.y,I now.z,I mv,I x.a.step,I x.a.speed,I x.a.accel,I x.a.jerk,I x.a.low,I x.a.high,I x.a.back,I x.a.origin,I x.a.spacing, .view Aa (x.a.pitch.map Ao),I x.b.step,I x.b.speed,I x.b.accel,I x.b.jerk,I x.b.low,I x.b.high,I x.b.back,I x.b.origin,I x.b.spacing, .view Aa (x.b.pitch.map Ao),I x.c.step,I x.c.speed,I x.c.accel,I x.c.jerk,I x.c.low,I x.c.high,I x.c.back,I x.c.origin,I x.c.spacing, .view Aa (x.c.pitch.map Ao),I t.length,I t.start,I t.dirs.x,I t.dirs.y,I t.dirs.z]
theorem Q3r {M:Fn} {p:Pth} {x:Ax3} {lo hi mv:Int} {t:Trk} {now:Pt} (h:SegOK p.aE):∀(k j:Nat),j+k=p.aE.length->
  Al (Uv M) (Q_ p x lo hi mv t now (AD p.aE j) (FV p.aE j) j)=some (1,[.view Aa (FV p.aE p.aE.length), .view Aq (t.aD.map AI),I lo,I hi,I mv,I p.start.x,I p.start.y,I p.start.z, .view Ah (p.aE.map Av), .view AJ (p.aC.map At),I now.x,I now.y,I now.z,I mv,I x.a.step,I x.a.speed,I x.a.accel,I x.a.jerk,I x.a.low,I x.a.high,I x.a.back,I x.a.origin,I x.a.spacing, .view Aa (x.a.pitch.map Ao),I x.b.step,I x.b.speed,I x.b.accel,I x.b.jerk,I x.b.low,I x.b.high,I x.b.back,I x.b.origin,I x.b.spacing, .view Aa (x.b.pitch.map Ao),I x.c.step,I x.c.speed,I x.c.accel,I x.c.jerk,I x.c.low,I x.c.high,I x.c.back,I x.c.origin,I x.c.spacing, .view Aa (x.c.pitch.map Ao),I t.length,I t.start,I t.dirs.x,I t.dirs.y,I t.dirs.z])
 |0,j,N=>by
  have E:j=p.aE.length:=by omega
  refine A7 (o:=(1,_)) ?_ (by simp);rw[Qzy,A_ (by omega),E]
 |k+1,j,N=>by
  have D:j<p.aE.length:=by omega
  have J:=h.count;have L:=Qk2 h j (by omega);have O:=h.seg _ (Il D);have G:Uv M (Q_ p x lo hi mv t now (AD p.aE j) (FV p.aE j) j)=some (0,Q_ p x lo hi mv t now (AD p.aE (j+1)) (FV p.aE (j+1)) (j+1)):=by
   have hle:(FV p.aE j++[[I (AD p.aE j)]]).length*8<=140737488355328:=by rw[ao,SQ];simp only[bh,cx];omega
   have e1:wrap .i64 ((j:Int)+1)=((j+1:Nat):Int):=by rw[Ae (by omega)];omega
   rw[Qzy];simp only[go_sem,af,aj,Ls D,aa hle,e1,Zlz];rw[aa (by omega),aa (by omega),Ae (x:=AD p.aE j+(sgA p.aE j).len) (by omega),Qu D]
  rw[Bv G];exact Q3r h k (j+1) (by omega)
abbrev PN (p:Pth) (x:Ax3) (D E mv:Int) (t:Trk) (now:Pt) (j:Nat):List AC:=
 [.view Aa (FV p.aE p.aE.length), .view Aq (t.aD.map AI),I D,I E,I mv,I p.aE.length,I j,I p.start.x,I p.start.y,I p.start.z, .view Ah (p.aE.map Av), .view AJ (p.aC.map At),I now.x,I now.y,I now.z,I mv,I x.a.step,I x.a.speed,I x.a.accel,I x.a.jerk,I x.a.low,I x.a.high,I x.a.back,I x.a.origin,I x.a.spacing, .view Aa (x.a.pitch.map Ao),I x.b.step,I x.b.speed,I x.b.accel,I x.b.jerk,I x.b.low,I x.b.high,I x.b.back,I x.b.origin,I x.b.spacing, .view Aa (x.b.pitch.map Ao),I x.c.step,I x.c.speed,I x.c.accel,I x.c.jerk,I x.c.low,I x.c.high,I x.c.back,I x.c.origin,I x.c.spacing, .view Aa (x.c.pitch.map Ao),I t.length,I t.start,I t.dirs.x,I t.dirs.y,I t.dirs.z]
abbrev Gr (x:Ax3) (mv:Int) (t:Trk) (now:Pt):List AC:=[.view Aq (t.aD.map AI),I now.x,I now.y,I now.z,I mv,I x.a.step,I x.a.speed,I x.a.accel,I x.a.jerk,I x.a.low,I x.a.high,I x.a.back,I x.a.origin,I x.a.spacing, .view Aa (x.a.pitch.map Ao),I x.b.step,I x.b.speed,I x.b.accel,I x.b.jerk,I x.b.low,I x.b.high,I x.b.back,I x.b.origin,I x.b.spacing, .view Aa (x.b.pitch.map Ao),I x.c.step,I x.c.speed,I x.c.accel,I x.c.jerk,I x.c.low,I x.c.high,I x.c.back,I x.c.origin,I x.c.spacing, .view Aa (x.c.pitch.map Ao),I t.length,I t.start,I t.dirs.x,I t.dirs.y,I t.dirs.z]
theorem Zyv {MV:Fn} {N:Lp} {p:Pth} {x:Ax3} {lo hi mv:Int} {t:Trk} {now:Pt} {n m:Int} {j:Nat} (hv:mv=1\/mv= -1) (hp:GoodPath p) (hx:Ax3OK x) (h:TB t n m) (hn:n<=9000000) (hm:m<=900000000000000000)
  (hj:j<p.aE.length)
  (X:∀{a b:Pt} {s units:Int},(0<=units/\units<=268435456)->MV [.view Aq (t.aD.map AI),I a.x,I a.y,I a.z,I b.x,I b.y,I b.z,I s,I units,I now.x,I now.y,I now.z,I mv,I x.a.step,I x.a.speed,I x.a.accel,I x.a.jerk,I x.a.low,I x.a.high,I x.a.back,I x.a.origin,I x.a.spacing, .view Aa (x.a.pitch.map Ao),I x.b.step,I x.b.speed,I x.b.accel,I x.b.jerk,I x.b.low,I x.b.high,I x.b.back,I x.b.origin,I x.b.spacing, .view Aa (x.b.pitch.map Ao),I x.c.step,I x.c.speed,I x.c.accel,I x.c.jerk,I x.c.low,I x.c.high,I x.c.back,I x.c.origin,I x.c.spacing, .view Aa (x.c.pitch.map Ao),I t.length,I t.start,I t.dirs.x,I t.dirs.y,I t.dirs.z]=some (Gr x mv (CM x mv a b s units (t,now)).1 (CM x mv a b s units (t,now)).2)):
  UT MV N (PN p x lo hi mv t now j)=some (0,PN p x lo hi mv (Io p x mv lo hi (Eu p.aE.length mv j) (t,now)).1 (Io p x mv lo hi (Eu p.aE.length mv j) (t,now)).2 (j+1)):=by
 have M:=hp.ok;have a1:=M.count;have J:=Xt mv hj;have E:(mv=1/\Eu p.aE.length mv j=j)\/(mv= -1/\Eu p.aE.length mv j=p.aE.length-1-j):=by
  unfold Eu;rcases hv with rfl|rfl
  ·exact .inl ⟨rfl,ab (by omega)⟩
  ·exact .inr ⟨rfl,aa (by omega)⟩
 obtain⟨i,a0⟩:∃i,Eu p.aE.length mv j=i:=⟨_,rfl⟩;rw[a0]at J E⊢;have G:i<p.aE.length:=J;have hg:=M.seg _ (Il G);have hr:=Ls G;have hb:=Z5t (l:=p.aE) G;have a2:=Qk2 M i (by omega);have O:=Qu G;have S:(0:Int)<=(i:Nat)/\(i:Int)<(p.aE.length:Int):=by omega
 have L:(j:Int)<(p.aE.length:Int):=by omega
 have e1:wrap .i64 ((j:Int)+1)=((j+1:Nat):Int):=by rw[Ae (by omega)];omega
 have hI:wrap .i64 (wrap .i64 ((p.aE.length:Int)-1)-(j:Int))=((p.aE.length-1-j:Nat):Int):=by rw[Ae (x:=(p.aE.length:Int)-1) (by omega),Ae (by omega)];omega
 have hw:wrap .i64 (AD p.aE i+(sgA p.aE i).len)=AD p.aE (i+1):=by rw[O,Ae (by omega)]
 have T:max (AD p.aE i) lo<min (AD p.aE (i+1)) hi->wrap .i64 (min (AD p.aE (i+1)) hi-max (AD p.aE i) lo)=min (AD p.aE (i+1)) hi-max (AD p.aE i) lo:=λ_=>Ae (by omega);have Y:max (AD p.aE i) lo<min (AD p.aE (i+1)) hi->0<=min (AD p.aE (i+1)) hi-max (AD p.aE i) lo/\min (AD p.aE (i+1)) hi-max (AD p.aE i) lo<=268435456:=λ_=>by omega
 have U:i≠0->wrap .i64 ((i:Int)-1)=((i-1:Nat):Int)/\((0:Int)<=((i-1:Nat):Int)/\((i-1:Nat):Int)<(p.aE.length:Int))/\nth [] (p.aE.map Av) (i-1)=Av (sgA p.aE (i-1))/\Fj p.start p.aE i=(sgA p.aE (i-1)).to:=by
  intro h0;refine⟨by rw[Ae (by omega)];omega,by omega,Ls (by omega),?_⟩;obtain⟨q,rfl⟩:∃q,i=q+1:=⟨i-1,by omega⟩;exact T6 (by omega)
 unfold Io;rw[Q8v];rcases E with⟨rfl,rfl⟩|⟨rfl,ei⟩
 ·simp only[go_sem,af,SQ,aj,hr,hb,aa S,aa L,Ow,KD,hw,e1];rw[ab (by omega)];by_cases c:max (AD p.aE i) lo<min (AD p.aE (i+1)) hi
  ·rw[ab (by omega),aa c,T c];by_cases V:i=0
   ·rw[ab (by omega)];have D:=X (a:=p.start) (b:=(sgA p.aE i).to) (s:=max (AD p.aE i) lo) (Y c);subst V;rw[K1];rw[ab (by omega),D];simp only[Gr,go_sem];rfl
   ·obtain⟨k1,k2,k3,k4⟩:=U V;rw[aa (by omega),k1];have D:=X (a:=(sgA p.aE (i-1)).to) (b:=(sgA p.aE i).to) (s:=max (AD p.aE i) lo) (Y c);rw[k4];simp only[aj,k3,go_sem,aa k2];rw[ab (by omega),D];simp only[Gr,go_sem];rfl
  ·rw[aa (by omega),ab c]
 ·rw[<-ei]at hI;simp only[go_sem,af,SQ,hI,aj,hr,hb,aa S,aa L,Ow,KD,hw,e1];rw[aa (by omega)];by_cases c:max (AD p.aE i) lo<min (AD p.aE (i+1)) hi
  ·rw[ab (by omega),aa c,T c];by_cases V:i=0
   ·rw[ab (by omega)];have D:=X (a:=p.start) (b:=(sgA p.aE i).to) (s:=min (AD p.aE (i+1)) hi) (Y c);subst V;rw[K1];rw[aa (by omega),D];simp only[Gr,go_sem];rfl
   ·obtain⟨k1,k2,k3,k4⟩:=U V;rw[aa (by omega),k1];have D:=X (a:=(sgA p.aE (i-1)).to) (b:=(sgA p.aE i).to) (s:=min (AD p.aE (i+1)) hi) (Y c);rw[k4];simp only[aj,k3,go_sem,aa k2];rw[aa (by omega),D];simp only[Gr,go_sem];rfl
  ·rw[aa (by omega),ab c]
def pcA (l:List Pce) (i:Nat):Pce:=l.getD i pc0
def eI (l:List Pce) (i:Nat):Int:=(pcA l i).at_+(pcA l i).units
def fI:List Pce->Int->Nat
 |[],_=>0
 |c::l,u=>if u<=c.at_+c.units then 0 else fI l u+1
theorem FJ (c:Pce) (l:List Pce) (i:Nat):pcA (c::l) (i+1)=pcA l i:=by unfold pcA;simp
theorem Iw (c:Pce) (l:List Pce):pcA (c::l) 0=c:=by unfold pcA;simp
theorem OA {l:List Pce} {i:Nat} (h:i<l.length):nth [] (l.map AI) i=AI (pcA l i):=by
 have e:pcA l i=l[i]:=by unfold pcA;simp[h]
 rw[e];exact IH _ _ _ _ h
theorem Uq:∀{l:List Pce} {u:Int} {j:Nat},j<l.length->u<=eI l j->fI l u<=j
 |c::l,u,0,_,h=>by
  unfold eI at h;rw[Iw]at h;unfold fI;rw[aa h];exact co _
 |c::l,u,j+1,E,h=>by
  unfold fI;by_cases D:u<=c.at_+c.units
  ·rw[aa D];omega
  ·rw[ab D];have:fI l u<=j:=Uq (by simpa using E) (by unfold eI at h⊢;rw[FJ]at h;exact h);omega
theorem Q4k:∀{l:List Pce} {u:Int},fI l u<l.length->u<=eI l (fI l u)
 |[],_,h=>by simp at h
 |c::l,u,h=>by
  unfold fI at h⊢;by_cases D:u<=c.at_+c.units
  ·rw[aa D];unfold eI;rw[Iw];exact D
  ·rw[ab D]at h⊢;have:=Q4k (l:=l) (u:=u) (by simpa using h);unfold eI at this⊢;rw[FJ];exact this
structure TQ (t : Trk) : Prop where
 count:t.aD.length<=10000000
 len:0<=t.length/\t.length<=900000000000000
 pos:∀i,i<t.aD.length->0<=(pcA t.aD i).at_/\1<=(pcA t.aD i).units/\eI t.aD i<=t.length
 mono:∀i j,i<=j->j<t.aD.length->eI t.aD i<=eI t.aD j
 last:t.aD≠[]->eI t.aD (t.aD.length-1)=t.length
 start:0<=t.start/\t.start<=263886834032640
 s:∀i,i<t.aD.length-> -900000000000000<=(pcA t.aD i).s/\(pcA t.aD i).s<=2000000000000000
 move:∀i,i<t.aD.length->(pcA t.aD i).move=0\/(pcA t.aD i).move=1\/(pcA t.aD i).move= -1
def clT (t:Trk) (u:Int):Int:=Bj u t.length
theorem K6 {t:Trk} (h:TQ t) (u:Int):0<=clT t u/\clT t u<=t.length:=by have:=h.len;unfold clT Bj;omega
def iT (t:Trk) (u:Int):Nat:=fI t.aD (clT t u)
theorem JQ {t:Trk} (h:TQ t) (u:Int) (D:t.aD≠[]):iT t u<t.aD.length:=by
 have G:0<t.aD.length:=by
  cases E:t.aD with
  |nil=>exact absurd E D
  |cons _ _=>simp
 have:=Uq (l:=t.aD) (u:=clT t u) (j:=t.aD.length-1) (by omega) (by rw[h.last D];exact(K6 h u).2);unfold iT;omega
def AE (t:Trk) (u:Int):Int:=if t.aD=[]then t.start else(pcA t.aD (iT t u)).s+(pcA t.aD (iT t u)).move*(clT t u-(pcA t.aD (iT t u)).at_)
def HK (t:Trk) (u:Int):Prop:=t.aD≠[]/\(pcA t.aD (iT t u)).move=0/\(pcA t.aD (iT t u)).at_<clT t u/\clT t u<eI t.aD (iT t u)
theorem Z_ {t:Trk} (h:TQ t) {u:Int} (D:fI t.aD u<t.aD.length):∀(k E D:Nat),D-E<=k->E<=fI t.aD u->fI t.aD u<=D->D<t.aD.length->
  Al SJ [I u,I E,I D, .view Aq (t.aD.map AI),I t.length,I t.start,I t.dirs.x,I t.dirs.y,I t.dirs.z]=some (1,[I (fI t.aD u)])
 |k,E,D,hk,S,T,U=>by
  have O:=h.count;have hl:=h.len;by_cases c:E<D
  ·have em:wrap .i64 ((wrap .i64 ((E:Int)+D)).tdiv 2)=(((E+D)/2:Nat):Int):=by
    rw[Ae (x:=(E:Int)+D) (by omega),bc (by omega),Ae (by omega)];omega
   have V:E<=(E+D)/2/\(E+D)/2<D:=by omega
   generalize(E+D)/2=m at*;have G:m<t.aD.length:=by omega
   have L:=h.pos m G;have N:(0:Int)<=(m:Int)/\(m:Int)<(t.aD.length:Int):=by omega
   have X:wrap .i64 ((pcA t.aD m).at_+(pcA t.aD m).units)=eI t.aD m:=by unfold eI at L⊢;exact Ae (by omega)
   have J:SJ [I u,I E,I D, .view Aq (t.aD.map AI),I t.length,I t.start,I t.dirs.x,I t.dirs.y,I t.dirs.z]=if u<=eI t.aD m then some (0,[I u,I E,I m, .view Aq (t.aD.map AI),I t.length,I t.start,I t.dirs.x,I t.dirs.y,I t.dirs.z])else some (0,[I u,I (m+1:Nat),I D, .view Aq (t.aD.map AI),I t.length,I t.start,I t.dirs.x,I t.dirs.y,I t.dirs.z]):=by
    rw[Qd5,em];simp only[go_sem,af,aj,OA G,aa N,X,Ae (x:=(m:Int)+1) (by omega)];rw[aa (by omega)];rfl
   by_cases M:u<=eI t.aD m
   ·rw[aa M]at J;rw[Bv J];cases k with
    |zero=>omega
    |succ k=>exact Z_ h (by omega) k E m (by omega) S (Uq G M) G
   ·rw[ab M]at J;rw[Bv J];have Y:m<fI t.aD u:=by
     by_cases c3:fI t.aD u<=m
     ·exact absurd (Int.le_trans (Q4k (by omega)) (h.mono _ _ c3 G)) M
     ·omega
    cases k with
    |zero=>omega
    |succ k=>exact Z_ h (by omega) k (m+1) D (by omega) (by omega) T U
  ·refine A7 (o:=(1,_)) ?_ (by simp);rw[Qd5,A_ (by omega),show fI t.aD u=D by omega]
theorem Qaq {t:Trk} (h:TQ t) (u:Int):He (A8 t++[I (clT t u)])=some [I (if t.aD=[]then-1 else(iT t u:Int))]:=by
 have he:=Z72 Nb (t.aD.map AI) t.length t.start t.dirs.x t.dirs.y t.dirs.z (clT t u);unfold He;refine Eq.trans he ?_;rw[af];have G:=h.count;by_cases c:t.aD=[]
 ·have D:Nb [I (clT t u),I 0,I (-1), .view Aq (t.aD.map AI),I t.length,I t.start,I t.dirs.x,I t.dirs.y,I t.dirs.z]=some (1,[I (-1)]):=by
   refine A7 (o:=(1,_)) ?_ (by simp);rw[Qd5,A_ (by omega)]
  have e1:wrap .i64 ((t.aD.length:Int)-1)= -1:=by rw[c];rfl
  rw[aa c,e1];generalize Nb=N at*;simp only[D,go_sem]
 ·have M:0<t.aD.length:=by
   cases L:t.aD with
   |nil=>exact absurd L c
   |cons _ _=>simp
  have J:=JQ h u c;have D:=Z_ h (u:=clT t u) J t.aD.length 0 (t.aD.length-1) (by omega) (by omega) (by unfold iT at J;omega) (by omega);have E:Nb [I (clT t u),I 0,I (t.aD.length-1:Nat), .view Aq (t.aD.map AI),I t.length,I t.start,I t.dirs.x,I t.dirs.y,I t.dirs.z]=some (1,[I (iT t u:Int)]):=D;have e1:wrap .i64 ((t.aD.length:Int)-1)=((t.aD.length-1:Nat):Int):=by rw[Ae (by omega)];omega
  rw[ab c,e1];generalize Nb=N at*;simp only[E,go_sem]
theorem Zuc {t:Trk} (h:TQ t) (u:Int) (D:t.aD≠[]):
  wrap .i64 ((pcA t.aD (iT t u)).s+wrap .i64 ((pcA t.aD (iT t u)).move*wrap .i64 (clT t u-(pcA t.aD (iT t u)).at_)))=AE t u:=by
 have G:=JQ h u D;have I:=h.pos _ G;have J:=h.s _ G;have E:=h.move _ G;have L:=K6 h u;have M:=h.len;unfold AE eI at*;rw[ab D,Ae (x:=clT t u-_) (by omega)];generalize pcA t.aD (iT t u)=c at*;have hb:(-900000000000000<=c.move*(clT t u-c.at_)/\c.move*(clT t u-c.at_)<=900000000000000):=by
  rcases E with E|E|E<;>rw[E]<;>omega
 rw[Ae (x:=c.move*_) (by omega),Ae (by omega)]
theorem Zfg {E G:Fn} {t:Trk} (h:TQ t) {u:Int} (L:G [I u,I t.length]=some [I (clT t u)]) (D:E (A8 t++[I (clT t u)])=some [I (if t.aD=[]then-1 else(iT t u:Int))]):Qml E G (A8 t++[I u])=some [I (AE t u)]:=by
 have he:=Zsm E G (t.aD.map AI) t.length t.start t.dirs.x t.dirs.y t.dirs.z u;refine Eq.trans he ?_;simp only[A8,aq,ay]at D;by_cases c:t.aD=[]
 ·rw[aa c]at D;simp only[L,D,go_sem];rw[aa (by omega)];unfold AE;rw[aa c]
 ·have N:=JQ h u c;have M:=h.count;have J:(0:Int)<=(iT t u:Int)/\(iT t u:Int)<(t.aD.length:Int):=by omega
  rw[ab c]at D;simp only[L,D,go_sem,af,aa J,aj,OA N,Zuc h u c];rw[ab (by omega)]
theorem RO {t:Trk} (h:TQ t) (u:Int):En (A8 t++[I u])=some [I (AE t u)]:=Zfg h RV (Qaq h u)
theorem Z1r {M N:Fn} {t:Trk} (h:TQ t) {u:Int} (S:N [I u,I t.length]=some [I (clT t u)]) (D:M (A8 t++[I (clT t u)])=some [I (if t.aD=[]then-1 else(iT t u:Int))]):Qeo M N (A8 t++[I u])=some [B (decide (HK t u))]:=by
 have he:=Zpe M N (t.aD.map AI) t.length t.start t.dirs.x t.dirs.y t.dirs.z u;refine Eq.trans he ?_;simp only[A8,aq,ay]at D;by_cases c:t.aD=[]
 ·rw[aa c]at D;simp only[S,D,go_sem];rw[aa (by omega),am λg=>g.1 c]
 ·have T:=JQ h u c;have U:=h.count;have E:=h.pos _ T;have X:=h.len;have O:(0:Int)<=(iT t u:Int)/\(iT t u:Int)<(t.aD.length:Int):=by omega
  have V:wrap .i64 ((pcA t.aD (iT t u)).at_+(pcA t.aD (iT t u)).units)=eI t.aD (iT t u):=by unfold eI at E⊢;exact Ae (by omega)
  rw[ab c]at D;simp only[S,D,go_sem,af,aa O,aj,OA T,V];rw[ab (by omega)];by_cases G:(pcA t.aD (iT t u)).move=0
  ·by_cases J:(pcA t.aD (iT t u)).at_<clT t u
   ·rw[aa G,aa J];by_cases L:clT t u<eI t.aD (iT t u)
    ·rw[al L,al (show HK t u from⟨c,G,J,L⟩)]
    ·rw[am L,am (show¬HK t u from λg=>L g.2.2.2)]
   ·rw[aa G,ab J,am (show¬HK t u from λg=>J g.2.2.1)]
  ·rw[ab G,am (show¬HK t u from λg=>G g.2.1)]
theorem Zuj {t:Trk} (h:TQ t) (u:Int):Qr (A8 t++[I u])=some [B (decide (HK t u))]:=Z1r h RV (Qaq h u)
def Iq (sp:Int) (l:List Int):Prop:=(∀v∈l,-4096<=v/\v<=4096)/\∀i,i+1<l.length-> -sp<=4*(l.getD (i+1) 0-l.getD i 0)/\4*(l.getD (i+1) 0-l.getD i 0)<=sp
structure AxOK (a : Axs) : Prop where
 step:4<=a.step/\a.step<=64
 back:0<=a.back/\a.back<=6
 origin: -200<=a.origin/\a.origin<=200
 spacing:a.pitch≠[]->4<=a.spacing/\a.spacing<=123
 pitch:Iq a.spacing a.pitch
 count:a.pitch.length<=4
 lim:1<=a.speed/\a.speed<=1000/\2<=a.accel/\a.accel<=1000/\4<=a.jerk/\a.jerk<=1000/\a.low= -16777216/\a.high=16777216
theorem Su {l m:List Int} {i:Nat} (h:i<l.length):(l++m).getD i 0=l.getD i 0:=by simp[List.getD_eq_getElem?_getD,List.getElem?_append_left h]
theorem Znx (l m:List Int) (v:Int):(l++v::m).getD l.length 0=v:=by simp[List.getD_eq_getElem?_getD]
theorem Zxw {sp v w:Int} {l:List Int} (h:Iq sp (l++[v])) (E: -4096<=w/\w<=4096) (G: -sp<=4*(w-v)/\4*(w-v)<=sp):Iq sp (l++[v]++[w]):=by
 refine⟨?_,?_⟩
 ·intro x D;rcases bn.1 D with D|D
  ·exact h.1 x D
  ·rw[dg]at D;subst D;exact E
 ·intro i I;simp only[ao,bh,cx]at I;by_cases c:i+1<(l++[v]).length
  ·have:=h.2 i c;have c':i<(l++[v]).length:=by omega
   rw[Su c,Su c'];exact this
  ·simp only[ao,bh,cx]at c;have e:i=l.length:=by omega
   subst e;have g1:(l++[v]++[w]).getD (l.length+1) 0=w:=by
    simp
   have g2:(l++[v]++[w]).getD l.length 0=v:=by
    rw[List.append_assoc];exact Znx l ([]++[w]) v
   rw[g1,g2];exact G
theorem Zzb {sp v:Int} {l:List Int} (h:Iq sp (l++[v])):Iq sp l:=by
 refine⟨λx D=>h.1 x (by simp[D]),λi E=> ?_⟩;have:=h.2 i (by simp;omega);rw[Su E,Su (by omega)]at this;exact this
theorem Zp9 {sp v:Int} (E: -4096<=v/\v<=4096):Iq sp ([]++[v]):=⟨λx D=>by simp at D;subst D;exact E,λi G=>by simp at G⟩
theorem Z2i {v:Int} (h:0<=v/\v<6):∃x,Af (nth .dead (nth [] [[I 8],[I 4],[I 5],[I 16],[I 23],[I 64]] v.toNat) 0)=x/\4<=x/\x<=64:=by
 have D:v=0\/v=1\/v=2\/v=3\/v=4\/v=5:=by omega
 rcases D with rfl|rfl|rfl|rfl|rfl|rfl<;>exact⟨_,rfl,by decide⟩
theorem Qm6 {v:Int} (h:0<=v/\v<5):∃x y z,Af (nth .dead (nth [] [[I 40],[I 1],[I 3],[I 9],[I 1000]] v.toNat) 0)=x/\Af (nth .dead (nth [] [[I 20],[I 2],[I 3],[I 5],[I 1000]] v.toNat) 0)=y/\Af (nth .dead (nth [] [[I 30],[I 4],[I 5],[I 8],[I 1000]] v.toNat) 0)=z/\1<=x/\x<=1000/\2<=y/\y<=1000/\4<=z/\z<=1000:=by
 have D:v=0\/v=1\/v=2\/v=3\/v=4:=by omega
 rcases D with rfl|rfl|rfl|rfl|rfl<;>exact⟨_,_,_,rfl,rfl,rfl,by decide⟩
theorem Zu7 {v:Int} (h:0<=v/\v<4):∃x,Af (nth .dead (nth [] [[I 0],[I 1],[I 3],[I 6]] v.toNat) 0)=x/\0<=x/\x<=6:=by
 have D:v=0\/v=1\/v=2\/v=3:=by omega
 rcases D with rfl|rfl|rfl|rfl<;>exact⟨_,rfl,by decide⟩
abbrev axS (l:Rw) (D:List Int) (n v:Int) (j:Nat) (a:Axs) (k:Nat):List AC:=
 [.view Aa [], .view Aa (D.map Ao),I n,I v,I j,I 0,I 0,I 0,I 0,I 0,I 0,I 0,I 0,I 0,I a.step,I a.speed,I a.accel,I a.jerk,I a.low,I a.high,I a.back,I a.origin,I a.spacing, .view Aa l,I k]
theorem Zcz {MN:Fn} {l:Rw} (L:Hf l MN) {a:Axs} (G:4<=a.spacing/\a.spacing<=123):∀(r j:Nat) (D:List Int) (v:Int) (k:Nat),j+r<=4->D.length=j->Iq a.spacing (D++[v])->
  ∃(E:List Int) (k':Nat),Al (R9 MN) (axS l D (j+r:Nat) v j a k)=some (1,[.view Aa [], .view Aa (E.map Ao),I 0,I 0,I 0,I 0,I 0,I 0,I 0,I 0,I 0,I a.step,I a.speed,I a.accel,I a.jerk,I a.low,I a.high,I a.back,I a.origin,I a.spacing, .view Aa l,I k'])/\E.length=j+r/\Iq a.spacing E
 |0,j,D,v,k,_,M,h=>by
  refine⟨D,k,A7 (o:=(1,_)) ?_ (by simp),by omega,Zzb h⟩;rw[Q7l,A_ (by omega)]
 |r+1,j,D,v,k,hj,M,h=>by
  have hv:=h.1 v (by simp);have O:wrap .i64 (a.spacing.tdiv 4)=a.spacing/4:=by rw[bc (by omega),Ae (by omega)]
  have S:wrap .i64 (wrap .i64 (2*(a.spacing/4))+1)=2*(a.spacing/4)+1:=by rw[Ae (x:=2*(a.spacing/4)) (by omega),Ae (by omega)]
  obtain⟨w,N,T,w0,w1,-⟩:=L k (n:=2*(a.spacing/4)+1) (by omega);have U:wrap .i64 (wrap .i64 (v+w)-a.spacing/4)=v+w-a.spacing/4:=by rw[Ae (x:=v+w) (by omega),Ae (by omega)]
  have hle:(D.map Ao++[[I v]]).length*8<=140737488355328:=by rw[ao,af];simp only[bh,cx];omega
  have J:R9 MN (axS l D (j+(r+1):Nat) v j a k)=some (0,axS l (D++[v]) (j+1+r:Nat) (min (max (v+w-a.spacing/4) (-4096)) 4096) (j+1) a N):=by
   rw[Q7l];simp only[go_sem,aa hle,O,S,T,U,KD,Ow];rw[aa (by omega),Ae (x:=(j:Int)+1) (by omega),show j+(r+1)=j+1+r by omega];simp only[axS,bz,bj,dh,Ao,Int.natCast_add,Int.cast_ofNat_Int]
  rw[Bv J];obtain⟨V,k',X,h2,Y⟩:=Zcz L G r (j+1) (D++[v]) (min (max (v+w-a.spacing/4) (-4096)) 4096) N (by omega) (by simp[M]) (Zxw h (by omega) (by omega));exact⟨V,k',X,by omega,Y⟩
theorem Zlg {MN:Fn} {N:Lp} {l:Rw} (E:Hf l MN)
  (hL:∀{a:Axs} {n:Nat} {v:Int} {k:Nat},(4<=a.spacing/\a.spacing<=123)->n<=4->Iq a.spacing ([]++[v])->∃(D:List Int) (k':Nat),N (axS l [] n v 0 a k)=some (1,[.view Aa [], .view Aa (D.map Ao),I 0,I 0,I 0,I 0,I 0,I 0,I 0,I 0,I 0,I a.step,I a.speed,I a.accel,I a.jerk,I a.low,I a.high,I a.back,I a.origin,I a.spacing, .view Aa l,I k'])/\D.length=n/\Iq a.spacing D) (k:Nat):
  ∃(a:Axs) (k':Nat),VJ MN N [.view Aa l,I k]=some (Bz a++[.view Aa l,I k'])/\AxOK a:=by
 obtain⟨v1,k1,h1,a1,b1,-⟩:=E k (n:=6) (by omega);obtain⟨v2,k2,h2,a2,b2,-⟩:=E k1 (n:=4) (by omega);obtain⟨v3,k3,h3,a3,b3,-⟩:=E k2 (n:=5) (by omega);obtain⟨v4,k4,h4,a4,b4,-⟩:=E k3 (n:=5) (by omega);obtain⟨v5,k5,h5,a5,b5,-⟩:=E k4 (n:=5) (by omega);obtain⟨G,X,h6,a6,b6,-⟩:=E k5 (n:=5) (by omega);obtain⟨U,k7,h7,a7,b7,-⟩:=E X (n:=400) (by omega);obtain⟨V,k8,h8,a8,b8,-⟩:=E k7 (n:=120) (by omega);obtain⟨Y,k9,h9,a9,b9,-⟩:=E k8 (n:=9) (by omega);obtain⟨J,e1,s1⟩:=Z2i ⟨a1,b1⟩;obtain⟨L,e2,s2⟩:=Zu7 ⟨a2,b2⟩;have i1:(0:Int)<=v1/\v1<(([[I 8],[I 4],[I 5],[I 16],[I 23],[I 64]]:Rw).length:Int):=⟨a1,by simp;omega⟩;have i2:(0:Int)<=v2/\v2<(([[I 0],[I 1],[I 3],[I 6]]:Rw).length:Int):=⟨a2,by simp;omega⟩;have i3:(0:Int)<=v3/\v3<(([[I 40],[I 1],[I 3],[I 9],[I 1000]]:Rw).length:Int):=⟨a3,by simp;omega⟩;have i4:(0:Int)<=v4/\v4<(([[I 20],[I 2],[I 3],[I 5],[I 1000]]:Rw).length:Int):=⟨a4,by simp;omega⟩;have i5:(0:Int)<=v5/\v5<(([[I 30],[I 4],[I 5],[I 8],[I 1000]]:Rw).length:Int):=⟨a5,by simp;omega⟩;obtain⟨M,_,_,a0,-,-,s3,t3,-⟩:=Qm6 ⟨a3,b3⟩;obtain⟨_,O,_,-,b0,-,-,-,s4,t4,-⟩:=Qm6 ⟨a4,b4⟩;obtain⟨_,_,S,-,-,c0,-,-,-,-,s5,t5⟩:=Qm6 ⟨a5,b5⟩;have main : ∀ R, R = (if G = 0 then some [I J, I M, I O, I S, I (-16777216), I 16777216, I L, I 0, I 0, .view Aa [], .view Aa l, I X] else
   (N (axS l [] G.toNat (Y-4) 0 ⟨J,M,O,S,-16777216,16777216,L,U-200,4+V,[]⟩ k9)).bind λo=>if o.1=1 then some [I (Af (nth .dead o.2 11)),I (Af (nth .dead o.2 12)),I (Af (nth .dead o.2 13)),I (Af (nth .dead o.2 14)),I (Af (nth .dead o.2 15)),I (Af (nth .dead o.2 16)),I (Af (nth .dead o.2 17)),I (Af (nth .dead o.2 18)),I (Af (nth .dead o.2 19)), .view Aa (BZ (nth .dead o.2 1)), .view Aa (BZ (nth .dead o.2 20)),I (Af (nth .dead o.2 21))]else none)->
   ∃(a:Axs) (k':Nat),R=some (Bz a++[.view Aa l,I k'])/\AxOK a:=by
  intro R T;by_cases c:G=0
  ·rw[aa c]at T;refine⟨⟨J,M,O,S,-16777216,16777216,L,0,0,[]⟩,X,T,?_⟩;exact⟨s1,s2,by simp,λh=>absurd rfl h,⟨by simp,by simp⟩,by simp,⟨s3,t3,s4,t4,s5,t5,rfl,rfl⟩⟩
  ·rw[ab c]at T;obtain⟨c1,k',g1,g2,g3⟩:=hL (a:=⟨J,M,O,S,-16777216,16777216,L,U-200,4+V,[]⟩) (n:=G.toNat) (v:=Y-4) (k:=k9) (by simp only;omega) (by omega) (Zp9 (by omega));rw[g1]at T;refine⟨⟨J,M,O,S,-16777216,16777216,L,U-200,4+V,c1⟩,k',?_,?_⟩
   ·rw[T];simp only[go_sem];try rfl
   ·exact⟨s1,s2,by simp only;omega,λ_=>by simp only;omega,g3,by simp only;omega,⟨s3,t3,s4,t4,s5,t5,rfl,rfl⟩⟩
 refine main _ ?_;rw[Zgq];simp only[go_sem,h1,h2,h3,h4,h5,h6,aa i1,aa i2,aa i3,aa i4,aa i5,e1,e2,a0,b0,c0];by_cases c:G=0
 ·rw[aa c,aa c]
 ·rw[ab c,ab c];simp only[h7,h8,h9,go_sem,Ae (x:=Y-4) (by omega),Ae (x:=U-200) (by omega),Ae (x:=4+V) (by omega)];have e:((G.toNat:Nat):Int)=G:=by omega
  simp only[axS,e,dh];rfl
theorem Qrw {l:Rw} (D:Src l) (k:Nat):∃(a:Axs) (k':Nat),NA [.view Aa l,I k]=some (Bz a++[.view Aa l,I k'])/\AxOK a:=by
 refine Zlg (N:=Qpv) (HL D) (fun{a n v k} J O L=> ?_) k;obtain⟨p,k',E,G,M⟩:=Zcz (MN:=BP) (HL D) J n 0 [] v k (by omega) rfl L;rw[Nat.zero_add]at E G;exact⟨p,k',E,G,M⟩
structure Ax3M (x : Ax3) : Prop where
 a:AxOK x.a
 b:AxOK x.b
 c:AxOK x.c
theorem Ax3M.ok {x:Ax3} (h:Ax3M x):Ax3OK x:=⟨by have:=h.a.back;omega,by have:=h.b.back;omega,by have:=h.c.back;omega⟩
theorem Zyw {l:Rw} (E:Src l):∃x:Ax3,OJ [.view Aa l]=some (AM x)/\Ax3M x:=by
 obtain⟨a,G,M,g1⟩:=Qrw E 0;obtain⟨b,N,J,g2⟩:=Qrw E G;obtain⟨c,T,L,O⟩:=Qrw E N;refine⟨⟨a,b,c⟩,?_,g1,g2,O⟩;have hf:=QF l;unfold OJ;generalize NA=S at*;generalize CW=U at*;rw[Z76];have D:S [.view Aa l,I 0]=some (Bz a++[.view Aa l,I G]):=M;simp only[Bz,aq,ay]at D J L;simp only[go_sem,hf,D,J,L]
theorem Z0b {p:Pth} {x:Ax3} {mv lo hi f:Int} {d:Pt} (j:Nat):(Cj p x mv lo hi (⟨[],0,f,d⟩,d) j).1.start=f/\(Cj p x mv lo hi (⟨[],0,f,d⟩,d) j).1.dirs=d:=by
 induction j with
 |zero=>exact⟨rfl,rfl⟩
 |succ j D=>rw[Cj,(Q84 _).1,(Q84 _).2];exact D
theorem Zbf {p:Pth} {x:Ax3} {D E mv f:Int} {d:Pt} (L:mv=1\/mv= -1) (G:GoodPath p) (I:Ax3OK x):∀(k j:Nat),j+k=p.aE.length->∀w,w=Cj p x mv D E (⟨[],0,f,d⟩,d) j->
  Al (UT Gk OU) (PN p x D E mv w.1 w.2 j)=some (1,Gr x mv (Cj p x mv D E (⟨[],0,f,d⟩,d) p.aE.length).1 (Cj p x mv D E (⟨[],0,f,d⟩,d) p.aE.length).2)
 |0,j,T,w,J=>by
  have M:j=p.aE.length:=by omega
  refine A7 (o:=(1,_)) ?_ (by simp);rw[Q8v,A_ (by omega),J,M]
 |k+1,j,T,w,J=>by
  have S:=G.count;have hb:=YM (mv:=mv) (lo:=D) (hi:=E) (f:=f) (d:=d) I G.ok j (by omega);rw[<-J]at hb;have O:=Zyv (MV:=Gk) (N:=OU) (lo:=D) (hi:=E) (now:=w.2) (j:=j) L G I hb (by omega) (by omega) (by omega) (fun{a b s units} U=>Zve L I hb (by omega) (by omega) (k:=268435456) (by omega) U);rw[Bv O];exact Zbf L G I k (j+1) (by omega) _ (by rw[Cj,<-J])
theorem Zeg {MV:Fn} {N4 N10:Lp} {p:Pth} {x:Ax3} {D E mv f:Int} {d:Pt}
  (J:N4 (Q_ p x D E mv ⟨[],0,f,d⟩ d 0 [] 0)=some (1,[.view Aa (FV p.aE p.aE.length), .view Aq [],I D,I E,I mv,I p.start.x,I p.start.y,I p.start.z, .view Ah (p.aE.map Av), .view AJ (p.aC.map At),I d.x,I d.y,I d.z,I mv,I x.a.step,I x.a.speed,I x.a.accel,I x.a.jerk,I x.a.low,I x.a.high,I x.a.back,I x.a.origin,I x.a.spacing, .view Aa (x.a.pitch.map Ao),I x.b.step,I x.b.speed,I x.b.accel,I x.b.jerk,I x.b.low,I x.b.high,I x.b.back,I x.b.origin,I x.b.spacing, .view Aa (x.b.pitch.map Ao),I x.c.step,I x.c.speed,I x.c.accel,I x.c.jerk,I x.c.low,I x.c.high,I x.c.back,I x.c.origin,I x.c.spacing, .view Aa (x.c.pitch.map Ao),I 0,I f,I d.x,I d.y,I d.z]))
  (G:N10 (PN p x D E mv ⟨[],0,f,d⟩ d 0)=some (1,Gr x mv (Cj p x mv D E (⟨[],0,f,d⟩,d) p.aE.length).1 (Cj p x mv D E (⟨[],0,f,d⟩,d) p.aE.length).2)):
  Qdw MV N4 N10 [.view Aq [],I p.start.x,I p.start.y,I p.start.z, .view Ah (p.aE.map Av), .view AJ (p.aC.map At),I D,I E,I mv,I d.x,I d.y,I d.z,I mv,I x.a.step,I x.a.speed,I x.a.accel,I x.a.jerk,I x.a.low,I x.a.high,I x.a.back,I x.a.origin,I x.a.spacing, .view Aa (x.a.pitch.map Ao),I x.b.step,I x.b.speed,I x.b.accel,I x.b.jerk,I x.b.low,I x.b.high,I x.b.back,I x.b.origin,I x.b.spacing, .view Aa (x.b.pitch.map Ao),I x.c.step,I x.c.speed,I x.c.accel,I x.c.jerk,I x.c.low,I x.c.high,I x.c.back,I x.c.origin,I x.c.spacing, .view Aa (x.c.pitch.map Ao),I 0,I f,I d.x,I d.y,I d.z]=some (Gr x mv (Cj p x mv D E (⟨[],0,f,d⟩,d) p.aE.length).1 (Cj p x mv D E (⟨[],0,f,d⟩,d) p.aE.length).2):=by
 rw[Zqy];simp only[Q_,dh,Int.cast_ofNat_Int]at J;simp only[PN,Gr,dh,Int.cast_ofNat_Int]at G;simp only[go_sem,af,J,G]
theorem Zff {p:Pth} {x:Ax3} {D E mv f:Int} {d:Pt} (J:mv=1\/mv= -1) (G:GoodPath p) (L:Ax3OK x):
  PY [.view Aq [],I p.start.x,I p.start.y,I p.start.z, .view Ah (p.aE.map Av), .view AJ (p.aC.map At),I D,I E,I mv,I d.x,I d.y,I d.z,I mv,I x.a.step,I x.a.speed,I x.a.accel,I x.a.jerk,I x.a.low,I x.a.high,I x.a.back,I x.a.origin,I x.a.spacing, .view Aa (x.a.pitch.map Ao),I x.b.step,I x.b.speed,I x.b.accel,I x.b.jerk,I x.b.low,I x.b.high,I x.b.back,I x.b.origin,I x.b.spacing, .view Aa (x.b.pitch.map Ao),I x.c.step,I x.c.speed,I x.c.accel,I x.c.jerk,I x.c.low,I x.c.high,I x.c.back,I x.c.origin,I x.c.spacing, .view Aa (x.c.pitch.map Ao),I 0,I f,I d.x,I d.y,I d.z]=some (Gr x mv (Cj p x mv D E (⟨[],0,f,d⟩,d) p.aE.length).1 (Cj p x mv D E (⟨[],0,f,d⟩,d) p.aE.length).2):=by
 refine Zeg (MV:=Gk) (N4:=OU) (N10:=Qge) ?_ (Zbf J G L p.aE.length 0 (by omega) _ rfl);have h:=Q3r (M:=Gk) (x:=x) (lo:=D) (hi:=E) (mv:=mv) (t:=⟨[],0,f,d⟩) (now:=d) G.ok p.aE.length 0 (by omega);rw[Ts]at h;exact h
theorem Z7n {D J L E G:Fn} {p:Pth} {x:Ax3} {d:Pt} {from_ to:Int} (M:G (Br p)=some [I (Ay p.aE)]) (O:∀n h:Int,E [I n,I h]=some [I (Bj n h)])
  (N:∀{lo hi mv f:Int},(mv=1\/mv= -1)->D [.view Aq [],I p.start.x,I p.start.y,I p.start.z, .view Ah (p.aE.map Av), .view AJ (p.aC.map At),I lo,I hi,I mv,I d.x,I d.y,I d.z,I mv,I x.a.step,I x.a.speed,I x.a.accel,I x.a.jerk,I x.a.low,I x.a.high,I x.a.back,I x.a.origin,I x.a.spacing, .view Aa (x.a.pitch.map Ao),I x.b.step,I x.b.speed,I x.b.accel,I x.b.jerk,I x.b.low,I x.b.high,I x.b.back,I x.b.origin,I x.b.spacing, .view Aa (x.b.pitch.map Ao),I x.c.step,I x.c.speed,I x.c.accel,I x.c.jerk,I x.c.low,I x.c.high,I x.c.back,I x.c.origin,I x.c.spacing, .view Aa (x.c.pitch.map Ao),I 0,I f,I d.x,I d.y,I d.z]=some (Gr x mv (Cj p x mv lo hi (⟨[],0,f,d⟩,d) p.aE.length).1 (Cj p x mv lo hi (⟨[],0,f,d⟩,d) p.aE.length).2)):
  Qgs D J L E G (Br p++AM x++[I d.x,I d.y,I d.z,I from_,I to])=some (A8 (AR p x d from_ to)):=by
 have he:=Zhy D J L E G p.start.x p.start.y p.start.z (p.aE.map Av) (p.aC.map At) x.a.step x.a.speed x.a.accel x.a.jerk x.a.low x.a.high x.a.back x.a.origin x.a.spacing (x.a.pitch.map Ao) x.b.step x.b.speed x.b.accel x.b.jerk x.b.low x.b.high x.b.back x.b.origin x.b.spacing (x.b.pitch.map Ao) x.c.step x.c.speed x.c.accel x.c.jerk x.c.low x.c.high x.c.back x.c.origin x.c.spacing (x.c.pitch.map Ao) d.x d.y d.z from_ to;refine Eq.trans he ?_;unfold AR;simp only[Br]at M;simp only[M,O,go_sem,KD,Ow];generalize Bj from_ (Ay p.aE)=f at*;generalize Bj to (Ay p.aE)=t at*;by_cases c:t<f
 ·have h:=N (lo:=min f t) (hi:=max f t) (mv:= -1) (f:=f) (.inr rfl);simp only[Gr]at h;simp only[h,go_sem,c,if_true]
 ·have h:=N (lo:=min f t) (hi:=max f t) (mv:=1) (f:=f) (.inl rfl);simp only[Gr]at h;simp only[h,go_sem,c,if_false]
theorem Q8s {p:Pth} {x:Ax3} {d:Pt} {from_ to:Int} (D:GoodPath p) (E:Ax3OK x):J9 (Br p++AM x++[I d.x,I d.y,I d.z,I from_,I to])=some (A8 (AR p x d from_ to)):=
 Z7n (Q78 D.ok) (λ_ _=>RV) λG=>Zff G D E
def O4 (t:Trk):Pt:=if t.aD=[]then t.dirs else(Be t.aD).dirs
theorem Z9q {p:Pth} {x:Ax3} (d:Pt) (a b:Int) (D:GoodPath p) (E:Ax3OK x):(AR p x d a b).aD.length<=10000000/\0<=(AR p x d a b).length/\(AR p x d a b).length<=900000000000000:=by
 have G:=D.count;have h:=YM (mv:=if Bj a (Ay p.aE)>Bj b (Ay p.aE)then-1 else 1) (lo:=min (Bj a (Ay p.aE)) (Bj b (Ay p.aE))) (hi:=max (Bj a (Ay p.aE)) (Bj b (Ay p.aE))) (f:=Bj a (Ay p.aE)) (d:=d) E D.ok p.aE.length (co _);obtain⟨I,J,-⟩:=h;unfold AR;simp only;refine⟨by omega,by omega,by omega⟩
theorem R6 {x:Ax3} {mv:Int} {Q:Int->Pt->Prop}:∀{a s:Int} {d:Pt} {l:List Pce},DD x mv Q a s d l->a<=BK a l
 |a,_,_,[],_=>cd _
 |a,s,d,c::l,h=>by
  obtain⟨-,-,E,-,D⟩:=h;have:=R6 D;unfold BK;omega
theorem RC {x:Ax3} {mv:Int} {Q:Int->Pt->Prop} (G:mv=1\/mv= -1):∀{a s:Int} {d:Pt} {l:List Pce},DD x mv Q a s d l->∀i,i<l.length->
  a<=(pcA l i).at_/\1<=(pcA l i).units/\eI l i<=BK a l/\(s-((pcA l i).at_-a)<=(pcA l i).s/\(pcA l i).s<=s+((pcA l i).at_-a))/\((pcA l i).move=0\/(pcA l i).move=mv)
 |a,s,d,c::l,h,0,_=>by
  obtain⟨L,M,I,D,E⟩:=h;have:=R6 E;unfold eI;rw[Iw];refine⟨by omega,I,by unfold BK;omega,by omega,?_⟩;rcases D with D|D
  ·exact .inr D.1
  ·exact .inl D.1
 |a,s,d,c::l,h,i+1,N=>by
  obtain⟨L,M,I,D,E⟩:=h;have J:=RC G E i (by simpa using N);unfold eI at J⊢;rw[FJ];obtain⟨g1,g2,O,T,S⟩:=J;have U:c.move*c.units=0\/c.move*c.units=c.units\/c.move*c.units= -c.units:=by
   rcases D with D|D
   ·rw[D.1];rcases G with rfl|rfl<;>omega
   ·rw[D.1];omega
  refine⟨by omega,g2,by unfold BK;exact O,by omega,S⟩
theorem Q2l {x:Ax3} {mv:Int} {Q:Int->Pt->Prop} (I:mv=1\/mv= -1):∀{a s:Int} {d:Pt} {l:List Pce},DD x mv Q a s d l->∀i j,i<=j->j<l.length->eI l i<=eI l j
 |a,s,d,c::l,h,0,0,_,_=>cd _
 |a,s,d,c::l,h,0,j+1,_,D=>by
  obtain⟨J,L,M,N,E⟩:=h;have:=RC I E j (by simpa using D);unfold eI at*;rw[Iw,FJ];omega
 |a,s,d,c::l,h,i+1,0,G,_=>by omega
 |a,s,d,c::l,h,i+1,j+1,G,D=>by
  obtain⟨J,L,M,N,E⟩:=h;have:=Q2l I E i j (by omega) (by simpa using D);unfold eI at*;rw[FJ,FJ];exact this
theorem Qsr {x:Ax3} {mv:Int} {Q:Int->Pt->Prop}:∀{a s:Int} {d:Pt} {l:List Pce},DD x mv Q a s d l->l≠[]->eI l (l.length-1)=BK a l
 |a,s,d,[c],h,_=>by
  obtain⟨E,-⟩:=h;show eI [c] 0=BK a [c];unfold eI;rw[Iw];simp only[BK];omega
 |a,s,d,c::e::l,h,_=>by
  obtain⟨-,-,-,-,D⟩:=h;have:=Qsr D (by simp);have e1:(c::e::l).length-1=((e::l).length-1)+1:=by simp
  rw[e1];unfold eI at*;rw[FJ,this];rfl
def mvP (p:Pth) (a b:Int):Int:=if Bj a (Ay p.aE)>Bj b (Ay p.aE)then-1 else 1
theorem UQ (p:Pth) (a b:Int):mvP p a b=1\/mvP p a b= -1:=by unfold mvP;split<;>simp
theorem OQ {p:Pth} {x:Ax3} {d:Pt} {a b:Int} {Q:Int->Pt->Prop} (G:Ax3OK x) (D:GoodPath p) (I:Qu9 p (mvP p a b) Q):
  ∃J,TC x (mvP p a b) Q (AR p x d a b) (Bj b (Ay p.aE)) J/\(AR p x d a b).start=Bj a (Ay p.aE)/\(AR p x d a b).dirs=d:=by
 have O:=Rl D;have S:0<=Bj a (Ay p.aE)/\Bj a (Ay p.aE)<=Ay p.aE:=by unfold Bj;omega
 have hb:0<=Bj b (Ay p.aE)/\Bj b (Ay p.aE)<=Ay p.aE:=by unfold Bj;omega
 have E:=λmv L M f=>Z0b (p:=p) (x:=x) (mv:=mv) (lo:=L) (hi:=M) (f:=f) (d:=d) p.aE.length;unfold AR mvP at*;simp only;generalize Bj a (Ay p.aE)=f at*;generalize Bj b (Ay p.aE)=t at*;have h:=Q79 (p:=p) (x:=x) (mv:=if f>t then-1 else 1) (lo:=min f t) (hi:=max f t) (f:=f) (d:=d) (Q:=Q) (by split<;>simp) G D.ok (by omega) (by split<;>omega) I p.aE.length (co _);have N:Kx p.aE (if f>t then-1 else 1) (min f t) (max f t) p.aE.length=t:=by
  unfold Kx;rw[Nat.sub_self,Ts,Q8l];by_cases c:f>t
  ·rw[aa c,aa (by omega)];omega
  ·rw[ab c,ab (by omega)];omega
 rw[N]at h;exact⟨_,h,(E _ _ _ _).1,(E _ _ _ _).2⟩
theorem Zyx {x:Ax3} {mv:Int} {Q:Int->Pt->Prop} {t:Trk} {s:Int} {d:Pt} (D:mv=1\/mv= -1) (h:TC x mv Q t s d) (hb:t.aD.length<=10000000/\0<=t.length/\t.length<=900000000000000) (L:0<=t.start/\t.start<=263886834032640):TQ t:=by
 obtain⟨E,I,-,-⟩:=h;refine⟨hb.1,hb.2,λi G=> ?_,Q2l D E,λJ=>by rw[Qsr E J,I],L,λi G=> ?_,λi G=> ?_⟩
 ·have:=RC D E i G;rw[I]at this;exact⟨this.1,this.2.1,this.2.2.1⟩
 ·have:=RC D E i G;rw[I]at this;unfold eI at this;omega
 ·have:=(RC D E i G).2.2.2.2;rcases D with rfl|rfl
  ·rcases this with h|h
   ·exact .inl h
   ·exact .inr (.inl h)
  ·rcases this with h|h
   ·exact .inl h
   ·exact .inr (.inr h)
theorem PV {p:Pth} {x:Ax3} (d:Pt) (a b:Int) (E:Ax3OK x) (D:GoodPath p):TQ (AR p x d a b):=by
 have J:=Rl D;obtain⟨L,G,I,-⟩:=OQ (d:=d) (a:=a) (b:=b) (Q:=λ_ _=>True) E D (λ_ _ _ _ _ _ _ _=>trivial);exact Zyx (UQ p a b) G (Z9q d a b D E) (by rw[I];unfold Bj;omega)
def Cw (a:Axs) (i:Nat):Int:=a.pitch.getD i 0
def K8 (a:Axs) (p:Int):Int:=
 if a.pitch=[]then 0
 else if p<=a.origin then Cw a 0
 else if(p-a.origin)/a.spacing>=a.pitch.length-1 then Cw a (a.pitch.length-1)
 else Cw a ((p-a.origin)/a.spacing).toNat+Bw ((Cw a (((p-a.origin)/a.spacing).toNat+1)-Cw a ((p-a.origin)/a.spacing).toNat)*(p-a.origin-(p-a.origin)/a.spacing*a.spacing)) a.spacing
def DU (a:Axs) (p:Int):Int:=Bw (p+K8 a p) a.step
def okB (p:Int):Prop:= -1000000000<=p/\p<=1000000000
theorem Qzt {l:List Int} (h:l≠[]):0<l.length:=by
 cases l with
 |nil=>exact absurd rfl h
 |cons _ _=>simp
theorem Qo {a:Axs} (h:AxOK a) {i:Nat} (D:i<a.pitch.length): -4096<=Cw a i/\Cw a i<=4096:=by
 have e:Cw a i=a.pitch[i]:=by unfold Cw;simp[D]
 rw[e];exact h.pitch.1 _ (bm _)
theorem Tl {a:Axs} {i:Nat} (D:i<a.pitch.length):nth [] (a.pitch.map Ao) i=[I (Cw a i)]:=by
 have e:Cw a i=a.pitch[i]:=by unfold Cw;simp[D]
 rw[e];exact IH _ _ _ _ D
theorem Q5e {a:Axs} (h:AxOK a) (D:a.pitch≠[]) {p:Int} (E: ¬p<=a.origin) (G: ¬(p-a.origin)/a.spacing>=a.pitch.length-1):
  ∃(i:Nat) (r:Int),((p-a.origin)/a.spacing=i)/\i+1<a.pitch.length/\0<=r/\r<a.spacing/\p-a.origin=i*a.spacing+r/\p-a.origin-(p-a.origin)/a.spacing*a.spacing=r:=by
 have I:=h.spacing D;have e0:=Int.mul_ediv_add_emod (p-a.origin) a.spacing;have e1:=Int.emod_nonneg (p-a.origin) (show a.spacing≠0 by omega);have e2:=Int.emod_lt_of_pos (p-a.origin) (show 0<a.spacing by omega);have e3:0<=(p-a.origin)/a.spacing:=Int.ediv_nonneg (by omega) (by omega);refine⟨((p-a.origin)/a.spacing).toNat,(p-a.origin)%a.spacing,by omega,by omega,e1,e2,?_,?_⟩
 ·rw[Int.toNat_of_nonneg e3,Int.mul_comm];omega
 ·rw[Int.mul_comm ((p-a.origin)/a.spacing)];omega
theorem Zbx {a:Axs} (h:AxOK a) (D:a.pitch≠[]) {i:Nat} (G:i+1<a.pitch.length) {r:Int} (E:0<=r/\r<=a.spacing):
  (-30<=Cw a (i+1)-Cw a i/\Cw a (i+1)-Cw a i<=30)/\(Bw ((Cw a (i+1)-Cw a i)*r) a.spacing).natAbs<=31:=by
 have J:=h.spacing D;have L:=h.pitch.2 i G;have I: -30<=Cw a (i+1)-Cw a i/\Cw a (i+1)-Cw a i<=30:=by unfold Cw;omega
 refine⟨I,Qe7 (by omega) ?_⟩;have m1:(Cw a (i+1)-Cw a i)*r<=31*r:=Int.mul_le_mul_of_nonneg_right (by omega) E.1;have m2: -31*r<=(Cw a (i+1)-Cw a i)*r:=Int.mul_le_mul_of_nonneg_right (by omega) E.1;have e:((31:Nat):Int)=31:=rfl;rw[e];omega
theorem Q4d {a:Axs} (h:AxOK a) (p:Int): -5000<=K8 a p/\K8 a p<=5000:=by
 unfold K8;by_cases c:a.pitch=[]
 ·rw[aa c];omega
 ·have G:=Qzt c;rw[ab c];by_cases D:p<=a.origin
  ·rw[aa D];have:=Qo h (show 0<a.pitch.length from G);omega
  ·rw[ab D];by_cases E:(p-a.origin)/a.spacing>=a.pitch.length-1
   ·rw[aa E];have:=Qo h (show a.pitch.length-1<a.pitch.length by omega);omega
   ·rw[ab E];obtain⟨i,r,e1,e2,e3,J,L,I⟩:=Q5e h c D E;rw[I,e1,aj];have b1:=Qo h (show i<a.pitch.length by omega);have b2:=(Zbx h c e2 (r:=r) (by omega)).2;omega
theorem Zp7 {a:Axs} (h:AxOK a) {v:Int} (D:v.natAbs<=1000010000):K4 (Bz a++[I v])=some [I (Bw v a.step)]:=by
 have E:=h.step;have he:=Zgt a.step a.speed a.accel a.jerk a.low a.high a.back a.origin a.spacing (a.pitch.map Ao) v;unfold K4;refine Eq.trans he ?_;rw[Ae (x:=2*v) (by omega),Ae (x:=2*v+a.step) (by omega),Ae (x:=2*a.step) (by omega)];have G:=Int.tmod_add_mul_tdiv (2*v+a.step) (2*a.step);have J:=Int.tmod_lt_of_pos (2*v+a.step) (show 0<2*a.step by omega);have L:=Int.lt_tmod_of_pos (2*v+a.step) (show 0<2*a.step by omega);have M:((2*v+a.step).tdiv (2*a.step)).natAbs<=(2*v+a.step).natAbs:=by rw[Int.natAbs_tdiv];exact Nat.div_le_self _ _
 generalize(2*v+a.step).tdiv (2*a.step)=q at*;generalize(2*v+a.step).tmod (2*a.step)=r at*;have e1:2*a.step*q=q*(2*a.step):=Int.mul_comm _ _;rw[A_ (by omega),A_ (by omega),A_ (by omega),A_ (by omega),Ae (x:=q) (by omega)];by_cases h:r<0
 ·rw[Ee h,Ae (by omega),L4 (k:=q-1) (by omega)]
  ·rw[Int.sub_mul];omega
  ·rw[Int.sub_add_cancel];omega
 ·rw[A_ h,L4 (k:=q) (by omega)]
  ·omega
  ·rw[Int.add_mul];omega
theorem Zqw {a:Axs} (h:AxOK a) {p:Int} (N:okB p):Kr (Bz a++[I p])=some [I (K8 a p)]:=by
 unfold okB at N;have X:=h.origin;have Y:=h.count;have he:=Zyt BE a.step a.speed a.accel a.jerk a.low a.high a.back a.origin a.spacing (a.pitch.map Ao) p;unfold Kr;have O:=fun{x y:Int} (hx:x.natAbs<=30) (hy:y.natAbs<=123) (L:4<=a.spacing/\a.spacing<=123)=>Q8m (a:=x) (b:=y) (c:=a.spacing) (by omega) (by omega) (by omega);generalize BE=M at*;refine Eq.trans he ?_;unfold K8;rw[af];by_cases c:a.pitch=[]
 ·rw[aa c,c];rfl
 ·have S:=Qzt c;have L:=h.spacing c;have e1:wrap .i64 ((a.pitch.length:Int)-1)=((a.pitch.length-1:Nat):Int):=by rw[Ae (by omega)];omega
  have e2:wrap .i64 (p-a.origin)=p-a.origin:=Ae (by omega);rw[ab c,e2,e1];by_cases G:p<=a.origin
  ·rw[aa G];simp only[go_sem,Tl S];rw[ab (by omega),aa (by omega),aa (by omega)]
  ·have e3:wrap .i64 ((p-a.origin).tdiv a.spacing)=(p-a.origin)/a.spacing:=by
    rw[bc (by omega)];have:=Int.ediv_nonneg (show 0<=p-a.origin by omega) (show 0<=a.spacing by omega);have:=Int.ediv_le_self a.spacing (show 0<=p-a.origin by omega);exact Ae (by omega)
   rw[ab G,e3];by_cases J:(p-a.origin)/a.spacing>=(a.pitch.length:Int)-1
   ·rw[aa J];simp only[go_sem,aj,Tl (show a.pitch.length-1<a.pitch.length by omega)];rw[ab (by omega),ab (by omega),ab (by omega),ab (by omega),aa (by omega),aa (by omega)]
   ·rw[ab J];obtain⟨i,r,g1,g2,g3,g4,g5,T⟩:=Q5e h c G J;obtain⟨n1,n2⟩:=Zbx h c g2 (r:=r) (by omega);have b1:=Qo h (show i<a.pitch.length by omega);rw[T,g1]at*;rw[aj];have U:wrap .i64 ((i:Int)+1)=((i+1:Nat):Int):=by rw[Ae (by omega)];omega
    have hmul:(i:Int)*a.spacing=p-a.origin-r:=by omega
    have V:wrap .i64 (p-a.origin-wrap .i64 ((i:Int)*a.spacing))=r:=by rw[hmul,Ae (x:=p-a.origin-r) (by omega),Ae (by omega)];omega
    have D:(0:Int)<=(i:Int)/\(i:Int)<(a.pitch.length:Int):=by omega
    have E:(0:Int)<=((i+1:Nat):Int)/\((i+1:Nat):Int)<(a.pitch.length:Int):=by omega
    simp only[go_sem,U,V,aj,Tl (show i<a.pitch.length by omega),Tl g2,aa D,aa E];have b2:=Qo h g2;generalize Cw a (i+1)=y at*;generalize Cw a i=z at*;rw[ab (by omega),ab (by omega),ab (by omega),ab (by omega),ab (by omega),Ae (x:=y-z) (by omega),O (by omega) (by omega) L];simp only[go_sem];rw[Ae (by omega)]
theorem Z5f {a:Axs} (h:AxOK a) {p:Int} (D:okB p):Nn (Bz a++[I p])=some [I (DU a p)]:=by
 have hb:=Q4d h p;have E:=Zqw h D;unfold okB at D;have G:=Zp7 h (v:=p+K8 a p) (by omega);have he:=Zy8 K4 Kr a.step a.speed a.accel a.jerk a.low a.high a.back a.origin a.spacing (a.pitch.map Ao) p;unfold Nn;generalize K4=J at*;generalize Kr=L at*;refine Eq.trans he ?_;simp only[Bz,aq,ay]at E G;simp only[E,go_sem,Ae (x:=p+K8 a p) (by omega),G];rfl
def Ck (a:Axs) (d:Int):Int:=if d= -1 then-a.back else 0
def DO (a:Axs) (move at_ was dirs u:Int):Int:=if move≠0\/was=dirs then Ck a dirs else if dirs= -1 then-min (u-at_) a.back else min (u-at_) a.back-a.back
theorem Sd {a:Axs} (hb:0<=a.back/\a.back<=1000) (v:Int):JZ (Bz a++[I v])=some [I (Ck a v)]:=by
 have he:=Zec a.step a.speed a.accel a.jerk a.low a.high a.back a.origin a.spacing (a.pitch.map Ao) v;unfold JZ;refine Eq.trans he ?_;unfold Ck;by_cases c:v= -1
 ·rw[BO (by simp[c]),aa c,Ae (by omega)];congr 3;omega
 ·rw[Bn (by simp[c]),ab c]
theorem Zvn {M:Fn} {a:Axs} {c:Pce} {u:Int} (L:∀v:Int,M (Bz a++[I v])=some [I (Ck a v)]) (hb:0<=a.back/\a.back<=1000) (T:0<=u-c.at_/\u-c.at_<=2000000000000000):
  Qk M (Bz a++AI c++[I 0,I u])=some [I (DO a c.move c.at_ c.was.x c.dirs.x u)]:=by
 have he:=Qkf M a.step a.speed a.accel a.jerk a.low a.high a.back a.origin a.spacing (a.pitch.map Ao) c.at_ c.units c.s c.move c.was.x c.was.y c.was.z c.dirs.x c.dirs.y c.dirs.z 0 u;refine Eq.trans he ?_;have D:=L c.dirs.x;simp only[Bz,aq,ay]at D;have e1:wrap .i64 (0+1)=1:=rfl;have e2:wrap .i64 (1+1)=2:=rfl;have N:wrap .i64 (u-c.at_)=u-c.at_:=Ae (by omega);have O:wrap .i64 (0-min (u-c.at_) a.back)= -min (u-c.at_) a.back:=by rw[Ae (by omega)];omega
 have S:wrap .i64 (min (u-c.at_) a.back-a.back)=min (u-c.at_) a.back-a.back:=Ae (by omega);unfold DO;simp only[go_sem,e1,e2,KD,N,O,S,Nat.reduceAdd,Int.cast_ofNat_Int,Int.natCast_zero,Int.natCast_one,Int.reduceEq,D];by_cases E:c.move=0
 ·by_cases G:c.was.x=c.dirs.x
  ·simp[E,G]
  ·by_cases J:c.dirs.x= -1
   ·simp[E,J,show c.was.x≠-1 from λe=>G (by rw[e,J])]
   ·simp[E,G,J]
 ·simp[E]
theorem Zq9 {M:Fn} {a:Axs} {c:Pce} {u:Int} (L:∀v:Int,M (Bz a++[I v])=some [I (Ck a v)]) (hb:0<=a.back/\a.back<=1000) (T:0<=u-c.at_/\u-c.at_<=2000000000000000):
  Qk M (Bz a++AI c++[I (wrap .i64 (0+1)),I u])=some [I (DO a c.move c.at_ c.was.y c.dirs.y u)]:=by
 have he:=Qkf M a.step a.speed a.accel a.jerk a.low a.high a.back a.origin a.spacing (a.pitch.map Ao) c.at_ c.units c.s c.move c.was.x c.was.y c.was.z c.dirs.x c.dirs.y c.dirs.z (wrap .i64 (0+1)) u;refine Eq.trans he ?_;have D:=L c.dirs.y;simp only[Bz,aq,ay]at D;have e1:wrap .i64 (0+1)=1:=rfl;have e2:wrap .i64 (1+1)=2:=rfl;have N:wrap .i64 (u-c.at_)=u-c.at_:=Ae (by omega);have O:wrap .i64 (0-min (u-c.at_) a.back)= -min (u-c.at_) a.back:=by rw[Ae (by omega)];omega
 have S:wrap .i64 (min (u-c.at_) a.back-a.back)=min (u-c.at_) a.back-a.back:=Ae (by omega);unfold DO;simp only[go_sem,e1,e2,KD,N,O,S,Nat.reduceAdd,Int.cast_ofNat_Int,Int.natCast_zero,Int.natCast_one,Int.reduceEq,D];by_cases E:c.move=0
 ·by_cases G:c.was.y=c.dirs.y
  ·simp[E,G]
  ·by_cases J:c.dirs.y= -1
   ·simp[E,J,show c.was.y≠-1 from λe=>G (by rw[e,J])]
   ·simp[E,G,J]
 ·simp[E]
theorem Z1z {M:Fn} {a:Axs} {c:Pce} {u:Int} (L:∀v:Int,M (Bz a++[I v])=some [I (Ck a v)]) (hb:0<=a.back/\a.back<=1000) (T:0<=u-c.at_/\u-c.at_<=2000000000000000):
  Qk M (Bz a++AI c++[I (wrap .i64 (wrap .i64 (0+1)+1)),I u])=some [I (DO a c.move c.at_ c.was.z c.dirs.z u)]:=by
 have he:=Qkf M a.step a.speed a.accel a.jerk a.low a.high a.back a.origin a.spacing (a.pitch.map Ao) c.at_ c.units c.s c.move c.was.x c.was.y c.was.z c.dirs.x c.dirs.y c.dirs.z (wrap .i64 (wrap .i64 (0+1)+1)) u;refine Eq.trans he ?_;have D:=L c.dirs.z;simp only[Bz,aq,ay]at D;have e1:wrap .i64 (0+1)=1:=rfl;have e2:wrap .i64 (1+1)=2:=rfl;have N:wrap .i64 (u-c.at_)=u-c.at_:=Ae (by omega);have O:wrap .i64 (0-min (u-c.at_) a.back)= -min (u-c.at_) a.back:=by rw[Ae (by omega)];omega
 have S:wrap .i64 (min (u-c.at_) a.back-a.back)=min (u-c.at_) a.back-a.back:=Ae (by omega);unfold DO;simp only[go_sem,e1,e2,KD,N,O,S,Nat.reduceAdd,Int.cast_ofNat_Int,Int.natCast_zero,Int.natCast_one,Int.reduceEq,D];by_cases E:c.move=0
 ·by_cases G:c.was.z=c.dirs.z
  ·simp[E,G]
  ·by_cases J:c.dirs.z= -1
   ·simp[E,J,show c.was.z≠-1 from λe=>G (by rw[e,J])]
   ·simp[E,G,J]
 ·simp[E]
theorem Znn {a:Axs} (hb:0<=a.back/\a.back<=1000) {move at_ was dirs u:Int} (D:0<=u-at_): -1000<=DO a move at_ was dirs u/\DO a move at_ was dirs u<=1000:=by
 unfold DO Ck
 (repeat' split)<;>omega
theorem Zo3 {a:Pt} {g:Sgm} {d:Int} (E:bd B26 a) (G:1<=g.len/\g.len<=268435456/\bd B26 g.to) (J:0<=d/\d<=g.len):bd 201326592 (Ph a g d):=by
 have key:∀u v:Int,u.natAbs<=B26->v.natAbs<=B26->(v+Bw ((u-v)*d) g.len).natAbs<=201326592:=by
  intro u v M I;have N:=IN M I;have O:=Qw2 (D:=u-v) (L:=g.len) (d:=d) (by omega) (cg N (by decide)) J;have S:v.natAbs<=67108864:=I;omega
 exact⟨key _ _ G.2.2.1 E.1,key _ _ G.2.2.2.1 E.2.1,key _ _ G.2.2.2.2 E.2.2⟩
theorem Zsh {p:Pth} (h:GoodPath p) (s:Int):bd 201326592 (atP p s):=by
 unfold atP;by_cases c:p.aE=[]
 ·rw[c];exact A6 h.start (by decide)
 ·have D:=h.ok;obtain⟨E,G,I,J⟩:=Qie (l:=p.aE) (a:=p.start) (s:=max s 0) c (λg L=>(D.seg g L).1) (by omega);rw[J];exact Zo3 (Zcg h.start D E) (D.seg _ (Il E)) ⟨G,I⟩
theorem X5 {a:Axs} (h:AxOK a) {p:Int} (D:okB p):(DU a p).natAbs<=2000000000:=by
 have hb:=Q4d h p;have E:=h.step;unfold okB at D;unfold DU;refine Qe7 (by omega) ?_;have e:((2000000000:Nat):Int)=2000000000:=rfl;rw[e];omega
def shT (a:Axs) (t:Trk) (u:Int) (f:Pt->Int):Int:=if t.aD=[]then Ck a (f t.dirs)else DO a (pcA t.aD (iT t u)).move (pcA t.aD (iT t u)).at_ (f (pcA t.aD (iT t u)).was) (f (pcA t.aD (iT t u)).dirs) (clT t u)
def Gb (p:Pth) (x:Ax3) (s:Int):Pt:=⟨DU x.a (atP p s).x,DU x.b (atP p s).y,DU x.c (atP p s).z⟩
def Eo (p:Pth) (x:Ax3) (t:Trk) (u:Int):Pt:=
 ⟨(Gb p x (AE t u)).x+shT x.a t u Pt.x,(Gb p x (AE t u)).y+shT x.b t u Pt.y,(Gb p x (AE t u)).z+shT x.c t u Pt.z⟩
theorem Quq {t:Trk} (h:TQ t) (E:∀i,i+1<t.aD.length->(pcA t.aD (i+1)).at_=eI t.aD i) (J:t.aD≠[]->(pcA t.aD 0).at_=0) (u:Int) (D:t.aD≠[]):(pcA t.aD (iT t u)).at_<=clT t u/\(0<iT t u->(pcA t.aD (iT t u)).at_<clT t u):=by
 have G:=JQ h u D;have L:=K6 h u;by_cases c:iT t u=0
 ·rw[c,J D];exact⟨L.1,λg=>absurd g (by omega)⟩
 ·obtain⟨j,I⟩:∃j,iT t u=j+1:=⟨iT t u-1,by omega⟩;rw[I]at G⊢;rw[E j G];have: ¬clT t u<=eI t.aD j:=by
   intro g;have:=Uq (show j<t.aD.length by omega) g;unfold iT at I;omega
  exact⟨by omega,λ_=>by omega⟩
theorem Z6c {t:Trk} (h:TQ t) (u:Int):clT t (clT t u)=clT t u:=by have:=h.len;unfold clT Bj;omega
theorem Zz7 {t:Trk} (h:TQ t) (u:Int):AE t (clT t u)=AE t u:=by unfold AE iT;rw[Z6c h]
theorem Qzj {t:Trk} (h:TQ t) (u:Int): -3000000000000000<=AE t u/\AE t u<=3000000000000000:=by
 unfold AE;by_cases c:t.aD=[]
 ·rw[aa c];have:=h.start;omega
 ·have E:=JQ h u c;have G:=h.pos _ E;have I:=h.s _ E;have D:=h.move _ E;have J:=K6 h u;have L:=h.len;rw[ab c];unfold eI at G;rcases D with D|D|D<;>rw[D]<;>omega
theorem Z7j {p:Pth} (h:GoodPath p) (s:Int):okB (atP p s).x/\okB (atP p s).y/\okB (atP p s).z:=by
 obtain⟨D,E,G⟩:=Zsh h s;unfold okB;omega
structure TH (t : Trk) : Prop where
 q:TQ t
 at0:t.aD≠[]->(pcA t.aD 0).at_=0
 at1:∀i,i+1<t.aD.length->(pcA t.aD (i+1)).at_=eI t.aD i
theorem Qkg {a:Axs} (hb:0<=a.back/\a.back<=1000) {t:Trk} (h:TH t) (u:Int) (f:Pt->Int): -1000<=shT a t u f/\shT a t u f<=1000:=by
 unfold shT;by_cases c:t.aD=[]
 ·rw[aa c];unfold Ck;split<;>omega
 ·rw[ab c];exact Znn hb (by have:=(Quq h.q h.at1 h.at0 u c).1;omega)
theorem Znl {J Y MM MF MA ML MC:Fn} {p:Pth} {x:Ax3} {t:Trk} {u:Int} (hp:GoodPath p) (D:Ax3M x) (E:TH t) (hC:MC [I u,I t.length]=some [I (clT t u)]) (S:ML (A8 t++[I (clT t u)])=some [I (AE t u)]) (T:MA (Br p++[I (AE t u)])=some (ptR (atP p (AE t u))))
  (G:MF (A8 t++[I (clT t u)])=some [I (if t.aD=[]then-1 else(iT t u:Int))]) (hM:∀{a:Axs} {q:Int},AxOK a->okB q->MM (Bz a++[I q])=some [I (DU a q)]) (hD:∀{a:Axs} (v:Int),(0<=a.back/\a.back<=1000)->Y (Bz a++[I v])=some [I (Ck a v)])
  (h0:∀{a:Axs} {c:Pce} {u:Int},(0<=a.back/\a.back<=1000)->(0<=u-c.at_/\u-c.at_<=2000000000000000)->J (Bz a++AI c++[I 0,I u])=some [I (DO a c.move c.at_ c.was.x c.dirs.x u)])
  (h1:∀{a:Axs} {c:Pce} {u:Int},(0<=a.back/\a.back<=1000)->(0<=u-c.at_/\u-c.at_<=2000000000000000)->J (Bz a++AI c++[I (wrap .i64 (0+1)),I u])=some [I (DO a c.move c.at_ c.was.y c.dirs.y u)])
  (h2:∀{a:Axs} {c:Pce} {u:Int},(0<=a.back/\a.back<=1000)->(0<=u-c.at_/\u-c.at_<=2000000000000000)->J (Bz a++AI c++[I (wrap .i64 (wrap .i64 (0+1)+1)),I u])=some [I (DO a c.move c.at_ c.was.z c.dirs.z u)]):
  Qc9 J Y MM MF MA ML MC (Br p++AM x++A8 t++[I u])=some (ptR (Eo p x t u)):=by
 have he:=Z6n J Y MM MF MA ML MC u p x t;refine Eq.trans he ?_;obtain⟨o1,o2,o3⟩:=Z7j hp (AE t u);have m1:=hM D.a o1;have m2:=hM D.b o2;have m3:=hM D.c o3;have b1:=X5 D.a o1;have b2:=X5 D.b o2;have b3:=X5 D.c o3;have s1:=Qkg D.ok.a E u Pt.x;have s2:=Qkg D.ok.b E u Pt.y;have s3:=Qkg D.ok.c E u Pt.z;unfold Eo Gb;generalize DU x.a (atP p (AE t u)).x=q1 at*;generalize DU x.b (atP p (AE t u)).y=q2 at*;generalize DU x.c (atP p (AE t u)).z=q3 at*;have U:wrap .i64 (q1+shT x.a t u Pt.x)=q1+shT x.a t u Pt.x:=Ae (by omega);have V:wrap .i64 (q2+shT x.b t u Pt.y)=q2+shT x.b t u Pt.y:=Ae (by omega);have X:wrap .i64 (q3+shT x.c t u Pt.z)=q3+shT x.c t u Pt.z:=Ae (by omega);by_cases c:t.aD=[]
 ·have L:=hD t.dirs.x D.ok.a;have M:=hD t.dirs.y D.ok.b;have N:=hD t.dirs.z D.ok.c;unfold shT at*;rw[aa c]at G;simp only[aa c]at U V X⊢;simp only[Br,A8,Bz,aq,ay]at S T G L M N m1 m2 m3;simp only[hC,S,T,G,go_sem,m1,m2,m3,L,M,N,U,V,X];rw[aa (by omega),aa (by omega),aa (by omega)]
 ·have hi:=JQ E.q u c;have a1:=E.q.count;have a3:=(Quq E.q E.at1 E.at0 u c).1;have a4:=K6 E.q u;have hlen:=E.q.len;have a2:=E.q.pos _ hi;have a0:(0:Int)<=(iT t u:Int)/\(iT t u:Int)<(t.aD.length:Int):=by omega
  have O: ¬((iT t u:Int)<0):=by omega
  have L:=h0 (c:=pcA t.aD (iT t u)) (u:=clT t u) D.ok.a (by omega);have M:=h1 (c:=pcA t.aD (iT t u)) (u:=clT t u) D.ok.b (by omega);have N:=h2 (c:=pcA t.aD (iT t u)) (u:=clT t u) D.ok.c (by omega);unfold shT at*;rw[ab c]at G;simp only[ab c]at U V X⊢;simp only[Br,A8,Bz,AI,aq,ay]at S T G L M N m1 m2 m3;simp only[hC,S,T,G,go_sem,m1,m2,m3,af,aa a0,aj,OA hi,ab O,L,M,N,U,V,X]
theorem Z6z {p:Pth} {x:Ax3} {t:Trk} (J:GoodPath p) (L:Ax3M x) (D:TH t) (u:Int):Et (Br p++AM x++A8 t++[I u])=some (ptR (Eo p x t u)):=by
 have O:=Qzj D.q u;have E:=RO D.q (clT t u);rw[Zz7 D.q]at E;exact Znl J L D RV E (Z39 J (by unfold i64;omega)) (Qaq D.q u) (λM N=>Z5f M N) (λv hb=>Sd hb v) (λhb G=>Zvn (Sd hb) hb G) (λhb G=>Zq9 (Sd hb) hb G) (λhb G=>Z1z (Sd hb) hb G)
theorem Qxs {x:Ax3} {mv:Int} {Q:Int->Pt->Prop} {a s:Int} {d:Pt} {l:List Pce} (h:DD x mv Q a s d l) (D:l≠[]):(pcA l 0).at_=a:=by
 cases l with
 |nil=>exact absurd rfl D
 |cons c l=>rw[Iw];exact h.1
theorem Qvt {x:Ax3} {mv:Int} {Q:Int->Pt->Prop}:∀{a s:Int} {d:Pt} {l:List Pce},DD x mv Q a s d l->∀i,i+1<l.length->(pcA l (i+1)).at_=eI l i
 |a,s,d,[],h,i,D=>by simp at D
 |a,s,d,c::l,h,0,D=>by
  obtain⟨G,I,J,L,E⟩:=h;unfold eI;rw[FJ,Iw,Qxs E (λe=>by rw[e]at D;simp at D),G]
 |a,s,d,c::l,h,i+1,D=>by
  obtain⟨G,I,J,L,E⟩:=h;have:=Qvt E i (by simpa using D);unfold eI at*;rw[FJ,FJ];exact this
theorem Qx1 {p:Pth} {x:Ax3} (d:Pt) (a b:Int) (D:Ax3OK x) (E:GoodPath p):TH (AR p x d a b):=by
 obtain⟨I,G,J,-⟩:=OQ (d:=d) (a:=a) (b:=b) (Q:=λ_ _=>True) D E (λ_ _ _ _ _ _ _ _=>trivial);exact⟨PV d a b D E,Qxs G.ch,Qvt G.ch⟩
def wF (z:Int):List Pce->Int
 |[]=> -1
 |c::l=>if c.move≠0/\0<=(z-c.s)*c.move/\(z-c.s)*c.move<=c.units then c.at_+(z-c.s)*c.move else wF z l
def Bk (t:Trk) (z:Int):Int:=if z=t.start then 0 else wF z t.aD
def plL:List Pce->Int->Int
 |[],_=>0
 |c::l,u=>if u<=c.at_+c.units then c.s+c.move*(u-c.at_)else plL l u
theorem Qsd:∀{l:List Pce} {u:Int},fI l u<l.length->plL l u=(pcA l (fI l u)).s+(pcA l (fI l u)).move*(u-(pcA l (fI l u)).at_)
 |[],_,h=>by simp at h
 |c::l,u,h=>by
  unfold fI at h⊢;unfold plL;by_cases D:u<=c.at_+c.units
  ·rw[aa D,aa D,Iw]
  ·rw[ab D]at h⊢;rw[ab D,FJ];exact Qsd (by simpa using h)
theorem Ld {t:Trk} (h:TQ t) (u:Int) (D:t.aD≠[]):AE t u=plL t.aD (clT t u):=by
 have E:=JQ h u D;unfold AE;rw[ab D];exact(Qsd E).symm
theorem Ui {x:Ax3} {mv:Int} {Q:Int->Pt->Prop} (I:mv=1\/mv= -1):∀{a s:Int} {d:Pt} {l:List Pce},DD x mv Q a s d l->0<=mv*(B2 s l-s)
 |a,s,d,[],_=>by simp[B2]
 |a,s,d,c::l,h=>by
  obtain⟨M,N,O,D,J⟩:=h;have L:=Ui I J;unfold B2;generalize B2 (s+c.move*c.units) l=E at*;have G:c.move=mv\/c.move=0:=by rcases D with D|D<;>simp[D.1]
  rcases G with G|G<;>rw[G]at L<;>rcases I with rfl|rfl<;>omega
theorem Qxf {x:Ax3} {mv:Int} {Q:Int->Pt->Prop} (D:mv=1\/mv= -1) (z:Int):∀{a s:Int} {d:Pt} {l:List Pce},DD x mv Q a s d l->
  (mv*(z-s)<0->wF z l= -1)/\(0<mv*(z-B2 s l)->wF z l= -1)/\
  (0<mv*(z-s)->mv*(z-B2 s l)<=0->a<wF z l/\wF z l<=BK a l/\plL l (wF z l)=z/\∀v,a<=v->v<wF z l->mv*(plL l v-z)<0)
 |a,s,d,[],_=>by
  simp only[B2,wF];exact⟨λ_=>trivial,λ_=>trivial,λJ L=>absurd J (by omega)⟩
 |a,s,d,c::l,h=>by
  obtain⟨J,L,h3,N,U⟩:=h;obtain⟨i1,X,O⟩:=Qxf D z U;have M:=Ui D U;have a1:=R6 U;have G:c.move=mv\/c.move=0:=by rcases N with N|N<;>simp[N.1]
  simp only[B2,BK];generalize B2 (s+c.move*c.units) l=E at*;generalize BK (a+c.units) l=A at*;have key : (0 < mv * (z - (s + c.move * c.units)) -> mv * (z - E) <= 0 -> wF z (c :: l) = wF z l -> (∀ v, a <= v -> v <= a + c.units -> mv * (s + c.move * (v - a) - z) < 0) ->
    a<wF z (c::l)/\wF z (c::l)<=A/\plL (c::l) (wF z (c::l))=z/\∀v,a<=v->v<wF z (c::l)->mv*(plL (c::l) v-z)<0):=by
   intro g1 g2 g3 g4;obtain⟨k1,k2,k3,k4⟩:=O g1 g2;rw[g3];refine⟨by omega,k2,?_,?_⟩
   ·unfold plL;rw[ab (by omega)];exact k3
   ·intro v S T;unfold plL;by_cases Y:v<=c.at_+c.units
    ·rw[aa Y,J,L];exact g4 v S (by omega)
    ·rw[ab Y];exact k4 v (by omega) T
  rcases G with G|G
  ·
   have a0:c.move≠0:=by rcases D with rfl|rfl<;>omega
   rw[G]at i1 O key;by_cases V:0<=(z-s)*mv/\(z-s)*mv<=c.units
   ·have I:wF z (c::l)=a+(z-s)*mv:=by unfold wF;rw[L,G,J,aa ⟨by omega,V.1,V.2⟩]
    rw[I];refine⟨λg=> ?_,λg=> ?_,λg1 g2=>⟨?_,?_,?_,?_⟩⟩
    ·rcases D with rfl|rfl<;>omega
    ·rw[G]at M;rcases D with rfl|rfl<;>omega
    ·rcases D with rfl|rfl<;>omega
    ·omega
    ·unfold plL;rw[aa (by omega),J,L,G];rcases D with rfl|rfl<;>omega
    ·intro v S T;unfold plL;rw[aa (by omega),J,L,G];rcases D with rfl|rfl<;>omega
   ·have I:wF z (c::l)=wF z l:=by
     show(if _ then _ else _)=_;rw[L,G,ab λg=>V g.2]
    refine⟨λg=> ?_,λg=> ?_,λg1 g2=> ?_⟩
    ·rw[I];exact i1 (by rcases D with rfl|rfl<;>omega)
    ·rw[I];exact X g
    ·refine key (by rcases D with rfl|rfl<;>omega) g2 I ?_;intro v S T;rcases D with rfl|rfl<;>omega
  ·have I:wF z (c::l)=wF z l:=by
    show(if _ then _ else _)=_;rw[ab λg=>g.1 G]
   rw[G]at i1 O key;simp only[Int.zero_mul,Int.add_zero]at i1 O key;refine⟨λg=> ?_,λg=> ?_,λg1 g2=> ?_⟩
   ·rw[I];exact i1 g
   ·rw[I];exact X g
   ·refine key g1 g2 I ?_;intro v S T;rcases D with rfl|rfl<;>omega
theorem Qus {t:Trk} (h:TQ t) {z:Int} (T:i64 z):∀(k j:Nat),j+k=t.aD.length->wF z (t.aD.drop j)= -1/\Al RH [I z, .view Aq (t.aD.map AI),I t.aD.length,I j]=some (2,[])\/
  Al RH [I z, .view Aq (t.aD.map AI),I t.aD.length,I j]=some (1,[I (wF z (t.aD.drop j))])
 |0,j,X=>by
  left;rw[List.drop_of_length_le (by omega)];refine⟨rfl,A7 (o:=(2,_)) ?_ (by simp)⟩;rw[Qvm,A_ (by omega)]
 |k+1,j,X=>by
  have D:j<t.aD.length:=by omega
  have U:=h.count;have O:(0:Int)<=(j:Int)/\(j:Int)<(t.aD.length:Int):=by omega
  have M:=h.pos j D;have hl:=h.len;have hs:=h.s j D;have Y:=h.move j D;have e:t.aD.drop j=pcA t.aD j::t.aD.drop (j+1):=by
   have e1:pcA t.aD j=t.aD[j]:=by unfold pcA;simp[D]
   rw[e1];exact O1 _ _ D
  have J:RH [I z, .view Aq (t.aD.map AI),I t.aD.length,I j]=if(pcA t.aD j).move≠0/\0<=(z-(pcA t.aD j).s)*(pcA t.aD j).move/\(z-(pcA t.aD j).s)*(pcA t.aD j).move<=(pcA t.aD j).units then
    some (1,[I ((pcA t.aD j).at_+(z-(pcA t.aD j).s)*(pcA t.aD j).move)])else some (0,[I z, .view Aq (t.aD.map AI),I t.aD.length,I (j+1:Nat)]):=by
   rw[Qvm];simp only[go_sem,af,aj,OA D,aa O,Ae (x:=(j:Int)+1) (by omega)];rw[aa (by omega)];unfold eI at M;unfold i64 at T;generalize pcA t.aD j=c at*;have G:∀y:Int,-9223372036854775808-2000000000000000<=y->y<=9223372036854775807+2000000000000000->(wrap .i64 y=y/\ -9223372036854775808<=y/\y<=9223372036854775807)\/(wrap .i64 y=y+18446744073709551616/\y< -9223372036854775808)\/(wrap .i64 y=y-18446744073709551616/\y>9223372036854775807):=by
    intro y y1 y2;have hw:=Zpj y;unfold i64 at hw;by_cases L: -9223372036854775808<=y/\y<=9223372036854775807
    ·exact .inl ⟨Ae L,L⟩
    ·have:=S2 y;omega
   by_cases S:c.move=0
   ·have N: ¬(c.move≠0/\0<=(z-c.s)*c.move/\(z-c.s)*c.move<=c.units):=λg=>g.1 S;rw[ab (by omega),ab N];rfl
   ·rw[aa S];have E:c.move=1\/c.move= -1:=by omega
    have a1:=G (z-c.s) (by omega) (by omega);have a0:wrap .i64 (wrap .i64 (z-c.s)*c.move)=(z-c.s)*c.move\/((wrap .i64 (wrap .i64 (z-c.s)*c.move)<0\/wrap .i64 (wrap .i64 (z-c.s)*c.move)>1000000000000000)/\((z-c.s)*c.move<0\/(z-c.s)*c.move>1000000000000000)):=by
     generalize wrap .i64 (z-c.s)=y at*;have a2:=G (y*c.move) (by rcases E with E|E<;>rw[E]<;>omega) (by rcases E with E|E<;>rw[E]<;>omega);rcases E with E|E<;>rw[E]at a2⊢<;>omega
    generalize wrap .i64 (wrap .i64 (z-c.s)*c.move)=n at*;by_cases L:0<=(z-c.s)*c.move/\(z-c.s)*c.move<=c.units
    ·have en:n=(z-c.s)*c.move:=by omega
     have N:c.move≠0/\0<=(z-c.s)*c.move/\(z-c.s)*c.move<=c.units:=⟨S,L⟩;rw[aa N,en,aa L.1,aa L.2,Ae (by omega)]
    ·have N: ¬(c.move≠0/\0<=(z-c.s)*c.move/\(z-c.s)*c.move<=c.units):=λg=>L g.2;rw[ab N];by_cases V:0<=n
     ·rw[aa V,ab (by omega)];rfl
     ·rw[ab V];rfl
  rw[e];by_cases c:(pcA t.aD j).move≠0/\0<=(z-(pcA t.aD j).s)*(pcA t.aD j).move/\(z-(pcA t.aD j).s)*(pcA t.aD j).move<=(pcA t.aD j).units
  ·rw[aa c]at J;right;rw[A7 J (by simp)];unfold wF;rw[aa c]
  ·rw[ab c]at J;rw[Bv J];unfold wF;rw[ab c];exact Qus h T k (j+1) (by omega)
theorem Zho {t:Trk} (h:TQ t) {z:Int} (J:i64 z):NN (A8 t++[I z])=some [I (Bk t z)]:=by
 have he:=Z8q LR (t.aD.map AI) t.length t.start t.dirs.x t.dirs.y t.dirs.z z;unfold NN;refine Eq.trans he ?_;unfold Bk;rw[af];by_cases c:z=t.start
 ·rw[aa c,BO (by simp[c])]
 ·rw[ab c,Bn (by simp[c])];rcases Qus h J t.aD.length 0 (by omega)with⟨G,E⟩|E
  ·rw[List.drop_zero]at G;have D:LR [I z, .view Aq (t.aD.map AI),I t.aD.length,I 0]=some (2,[]):=E;generalize LR=N at*;rw[G];simp only[D,go_sem];rfl
  ·rw[List.drop_zero]at E;have D:LR [I z, .view Aq (t.aD.map AI),I t.aD.length,I 0]=some (1,[I (wF z t.aD)]):=E;generalize LR=N at*;simp only[D,go_sem]
end Go.Bm
namespace Go.Bm
theorem Zkf (l:Rw) (h:l.length<=100000):Out (λo=>(wA o 0).length<=l.length) (RI [.view Aa l]):=by
 show Out _ (Yb (Al Qrj) [.view Aa l]);rw[Zn9];refine .bind (p:=λo=>o.1=1/\(wA o.2 0).length<=l.length) ?_ λo g=>by rw[g.1];exact .some g.2
 refine Cl (λs:Rw×Nat=>[.view Aa s.1, .view Aa l,I (s.2:Int)]) (λs=>1<=s.2/\s.2<=l.length+1/\s.1.length+1<=s.2) (λs=>l.length+1-s.2) _ ?_ ([],1) (by simp);rintro⟨v,i⟩ ⟨g1,g2,D⟩;dsimp only at*;rw[Zzm];rw[Ae (x:=(i:Int)-1) (by omega),Ae (x:=(i:Int)+1) (by omega)];refine .cond (λc=> ?_) (λc=> ?_)
 ·have c:=Bb c;refine .cond (λ_=> ?_) λc=>by simp at c;omega
  refine .cond (λ_=> ?_) λc=>by simp at c;omega
  refine .cond (λ_=> ?_) λc=>by rw[Cy (by simp;omega)]at c;cases c
  exact .some (.inl ⟨rfl,(_,i+1),rfl,by simp;omega,by simp;omega⟩)
 ·have c:=Bs c;exact .some (.inr ⟨by simp,rfl,by show v.length<=l.length;omega⟩)
theorem Zws (l:Rw) (n:Int) (h:l.length<=100000):(Qn [.view Aa l,I n]).isSome=true:=by
 show(Vh (Al VI) [.view Aa l,I n]).isSome=true;rw[Zgb];refine Out.is (p:=λ_=>True) ?_;refine .bind (p:=λo=>o.1=1\/o.1=2) ?_ λo g=>by rcases g with g|g<;>rw[g]<;>exact .some trivial
 refine Cl (λs:Nat=>[I n, .view Aa l,I (l.length:Int),I (s:Int)]) (λs=>s<=l.length) (λs=>l.length-s) _ ?_ 0 (by simp);intro i g;rw[Zxh];rw[Ae (x:=(i:Int)+1) (by omega)];refine .cond (λc=> ?_) (λc=> ?_)
 ·have c:=Bb c;refine .cond (λ_=> ?_) λc=>by simp at c;omega
  refine .cond (λ_=> .some (.inr ⟨by simp, .inl rfl⟩)) λ_=> .cond (λ_=> .some (.inr ⟨by simp, .inl rfl⟩)) λ_=> ?_;exact .some (.inl ⟨rfl,i+1,rfl,by omega,by omega⟩)
 ·exact .some (.inr ⟨by simp, .inr rfl⟩)
theorem Z5z {G J:Fn} (D:∀l:Rw,l.length<=100000->Out (λo=>(wA o 0).length<=l.length) (J [.view Aa l])) (E:∀(l:Rw) n,l.length<=100000->(G [.view Aa l,I n]).isSome=true)
  (L M N O S T U V X:Int) (Y l:Rw) (h:l.length<=100000):(Qdi G J [I L,I M,I N,I O,I S,I T,I U,I V,I X, .view Aa Y, .view Aa l]).isSome=true:=by
 rw[Z9p];obtain⟨a,ha,ga⟩:=D l h;rw[ha];simp only[ag];generalize wA a 0=la at*;obtain⟨b,hb,gb⟩:=D la (by omega);rw[hb];simp only[ag];generalize wA b 0=lb at*;obtain⟨c,hc,gc⟩:=D lb (by omega);rw[hc];simp only[ag];generalize wA c 0=lc at*;refine FZ (E _ _ (by omega)) λ_ _=>B6 (λ_=>rfl) λ_=>FZ (E _ _ (by omega)) λ_ _=>B6 (λ_=>rfl) λ_=>FZ (E _ _ (by omega)) λ_ _=>B6 (λ_=>rfl) λ_=>rfl
theorem Z4f (D E G J L M N O S:Int) (T l:Rw) (h:l.length<=100000):(Nj [I D,I E,I G,I J,I L,I M,I N,I O,I S, .view Aa T, .view Aa l]).isSome=true:=Z5z Zkf Zws D E G J L M N O S T l h
theorem Zrc {M:Fn} {x:Ax3} {k:Int} (L:0<=k/\k<=2) {l out:Rw} (J:out.length=l.length) (N:l.length<=100000):
  Out (λo=>o.1=1/\∃v:Rw,o.2= .view Aa v:: .view kPt l::I k::I k::AM x/\v.length=l.length) (Al (Mg M) (.view Aa out:: .view kPt l::I k::I k::I (l.length:Int)::I 0::AM x)):=by
 refine Cl (λs:Rw×Nat=> .view Aa s.1:: .view kPt l::I k::I k::I (l.length:Int)::I (s.2:Int)::AM x) (λs=>s.1.length=l.length/\s.2<=l.length) (λs=>l.length-s.2) _ ?_ (out,0) ⟨J,by simp⟩;rintro⟨v,i⟩ ⟨g1,g2⟩;dsimp only at*;rw[Zqb];rw[Ae (x:=(i:Int)+1) (by omega)];refine .cond (λc=> ?_) (λc=> ?_)
 ·have c:=Bb c;refine .cond (λ_=> ?_) λc=>by simp at c;omega
  refine .cond (λ_=> ?_) λD=> .cond (λ_=> ?_) λE=> .cond (λ_=> ?_) λG=> ?_
  ·refine .cond (λ_=> ?_) λc=>by simp at c;omega
   exact .some (.inl ⟨rfl,(_,i+1),rfl,by simp;omega,by simp;omega⟩)
  ·refine .cond (λ_=> ?_) λc=>by simp at c;omega
   exact .some (.inl ⟨rfl,(_,i+1),rfl,by simp;omega,by simp;omega⟩)
  ·refine .cond (λ_=> ?_) λc=>by simp at c;omega
   exact .some (.inl ⟨rfl,(_,i+1),rfl,by simp;omega,by simp;omega⟩)
  ·have D:=Bs D;have E:=Bs E;have G:=Bs G
   simp at D E G;omega
 ·exact .some (.inr ⟨by simp,rfl,v,rfl,g1⟩)
theorem Zju {M:Fn} (hM:∀(D E G J L N O S T:Int) (U l:Rw),l.length<=100000->(M [I D,I E,I G,I J,I L,I N,I O,I S,I T, .view Aa U, .view Aa l]).isSome=true) (x:Ax3) {l:Rw} (h1:l.length<=100000):
  (Tc M (Al (Mg M)) (Al (SV M (Al (Mg M)))) (AM x++[.view kPt l])).isSome=true:=by
 show(Tc M (Al (Mg M)) (Al (SV M (Al (Mg M)))) [I x.a.step,I x.a.speed,I x.a.accel,I x.a.jerk,I x.a.low,I x.a.high,I x.a.back,I x.a.origin,I x.a.spacing, .view Aa (x.a.pitch.map Ao),I x.b.step,I x.b.speed,I x.b.accel,I x.b.jerk,I x.b.low,I x.b.high,I x.b.back,I x.b.origin,I x.b.spacing, .view Aa (x.b.pitch.map Ao),I x.c.step,I x.c.speed,I x.c.accel,I x.c.jerk,I x.c.low,I x.c.high,I x.c.back,I x.c.origin,I x.c.spacing, .view Aa (x.c.pitch.map Ao), .view kPt l]).isSome=true;rw[Zj7];refine Out.is (p:=λ_=>True) ?_;refine .bind (p:=λo=>o.1=1\/o.1=2) ?_ λo g=>by rcases g with g|g<;>rw[g]<;>exact .some trivial
 refine Cl (λs:Nat=> .view kPt l::I (s:Int)::AM x) (λs=>s<=3) (λs=>3-s) _ ?_ 0 (by omega);intro k hk;rw[Zmk];refine .cond (λc=> ?_) (λc=> ?_)
 ·have c:=Bb c;refine .cond (λ_=> ?_) λc=>by simp at c
  refine .cond (λ_=> ?_) λc=>by simp at c;omega
  refine .bind (Zrc (M:=M) (x:=x) (k:=(k:Int)) (by omega) (by simp) h1) λo g=> ?_;obtain⟨g1,v,g2,g3⟩:=g;obtain⟨o1,o2⟩:=o;subst g1;subst g2;refine .cond (λ_=> ?_) λc=>by simp at c
  have e:wrap .i64 ((k:Int)+1)=((k+1:Nat):Int):=by rw[Ae (by omega)];rfl
  have V:∀(D E G J L N O S T:Int) (U:Rw),(M [I D,I E,I G,I J,I L,I N,I O,I S,I T, .view Aa U, .view Aa v]).isSome=true:=λD E G J L N O S T U=>hM D E G J L N O S T U v (by omega);refine .cond (λ_=> ?_) λX=> .cond (λ_=> ?_) λY=> .cond (λ_=> ?_) λc2=> ?_
  ·refine .ibind (V _ _ _ _ _ _ _ _ _ _) λ_ _=> .cond (λ_=> .some (.inr ⟨by simp, .inl rfl⟩)) λ_=> .some (.inl ⟨rfl,k+1,?_,by omega,by omega⟩);simp only[gA,wA,bA,jA,nth,Af,BZ,e]
  ·refine .ibind (V _ _ _ _ _ _ _ _ _ _) λ_ _=> .cond (λ_=> .some (.inr ⟨by simp, .inl rfl⟩)) λ_=> .some (.inl ⟨rfl,k+1,?_,by omega,by omega⟩);simp only[gA,wA,bA,jA,nth,Af,BZ,e]
  ·refine .ibind (V _ _ _ _ _ _ _ _ _ _) λ_ _=> .cond (λ_=> .some (.inr ⟨by simp, .inl rfl⟩)) λ_=> .some (.inl ⟨rfl,k+1,?_,by omega,by omega⟩);simp only[gA,wA,bA,jA,nth,Af,BZ,e]
  ·have X:=Bs X;have Y:=Bs Y;have c2:=Bs c2
   simp[gA,wA,bA,jA,nth,Af]at X Y c2;omega
 ·exact .some (.inr ⟨by simp, .inr rfl⟩)
theorem Zpq (x:Ax3) {l:Rw} (D:l.length<=100000):(NJ (AM x++[.view kPt l])).isSome=true:=Zju Z4f x D
theorem Za5 (u:Int):(Ja [I u]).isSome=true:=by
 show(Qoh [I u]).isSome=true;rw[Z6f];exact B6 (λ_=>rfl) λ_=>rfl
structure Fix (p : Pth) (x : Ax3) (t : Trk) : Prop where
 p:GoodPath p
 x:Ax3M x
 t:TH t
theorem Qe {p:Pth} {x:Ax3} {t:Trk} (h:Fix p x t) (u:Int):Et (pxt p x t [I u])=some (ptR (Eo p x t u)):=Z6z h.p h.x h.t u
theorem Z3e {E G J:Fn} {p:Pth} {x:Ax3} {t:Trk} (M:∀{l:Rw},l.length<=100000->(E (AM x++[.view kPt l])).isSome=true) (N:∀u,(G (pxt p x t [I u])).isSome=true) (O:∀u,(J [I u]).isSome=true) {way:Rw} (S:way.length<=100000):
  (Qf7 E G J (Al (ZN E G J)) (pxt p x t [.view Aa way])).isSome=true:=by
 rw[Zks];refine Out.is (p:=λ_=>True) ?_;refine .bind (p:=λo=>o.1=1\/o.1=2) ?_ λo g=>by rcases g with g|g<;>rw[g]<;>exact .some trivial
 refine Cl (λs:Rw×Nat=> .view kPt s.1:: .view Aa way::I (way.length:Int)::I (s.2:Int)::pxt p x t []) (λs=>s.1.length<=4/\s.2<=way.length) (λs=>way.length-s.2) _ ?_ ([],0) (by simp);rintro⟨v,i⟩ ⟨g1,g2⟩;dsimp only at g1 g2;rw[Zzo];try dsimp only[D]
 rw[Ae (x:=(i:Int)+1) (by omega)];refine .cond (λc=> ?_) (λc=> ?_)
 ·have c:=Bb c;refine .cond (λ_=> ?_) λc=>by simp at c;omega
  refine .ibind (O _) λa _=> .ibind (N _) λb _=> ?_;refine .cond (λ_=> ?_) λc=>by rw[Cy (by simp;omega)]at c;cases c
  generalize [jA b 0,jA b 1,jA b 2]=q;refine .cond (λ_=> ?_) λL=> ?_
  ·refine .cond (λ_=> ?_) λc=>by simp at c;omega
   refine .cond (λ_=> ?_) λc=>by rw[Cy (by simp)]at c;cases c
   refine .ibind (M (l:=List.drop (Int.toNat 1) (v++[q])) (by simp;omega)) λ_ _=> .cond (λ_=> .some (.inr ⟨by simp, .inl rfl⟩)) λ_=> ?_;exact .some (.inl ⟨rfl,(_,i+1),rfl,by simp;omega,by simp;omega⟩)
  ·have L:=Bs L;simp at L;refine .ibind (M (l:=v++[q]) (by simp;omega)) λ_ _=> .cond (λ_=> .some (.inr ⟨by simp, .inl rfl⟩)) λ_=> ?_;exact .some (.inl ⟨rfl,(_,i+1),rfl,by simp;omega,by simp;omega⟩)
 ·exact .some (.inr ⟨by simp, .inr rfl⟩)
theorem Qw3 {p:Pth} {x:Ax3} {t:Trk} (h:Fix p x t) {way:Rw} (D:way.length<=100000):(Oq (pxt p x t [.view Aa way])).isSome=true:=
 Z3e (Zpq x) (λu=>by rw[Qe h u];rfl) Za5 D
theorem Zdj (M N:Int) (O b1 b2:Bool) (S T U V X D E G J L:Int):(Q2 [I M,I N,B O,B b1,B b2,I S,I T,I U,I V,I X,I D,I E,I G,I J,I L]).isSome=true:=by
 show(Qkx [I M,I N,B O,B b1,B b2,I S,I T,I U,I V,I X,I D,I E,I G,I J,I L]).isSome=true;rw[Z2w]
 repeat' first|exact rfl|refine B6 (λ_=> ?_) (λ_=> ?_)
theorem Qpm {p:Pth} {x:Ax3} {t:Trk} (h:Fix p x t) (u:Int):i64 (AE t u):=by
 have:=Qzj h.t.q u;unfold i64;omega
theorem Qa2:∀(l:List Sgm) (s:Int),l≠[]->(Bu l s).1<l.length
 |[],_,h=>absurd rfl h
 |[g],s,_=>by unfold Bu;split<;>simp
 |g::h::l,s,_=>by
  by_cases c:s<g.len
  ·rw[Bu,aa c];simp
  ·rw[Zaf c];have:=Qa2 (h::l) (s-g.len) (by simp);simp at this⊢;omega
theorem Z2d {p:Pth} {x:Ax3} {t:Trk} (h:Fix p x t) {s:Int} (D:i64 s):∃i v:Int,Fc (Br p++[I s])=some [I i,I v]/\(i= -1\/0<=i/\i<p.aE.length)/\(p.aE≠[]->0<=i):=by
 rw[Vq (h.p.ok) D];by_cases c:p.aE=[]
 ·rw[aa c];exact⟨-1,0,rfl, .inl rfl,λh=>absurd c h⟩
 ·rw[ab c];have:=Qa2 p.aE (max s 0) c;exact⟨_,_,rfl, .inr ⟨by omega,by omega⟩,λ_=>by omega⟩
theorem Z5k {S T U V:Fn} {p:Pth} {t:Trk} (X:∀(Y x1:Int) (D b1 b2:Bool) (x5 x6 x7 x8 x9 E G J L M:Int),(S [I Y,I x1,B D,B b1,B b2,I x5,I x6,I x7,I x8,I x9,I E,I G,I J,I L,I M]).isSome=true)
  (hF:∀s,i64 s->∃i v:Int,T (Br p++[I s])=some [I i,I v]/\(i= -1\/0<=i/\i<p.aE.length)/\(p.aE≠[]->0<=i)) (hP:∀u,∃s,U (A8 t++[I u])=some [I s]/\i64 s) (hU:∀u,(V [I u]).isSome=true) (N:p.aE≠[])
  (a b c o0 o1:Int) (D b1 b2:Bool) (u:Int):
  (Qjt S T U V (Fu p t [I a,I b,I c,I o0,I o1,B D,B b1,B b2,I u])).isSome=true:=by
 rw[Zog];refine FZ (hU _) λq _=> ?_;obtain⟨s,h1,h2⟩:=hP (gA q 0);rw[h1];simp only[ag];obtain⟨i,v,g1,g2,O⟩:=hF s h2;simp only[gA,wA,bA,jA,nth,Af];rw[g1];simp only[ag,gA,wA,bA,jA,nth,Af];have O:=O N;refine B6 (λ_=>FZ (X _ _ _ _ _ _ _ _ _ _ _ _ _ _ _) λ_ _=>rfl) λc=> ?_;simp at c;have:=c (al O);omega
theorem Zm9 {p:Pth} {x:Ax3} {t:Trk} (h:Fix p x t) (D:p.aE≠[]) (a b c o0 o1:Int) (E b1 b2:Bool) (u:Int):
  (NV (Fu p t [I a,I b,I c,I o0,I o1,B E,B b1,B b2,I u])).isSome=true:=
 Z5k Zdj (λ_ G=>Z2d h G) (λu=>⟨_,RO h.t.q u,Qpm h u⟩) Za5 D a b c o0 o1 E b1 b2 u
theorem Zq5 {E G:Fn} {p:Pth} {t:Trk} {a b c o0 o1:Int} {J b1 b2:Bool} (D:p.aE≠[]->∀u,(E (Fu p t [I a,I b,I c,I o0,I o1,B J,B b1,B b2,I u])).isSome=true)
  (N:∀a b c O S T U V X,Out (λo=>(wA o 0).length<=4096) (G [I a,I b,I c,I O,I S,I T,I U,I V,I X])) (m0 m1 m2 m3 m4 m5:Int):
  (Qh3 E G (Al (Xo E G)) (Fu p t [I a,I b,I c,I o0,I o1,B J,B b1,B b2,I m0,I m1,I m2,I m3,I m4,I m5])).isSome=true:=by
 rw[Zkp];obtain⟨o,Y,h2⟩:=N a b c m0 m1 m2 m3 m4 m5;rw[Y];simp only[ag];generalize wA o 0=sp at*;refine B6 (λ_=>rfl) λ_=>B6 (λ_=>rfl) λM=> ?_;have L:p.aE≠[]:=by
  intro e;rw[e]at M;simp at M
 have D:=D L;refine FZ (D _) λ_ _=>B6 (λ_=>rfl) λ_=> ?_;refine Out.is (p:=λ_=>True) ?_;refine .bind (p:=λo=>o.1=1\/o.1=2) ?_ λo g=>by rcases g with g|g<;>rw[g]<;>exact .some trivial
 refine Cl (λs:Int×Nat=>I s.1:: .view Aa sp::I (sp.length:Int)::I (s.2:Int)::Fu p t [I a,I b,I c,I o0,I o1,B J,B b1,B b2]) (λs=>s.2<=sp.length) (λs=>sp.length-s.2) _ ?_ (m0,0) (by simp);rintro⟨v,i⟩ g;dsimp only at g;rw[Zjv];rw[Ae (x:=(i:Int)+1) (by omega)];refine .cond (λc=> ?_) (λc=> ?_)
 ·have c:=Bb c;refine .cond (λ_=> ?_) λc=>by simp at c;omega
  refine .ibind (D _) λ_ _=> .cond (λ_=> .some (.inr ⟨by simp, .inl rfl⟩)) λ_=> ?_;exact .some (.inl ⟨rfl,(_,i+1),rfl,by dsimp only;omega,by dsimp only;omega⟩)
 ·exact .some (.inr ⟨by simp, .inr rfl⟩)
theorem Zu0 {p:Pth} {x:Ax3} {t:Trk} (h:Fix p x t) (a b c o0 o1:Int) (E b1 b2:Bool) (m0 m1 m2 m3 m4 m5:Int):
  (Mv (Fu p t [I a,I b,I c,I o0,I o1,B E,B b1,B b2,I m0,I m1,I m2,I m3,I m4,I m5])).isSome=true:=
 Zq5 (λD u=>Zm9 h D a b c o0 o1 E b1 b2 u) Qqd m0 m1 m2 m3 m4 m5
theorem Z38 {a b v u q r:Nat} (G:v<a*4294967296+b) (I:u<4294967296) (D:v=q*a+r) (h:4294967296<=q\/r*4294967296+u<q*b):(v*4294967296+u)/(a*4294967296+b)<q:=by
 have E:0<a*4294967296+b:=by omega
 rw[Nat.div_lt_iff_lt_mul E];rcases h with h|h
 ·have J:4294967296*(a*4294967296+b)<=q*(a*4294967296+b):=bf _ h;omega
 ·have e:q*(a*4294967296+b)=q*a*4294967296+q*b:=by rw[Nat.mul_add,Nat.mul_assoc]
  rw[e];clear e;generalize q*a=p at*;generalize q*b=t at*;subst D;rw[Nat.add_mul p r 4294967296,Nat.add_assoc];exact Nat.add_lt_add_left h _
theorem Qzl {a b v u q r:Nat} (E:v<a*4294967296+b) (G:v=q*a+r) (h:q*b<=r*4294967296+u):q<=(v*4294967296+u)/(a*4294967296+b):=by
 have D:0<a*4294967296+b:=by omega
 rw[Nat.le_div_iff_mul_le D];have e:q*(a*4294967296+b)=q*a*4294967296+q*b:=by rw[Nat.mul_add,Nat.mul_assoc]
 rw[e];generalize q*a=p at*;generalize q*b=t at*;omega
theorem Q2w {a b v u:Nat} (D:v<a*4294967296+b) (E:u<4294967296):(v*4294967296+u)/(a*4294967296+b)<4294967296:=by
 rw[Nat.div_lt_iff_lt_mul (by omega)];omega
theorem Qsk {q b:Nat} (D:q<4294967296) (hb:b<4294967296):q*b<=18446744065119617025:=by
 have:=dl (show q<=4294967295 by omega) (show b<=4294967295 by omega);omega
theorem Vy {α:Type} {F G:Nat->Nat->Option α} {a b v u Q:Nat} (D:(v*4294967296+u)/(a*4294967296+b)=Q) (hb:b<4294967296) (T:2147483648<=a) (I:a<4294967296) (E:v<a*4294967296+b) (M:u<4294967296) {X:α}
  (N:∀q r:Nat,q<=4294967297->r<4294967296->F q r=if 4294967296<=q\/r*4294967296+u<q*b then(if 4294967296<=r+a then G (q-1) 0 else F (q-1) (r+a))else G q 0)
  (J:G Q 0=some X):∀(k q r:Nat),q<=Q+k->Q<=q->v=q*a+r->r<4294967296->q<=4294967297->F q r=some X
 |k,q,r,hk,h1,O,U,V=>by
  rw[N q r V U];by_cases c:4294967296<=q\/r*4294967296+u<q*b
  ·rw[aa c];have Y:=Z38 E M O c;rw[D]at Y;have e:v=(q-1)*a+(r+a):=by
    have:(q-1)*a+a=q*a:=by rw[<-Nat.succ_mul];congr 1;omega
    omega
   by_cases S:4294967296<=r+a
   ·rw[aa S];have h6:(q-1)*b<=(r+a)*4294967296+u:=by
     have:=dl (show q-1<=4294967296 by omega) (show b<=4294967296 by omega);omega
    have L:=Qzl E e h6;rw[D]at L;rw[show q-1=Q by omega];exact J
   ·rw[ab S]
    match k with
    |0=>omega
    |k+1=>exact Vy D hb T I E M N J k (q-1) (r+a) (by omega) (by omega) e (by omega) (by omega)
  ·rw[ab c];have L:=Qzl (u:=u) E O (by omega);rw[D]at L;rw[show q=Q by omega];exact J
theorem Q52 {a b v u:Nat} (hb:b<4294967296) (E:2147483648<=a) (G:v<a*4294967296+b) (I:u<4294967296):(v*4294967296+u)/(a*4294967296+b)<=v/a/\v/a<=4294967297/\v=v/a*a+v%a/\v%a<a:=by
 have e:v=v/a*a+v%a:=by have:=Nat.div_add_mod v a;rw[Nat.mul_comm]at this;omega
 have D:v%a<a:=Nat.mod_lt _ (by omega);refine⟨?_,?_,e,D⟩
 ·rw[<-Nat.lt_succ_iff,Nat.div_lt_iff_lt_mul (by omega)];have e2:(v/a).succ*(a*4294967296+b)=(v/a*a+a)*4294967296+(v/a).succ*b:=by rw[Nat.mul_add,<-Nat.mul_assoc,Nat.succ_mul]
  rw[e2];omega
 ·rw[<-Nat.lt_succ_iff,Nat.div_lt_iff_lt_mul (by omega)];omega
theorem wr {x:Nat} (h:x<=18446744073709551615):wrap .u64 (x:Int)=x:=Ic (by omega)
theorem Zx8 {M:Fn} {y s v0:Int} {a b v u:Nat} (hb:b<4294967296) (O:2147483648<=a) (I:a<4294967296) (S:v<a*4294967296+b) (T:u<4294967296):
  Al (Mc M) [U y,U s,U a,U b,U v,U u,U v0,U ((v/a:Nat):Int),U ((v%a:Nat):Int)]=some (1,[U y,U s,U a,U b,U v,U u,U v0,U (((v*4294967296+u)/(a*4294967296+b):Nat):Int)]):=by
 obtain⟨V,X,Y,f4⟩:=Q52 hb O S T;refine Vy (F:=λq r=>Al (Mc M) [U y,U s,U a,U b,U v,U u,U v0,U q,U r]) (G:=λq _=>some (1,[U y,U s,U a,U b,U v,U u,U v0,U q])) rfl hb O I S T ?_ rfl (v/a) _ _ (Nat.le_add_left _ _) V Y (by omega) X;intro q r hq hr;have w1:wrap .u64 ((r:Int)+(a:Int))=((r+a:Nat):Int):=by rw[<-Int.natCast_add,wr (by omega)]
 have w3:wrap .u64 (wrap .u64 (4294967296*(r:Int))+(u:Int))=((r*4294967296+u:Nat):Int):=by rw[show(4294967296:Int)*r=((r*4294967296:Nat):Int) by omega,wr (by omega),<-Int.natCast_add,wr (by omega)]
 have w4:4294967296<=q->wrap .u64 ((q:Int)-1)=((q-1:Nat):Int):=λh=>by rw[show(q:Int)-1=((q-1:Nat):Int) by omega,wr (by omega)]
 have D:=Zoq (Ei:=M) y s a b v u v0 q r;rw[w1,w3]at D;by_cases J:4294967296<=q
 ·rw[Ee (show(q:Int)>=4294967296 by omega),w4 J]at D;show _=if _ then _ else _;rw[aa (.inl J)];by_cases E:4294967296<=r+a
  ·rw[Ee (show((r+a:Nat):Int)>=4294967296 by omega)]at D;rw[aa E];exact A7 D (by simp)
  ·rw[A_ (show¬((r+a:Nat):Int)>=4294967296 by omega)]at D;rw[ab E];exact Bv D
 ·have L:=Qsk (q:=q) (b:=b) (by omega) hb;rw[A_ (show¬(q:Int)>=4294967296 by omega),<-Int.natCast_mul,wr (cg L (by decide))]at D;show _=if _ then _ else _;by_cases N:r*4294967296+u<q*b
  ·rw[Ee (show((q*b:Nat):Int)>((r*4294967296+u:Nat):Int) by omega)]at D;rw[aa (.inr N)];have a0:0<q:=by
    rcases Nat.eq_zero_or_pos q with h|h
    ·rw[h]at N;omega
    ·exact h
   rw[show(q:Int)-1=((q-1:Nat):Int) by omega,wr (by omega)]at D;by_cases E:4294967296<=r+a
   ·rw[Ee (show((r+a:Nat):Int)>=4294967296 by omega)]at D;rw[aa E];exact A7 D (by simp)
   ·rw[A_ (show¬((r+a:Nat):Int)>=4294967296 by omega)]at D;rw[ab E];exact Bv D
  ·rw[A_ (show¬((q*b:Nat):Int)>((r*4294967296+u:Nat):Int) by omega)]at D;rw[ab (λh=>h.elim J N)];exact A7 D (by simp)
theorem Zwe {M:Fn} {N:Lp} {y s q1 w:Int} {a b v u:Nat} (hb:b<4294967296) (S:2147483648<=a) (I:a<4294967296) (T:v<a*4294967296+b) (V:u<4294967296):
  Al (PM M N) [U y,U s,U a,U b,U u,U q1,U ((v%a:Nat):Int),U w,U ((v/a:Nat):Int)]=some (1,[U y,U s,U u,U q1,U w,U (((v*4294967296+u)/(a*4294967296+b):Nat):Int)]):=by
 obtain⟨X,Y,f3,f4⟩:=Q52 hb S T V;refine Vy (F:=λq r=>Al (PM M N) [U y,U s,U a,U b,U u,U q1,U r,U w,U q]) (G:=λq _=>some (1,[U y,U s,U u,U q1,U w,U q])) rfl hb S I T V ?_ rfl (v/a) _ _ (Nat.le_add_left _ _) X f3 (by omega) Y;intro q r hq hr;have w1:wrap .u64 ((r:Int)+(a:Int))=((r+a:Nat):Int):=by rw[<-Int.natCast_add,wr (by omega)]
 have w3:wrap .u64 (wrap .u64 (4294967296*(r:Int))+(u:Int))=((r*4294967296+u:Nat):Int):=by rw[show(4294967296:Int)*r=((r*4294967296:Nat):Int) by omega,wr (by omega),<-Int.natCast_add,wr (by omega)]
 have w4:4294967296<=q->wrap .u64 ((q:Int)-1)=((q-1:Nat):Int):=λh=>by rw[show(q:Int)-1=((q-1:Nat):Int) by omega,wr (by omega)]
 have D:=Zm3 (Ei:=M) (N17:=N) y s a b u q1 r w q;rw[w1,w3]at D;by_cases J:4294967296<=q
 ·rw[Ee (show(q:Int)>=4294967296 by omega),w4 J]at D;show _=if _ then _ else _;rw[aa (.inl J)];by_cases E:4294967296<=r+a
  ·rw[Ee (show((r+a:Nat):Int)>=4294967296 by omega)]at D;rw[aa E];exact A7 D (by simp)
  ·rw[A_ (show¬((r+a:Nat):Int)>=4294967296 by omega)]at D;rw[ab E];exact Bv D
 ·have L:=Qsk (q:=q) (b:=b) (by omega) hb;rw[A_ (show¬(q:Int)>=4294967296 by omega),<-Int.natCast_mul,wr (cg L (by decide))]at D;show _=if _ then _ else _;by_cases O:r*4294967296+u<q*b
  ·rw[Ee (show((q*b:Nat):Int)>((r*4294967296+u:Nat):Int) by omega)]at D;rw[aa (.inr O)];have a0:0<q:=by
    rcases Nat.eq_zero_or_pos q with h|h
    ·rw[h]at O;omega
    ·exact h
   rw[show(q:Int)-1=((q-1:Nat):Int) by omega,wr (by omega)]at D;by_cases E:4294967296<=r+a
   ·rw[Ee (show((r+a:Nat):Int)>=4294967296 by omega)]at D;rw[aa E];exact A7 D (by simp)
   ·rw[A_ (show¬((r+a:Nat):Int)>=4294967296 by omega)]at D;rw[ab E];exact Bv D
  ·rw[A_ (show¬((q*b:Nat):Int)>((r*4294967296+u:Nat):Int) by omega)]at D;rw[ab (λh=>h.elim J O)];exact A7 D (by simp)
theorem Q3c {s:Nat} (D:s<=63):(2:Int)^min (Int.toNat (s:Int)) IntKind.u64.bits=((2^s:Nat):Int):=by
 have e:min (Int.toNat (s:Int)) IntKind.u64.bits=s:=by
  show min (Int.toNat (s:Int)) 64=s;omega
 rw[e];simp
theorem Z2t {s:Nat} (D:s<=63):(2:Int)^min (Int.toNat ((64-s:Nat):Int)) IntKind.u64.bits=((2^(64-s):Nat):Int):=by
 have e:min (Int.toNat ((64-s:Nat):Int)) IntKind.u64.bits=64-s:=by
  show min (Int.toNat ((64-s:Nat):Int)) 64=64-s;omega
 rw[e];simp
theorem Q6f (x y:Nat):((x:Int)).fdiv (y:Int)=((x/y:Nat):Int):=by
 rw[Int.fdiv_eq_ediv_of_nonneg _ (by omega)];rfl
theorem Zk (x y:Nat):((x:Int)).tdiv (y:Int)=((x/y:Nat):Int):=by
 rw[bc (by omega)];rfl
theorem orP {A B s:Nat} (D:B<2^s) (h:A*2^s+B<w64):wrap .u64 (((BitVec.ofInt IntKind.u64.bits ((A*2^s:Nat):Int)|||BitVec.ofInt IntKind.u64.bits (B:Int)).toNat:Nat):Int)=((A*2^s+B:Nat):Int):=by
 rw[BV]at h;have e:(BitVec.ofInt IntKind.u64.bits ((A*2^s:Nat):Int)|||BitVec.ofInt IntKind.u64.bits (B:Int)).toNat=A*2^s+B:=by
  rw[BitVec.toNat_or];have e1:∀v:Nat,v<18446744073709551616->(BitVec.ofInt IntKind.u64.bits (v:Int)).toNat=v:=by
   intro v E;simp only[IntKind.bits,BitVec.toNat_ofInt];omega
  have:=(Nat.two_pow_add_eq_or_of_lt D A).symm;rw[Nat.mul_comm]at this;generalize A*2^s=X at*;rw[e1 _ (by omega),e1 _ (by omega)];exact this
 rw[e,wr (by omega)]
theorem Q14 {v u D y:Nat} (G:y<w64) (I:D=(v*4294967296+u)/y) (E:0<y):wrap .u64 (wrap .u64 (wrap .u64 ((v:Int)*4294967296)+(u:Int))-wrap .u64 ((D:Int)*(y:Int)))=(((v*4294967296+u)%y:Nat):Int):=by
 have J:=Nat.div_add_mod (v*4294967296+u) y;have L:=Nat.mod_lt (v*4294967296+u) E;rw[<-I,Nat.mul_comm]at J;rw[BV]at G;rw[NY,NY,NY,NY,<-Int.natCast_mul];generalize D*y=p at*;generalize(v*4294967296+u)%y=r at*;omega
theorem Q7w {v a:Nat} (D:0<a) (E:v<w64):wrap .u64 ((v:Int)-wrap .u64 (wrap .u64 ((v/a:Nat):Int)*(a:Int)))=((v%a:Nat):Int):=by
 have G:=Nat.div_add_mod v a;have I:=Nat.mod_lt v D;have J:=Nat.div_le_self v a;rw[BV]at E;rw[wr (x:=v/a) (by omega),<-Int.natCast_mul];rw[Nat.mul_comm]at G;generalize v/a*a=p at*;generalize v%a=r at*;rw[wr (x:=p) (by omega),show(v:Int)-(p:Int)=(r:Int) by omega,wr (by omega)]
theorem Z5o {v u1 u0 Y:Nat} (D:0<Y):(v*w64+(u1*4294967296+u0))/Y=(v*4294967296+u1)/Y*4294967296+((v*4294967296+u1)%Y*4294967296+u0)/Y/\
  (v*w64+(u1*4294967296+u0))%Y=((v*4294967296+u1)%Y*4294967296+u0)%Y:=by
 have e:v*w64+(u1*4294967296+u0)=((v*4294967296+u1)%Y*4294967296+u0)+(v*4294967296+u1)/Y*4294967296*Y:=by
  have h:=Nat.div_add_mod (v*4294967296+u1) Y;rw[Nat.mul_comm]at h;rw[BV];generalize(v*4294967296+u1)%Y=r at*;have e2:(v*4294967296+u1)/Y*4294967296*Y=(v*4294967296+u1)/Y*Y*4294967296:=by rw[Nat.mul_assoc,Nat.mul_comm 4294967296,<-Nat.mul_assoc]
  rw[e2];generalize(v*4294967296+u1)/Y*Y=p at*;omega
 rw[e,Nat.add_mul_div_right _ _ D,Nat.add_mul_mod_self_right];exact⟨Nat.add_comm _ _,rfl⟩
theorem Zum {M:Fn} {E D y s:Nat} (h0:0<E) (h1:E<y) (a8:y<w64) (a4:D<w64) (hs:s<=63) (h2:9223372036854775808<=y*2^s) (G:y*2^s<w64) (hM:M [U y]=some [I s]):
  Qdv M (Al (Mc M)) (Al (PM M (Al (Mc M)))) [U E,U D,U y]=some [U (((E*w64+D)/y:Nat):Int),U (((E*w64+D)%y:Nat):Int)]:=by
 have hP:0<2^s:=Nat.two_pow_pos _;have a0:2^s*2^(64-s)=w64:=by rw[BV,<-Nat.pow_add,show s+(64-s)=64 by omega]
 have hT:0<2^(64-s):=Nat.two_pow_pos _;have es:wrap .u64 (s:Int)=s:=wr (by omega);have et:wrap .u64 (64-(s:Int))=((64-s:Nat):Int):=by rw[show(64:Int)-s=((64-s:Nat):Int) by omega,wr (by omega)]
 have hB:D/2^(64-s)<2^s:=by rw[Nat.div_lt_iff_lt_mul hT,a0];exact a4
 have hv:E*2^s+D/2^(64-s)<y*2^s:=by
  have:E*2^s+2^s<=y*2^s:=by rw[<-Nat.succ_mul];exact bf _ h1
  omega
 have hN:(E*w64+D)*2^s=(E*2^s+D/2^(64-s))*w64+D*2^s%w64:=by
  have e1:D*2^s/w64=D/2^(64-s):=by
   rw[<-a0,Nat.mul_comm D,Nat.mul_div_mul_left _ _ hP]
  have e2:=Nat.div_add_mod (D*2^s) w64;rw[e1]at e2;rw[Nat.add_mul,Nat.add_mul,Nat.add_assoc,Nat.mul_comm (D/2^(64-s)),e2];congr 1;rw[Nat.mul_assoc,Nat.mul_comm w64,Nat.mul_assoc]
 have hU:D*2^s%w64<w64:=Nat.mod_lt _ RR;have ey:wrap .u64 ((y:Int)*((2^s:Nat):Int))=((y*2^s:Nat):Int):=by rw[<-Int.natCast_mul,wr (Nat.le_of_lt_succ (by rw[BV]at G;exact G))]
 have eh:wrap .u64 ((E:Int)*((2^s:Nat):Int))=((E*2^s:Nat):Int):=by
  rw[<-Int.natCast_mul,wr (Nat.le_of_lt_succ (by have:=Nat.mul_lt_mul_of_pos_right h1 hP;rw[BV]at G;exact Nat.lt_trans this G))]
 have el:wrap .u64 ((D:Int)*((2^s:Nat):Int))=((D*2^s%w64:Nat):Int):=by
  rw[<-Int.natCast_mul,NY,BV];rfl
 have eo:=orP (A:=E) (B:=D/2^(64-s)) (s:=s) hB (by omega);have hq:(E*w64+D)/y=(E*w64+D)*2^s/(y*2^s):=(Nat.mul_div_mul_right _ _ hP).symm;have hr:(E*w64+D)%y=(E*w64+D)*2^s%(y*2^s)/2^s:=by rw[Nat.mul_mod_mul_right,Nat.mul_div_cancel _ hP]
 rw[hq,hr,hN];rw[Q0b];simp only[hM,ag,Ik,Mx,L7,Rk,PT,Ue,Qe8,Qds,H5,gA,jA,wA,bA,es,et,Q3c hs,Z2t hs,ey,eh,el,Q6f,eo];rw[Bn (by simp;omega),A_ (show¬(y:Int)<=E by omega),Bn (by simp;omega),A_ (show¬(s:Int)<0 by omega),A_ (show¬(s:Int)<0 by omega),A_ (show¬((64-s:Nat):Int)<0 by omega),A_ (show¬(s:Int)<0 by omega)];rw[Q0m,Q3d _ G,Q0m,Q3d _ hU];have S:y*2^s=y*2^s/4294967296*4294967296+y*2^s%4294967296:=by omega
 have hW:D*2^s%w64=D*2^s%w64/4294967296*4294967296+D*2^s%w64%4294967296:=by omega
 have hb:y*2^s%4294967296<4294967296:=Nat.mod_lt _ (by omega);have a1:D*2^s%w64%4294967296<4294967296:=Nat.mod_lt _ (by omega);have a2:D*2^s%w64/4294967296<4294967296:=by rw[BV]at hU⊢;omega
 have ha:2147483648<=y*2^s/4294967296:=by omega
 have a3:y*2^s/4294967296<4294967296:=by rw[BV]at G;omega
 clear hN hq hr eh el eo ey hB;generalize E*2^s+D/2^(64-s)=v at*;generalize D*2^s%w64=w at*;generalize y*2^s=Y at*;generalize w/4294967296=u1 at*;generalize w%4294967296=u0 at*;generalize Y/4294967296=a at*;generalize Y%4294967296=b at*;subst hW;rw[A_ (show¬(a:Int)=0 by omega),Zk,Q7w (by omega) (Nat.lt_trans hv G),wr (x:=v/a) (by have:=Nat.div_le_self v a;rw[BV]at G;omega)];have hl:=Zx8 (M:=M) (y:=(Y:Int)) (s:=s) (v0:=u0) hb ha a3 (by rw[<-S];exact hv) a2;rw[hl];rw[<-S];have J:0<Y:=by omega
 have T:=Q14 (v:=v) (u:=u1) (y:=Y) G rfl J;have a5:(v*4294967296+u1)/Y<4294967296:=by rw[S];exact Q2w (by rw[<-S];exact hv) a2
 have L:=Nat.mod_lt (v*4294967296+u1) J;obtain⟨k1,k2⟩:=Z5o (v:=v) (u1:=u1) (u0:=u0) J;rw[k1,k2];clear hl k1 k2;obtain⟨V,g1⟩:∃V,(v*4294967296+u1)/Y=V:=⟨_,rfl⟩;obtain⟨O,g2⟩:∃O,(v*4294967296+u1)%Y=O:=⟨_,rfl⟩;rw[g1]at T a5⊢;rw[g2]at T L⊢;simp only[ag,Ik,Mx,L7,Rk,PT,Ue,Qe8,Qds,H5,T];rw[show Nat.beq 1 1=true from rfl,ai,A_ (show¬(a:Int)=0 by omega),Zk,Q7w (by omega) (Nat.lt_trans L G),wr (x:=O/a) (by have:=Nat.div_le_self O a;rw[BV]at G;omega)];have a6:=Zwe (M:=M) (N:=Al (Mc M)) (y:=(Y:Int)) (s:=s) (q1:=V) (w:=O) hb ha a3 (by rw[<-S];exact L) a1;rw[a6];rw[<-S];have X:=Q14 (v:=O) (u:=u0) (y:=Y) G rfl J;have a7:(O*4294967296+u0)/Y<4294967296:=by rw[S];exact Q2w (by rw[<-S];exact L) a1
 obtain⟨q0,g3⟩:∃q0,(O*4294967296+u0)/Y=q0:=⟨_,rfl⟩;obtain⟨r0,g4⟩:∃r0,(O*4294967296+u0)%Y=r0:=⟨_,rfl⟩;rw[g3]at X a7⊢;rw[g4]at X⊢;simp only[ag,Ik,Mx,L7,Rk,PT,Ue,H5,X];rw[show Nat.beq 1 1=true from rfl,ai,A_ (show¬(s:Int)<0 by omega),Q3c hs,Q6f];have w1:wrap .u64 (wrap .u64 ((V:Int)*4294967296)+(q0:Int))=((V*4294967296+q0:Nat):Int):=by
  rw[show(V:Int)*4294967296=((V*4294967296:Nat):Int) by omega,wr (by omega),<-Int.natCast_add,wr (by omega)]
 rw[w1]
theorem Ztx {y:Nat} (N:0<y) (h:y<w64):∃s:Nat,I8 [U y]=some [I s]/\s<=63/\9223372036854775808<=y*2^s/\y*2^s<w64:=by
 have E:=BV;obtain⟨b1,b2,b3⟩:=Lib.bitLenAux_bounds 64 y (by rw[<-show w64=2^64 by rw[E]];exact h) (by omega);have J:Lib.bitLen y=Lib.bitLenAux 64 y:=rfl;generalize hb:Lib.bitLenAux 64 y=L at*;have G:L<=64:=by
  by_cases c:L<=64
  ·exact c
  ·have:=Nat.pow_le_pow_right (show 0<2 by omega) (show 64<=L-1 by omega);rw[show(2:Nat)^64=18446744073709551616 from rfl]at this;omega
 refine⟨64-L,?_,by omega,?_,?_⟩
 ·unfold I8;have D:Ge=18446744073709551616:=rfl;have M:inU (y:Int)=true:=by
   simp only[inU,D,ak,cq];omega
  simp only[Ik,H5,gA,jA,wA,bA,M,ai,aj,J];rw[show(64:Int)-(L:Int)=((64-L:Nat):Int) by omega]
 ·have e:2^(L-1)*2^(64-L)=9223372036854775808:=by rw[<-Nat.pow_add,show L-1+(64-L)=63 by omega]
  rw[<-e];exact bf _ b2
 ·have e:2^L*2^(64-L)=w64:=by rw[<-Nat.pow_add,show L+(64-L)=64 by omega,E]
  rw[<-e];exact Nat.mul_lt_mul_of_pos_right b3 (Nat.two_pow_pos _)
theorem Za2 {D G y:Nat} (I:D<y) (J:y<w64) (E:G<w64):G9 [U D,U G,U y]=some [U (((D*w64+G)/y:Nat):Int),U (((D*w64+G)%y:Nat):Int)]:=by
 rcases Nat.eq_zero_or_pos D with h|h
 ·subst h;rw[Nat.zero_mul,Nat.zero_add];exact Q9d E I
 ·obtain⟨s,e,e1,e2,e3⟩:=Ztx (show 0<y by omega) J;exact Zum h I J E e1 e2 e3 e
theorem Zmh {J L M N O S T:Fn} (h1:∀x b,(J [U x,B b]).isSome=true) (h2:∀x y b c,(L [I x,I y,B b,B c]).isSome=true) (V:∀x y,(M [I x,I y]).isSome=true)
  (h4:∀{X Y y:Nat},X<y->y<w64->Y<w64->(N [U X,U Y,U y]).isSome=true) (h5:∀{x y:Nat},x<w64->y<w64->O [U x,U y]=some [U ((x*y/w64:Nat):Int),U ((x*y%w64:Nat):Int)])
  (D:∀{x:Int},i64 x->S [I x]=some [U (x.natAbs:Int)]) (h7:∀x,(T [I x]).isSome=true) {a b c:Int} (ha:i64 a) (hb:i64 b) (hc:i64 c) (m:Int):
  (S5 J L M N O S T [I a,I b,I c,I m]).isSome=true:=by
 have E:∀{x:Int},i64 x->x.natAbs<w64:=by
  intro x hx;unfold i64 at hx;rw[BV];omega
 rw[Q9l,D ha,D hb,D hc];refine B6 (λ_=>rfl) λ_=>FZ (h7 _) λ_ _=>B6 (λ_=>rfl) λ_=> ?_;simp only[ag,gA,wA,bA,jA,nth,Af];rw[h5 (E ha) (E hb)];simp only[ag,gA,wA,bA,jA,nth,Af];refine B6 (λ_=>rfl) λc0=> ?_;have c0:=Bs c0;have G:a.natAbs*b.natAbs%w64<w64:=Nat.mod_lt _ (by rw[BV];decide);refine FZ (h4 (by omega) (E hc) G) λ_ _=>FZ (V _ _) λ_ _=> ?_
 repeat' first|exact rfl|exact h1 _ _|exact h2 _ _ _ _|exact V _ _|refine B6 (λ_=> ?_) (λ_=> ?_)|refine FZ ?_ λ_ _=> ?_
theorem Zl7 (x:Int) (b:Bool):(FA [U x,B b]).isSome=true:=by
 show(Qhl [U x,B b]).isSome=true;rw[Qpu]
 repeat' first|exact rfl|refine B6 (λ_=> ?_) (λ_=> ?_)
theorem Zh0 (x y:Int) (b c:Bool):(If [I x,I y,B b,B c]).isSome=true:=by
 show(Qk6 [I x,I y,B b,B c]).isSome=true;rw[Q0x]
 repeat' first|exact rfl|refine B6 (λ_=> ?_) (λ_=> ?_)
theorem Z67 (x y:Int):(Gp [I x,I y]).isSome=true:=by
 show(Qix [I x,I y]).isSome=true;rw[Qut]
 repeat' first|exact rfl|refine B6 (λ_=> ?_) (λ_=> ?_)
theorem Z1u (x:Int):(Gm [I x]).isSome=true:=by
 show(VE [I x]).isSome=true;rw[Q38]
 repeat' first|exact rfl|refine B6 (λ_=> ?_) (λ_=> ?_)
theorem Qjo {a b c:Int} (G:i64 a) (hb:i64 b) (J:i64 c) (m:Int):(BE [I a,I b,I c,I m]).isSome=true:=
 Zmh Zl7 Zh0 Z67 (λD E L=>by rw[Za2 D E L];rfl) (λD E=>Q3v D E) (λh=>I4 h) Z1u G hb J m
theorem UI (x:Int):i64 (wrap .i64 x):=Z55 x
theorem Qw6 {M:Fn} {l:List AC} (h:(M l).isSome=true) {f:List AC->List AC}:((M l).bind λo=>some (f o)).isSome=true:=FZ h λ_ _=>rfl
theorem Za6 {a b:Int} (D:i64 a) (hb:i64 b):(Qj [I a,I b]).isSome=true:=by
 show(X0 BE [I a,I b]).isSome=true;have h:=Qjo D hb (show i64 4096 by unfold i64;omega) 0;generalize BE=M at*;rw[Z0g];exact Qw6 h
theorem Q5p {a:Int} (D:i64 a):(FE [I a]).isSome=true:=by
 show(Tz BE [I a]).isSome=true;have h:=Qjo D (show i64 1048576 by unfold i64;omega) (show i64 60000 by unfold i64;omega) 2;generalize BE=M at*;rw[Q24];exact Qw6 h
theorem Q58 (a b:Int):∃v,RG [I a,I b]=some [I v]/\i64 v:=by
 refine⟨mx (wrap .i64 (a-b)) (wrap .i64 (b-a)),?_,?_⟩
 ·show Qau [I a,I b]=_;rw[Zkc]
 ·have D:=UI (a-b);have E:=UI (b-a)
  unfold mx;split<;>assumption
theorem Qtj (a:Int):(Ho [I a]).isSome=true:=by
 show(Qkc [I a]).isSome=true;rw[Zei]
 repeat' first|exact rfl|refine B6 (λ_=> ?_) (λ_=> ?_)
theorem Zn2 {a b:Int} (hb:b≠0):(Kn [I a,I b]).isSome=true:=by
 show(Qkq [I a,I b]).isSome=true;rw[Z6i];refine B6 (λc=>absurd (Bb c) hb) λ_=>B6 (λc=>absurd (Bb c) hb) λ_=>B6 (λ_=>rfl) λ_=>rfl
theorem Zj3 (G J L O D:Int) {E:Int} (S:i64 E):(Lo [I G,I J,I L,I O,I D,I E]).isSome=true:=by
 show(YB FE Ho [I G,I J,I L,I O,I D,I E]).isSome=true;have h:=Q5p S;have T:=Qtj D;generalize FE=M at*;generalize Ho=N at*;rw[Zmt]
 repeat' first|exact rfl|exact h|exact T|refine B6 (λ_=> ?_) (λ_=> ?_)|refine FZ ?_ λ_ _=> ?_
theorem Z54 (G J L O D:Int) {E:Int} (S:i64 E):(Nr [I G,I J,I L,I O,I D,I E]).isSome=true:=by
 show(XM FE Ho [I G,I J,I L,I O,I D,I E]).isSome=true;have h:=Q5p S;have T:=Qtj D;generalize FE=M at*;generalize Ho=N at*;rw[Zqx]
 repeat' first|exact rfl|exact h|exact T|refine B6 (λ_=> ?_) (λ_=> ?_)|refine FZ ?_ λ_ _=> ?_
structure Plan3 (a b c : Int) : Prop where
 a:1<=a/\a<=65536
 b:2<=b/\b<=65536
 c:1<=c/\c<=16777216
abbrev Ea (m0 m1 m3 m4 v:Int):List AC:=[I (wrap .i64 (m0+v)),I v,I (wrap .i64 (v-m1)),I m0,I m3,I m4]
theorem TY (m0 m1 m2 m3 m4 m5 v:Int):JS [I m0,I m1,I m2,I m3,I m4,I m5,I v]=some (Ea m0 m1 m3 m4 v):=by
 show Vp [I m0,I m1,I m2,I m3,I m4,I m5,I v]=some (Ea m0 m1 m3 m4 v);rw[Z24]
theorem Dc (a:AC) (l:List AC):nth .dead (a::l) 0=a:=rfl
theorem ES (a:AC) (l:List AC) (n:Nat):nth .dead (a::l) (n+1)=nth .dead l n:=rfl
theorem D5 (n:Int):Af (.int .i64 n)=n:=rfl
theorem Z6m {M:Fn} {p:Pth} {x:Ax3} {t:Trk} (G:∀u,(M (pxt p x t [I u])).isSome=true) (O:0<=t.length/\t.length<=900000000000000) (D E:Int) (S:E-D<=1000000000000):
  (XN M (Al (Qm1 M)) (pxt p x t [I D,I E])).isSome=true:=by
 rw[Zr3];have J:0<=mx 0 (mn D t.length)/\mx 0 (mn D t.length)<=t.length/\mx 0 (mn E t.length)-mx 0 (mn D t.length)<=1000000000000/\mx 0 (mn E t.length)<=t.length:=by
  unfold mx mn
  (repeat' split)<;>omega
 obtain⟨T,U,V,X⟩:=J;generalize mx 0 (mn D t.length)=f at*;generalize mx 0 (mn E t.length)=e at*;refine FZ (G _) λo _=> ?_;refine Out.is (p:=λ_=>True) ?_;refine .bind (p:=λo=>o.1=1) ?_ λo g=>by rw[g];exact .some trivial
 show Out _ (Al _ (.view kPt []::I e::I f::pxt p x t [I (gA o 0),I (gA o 1),I (gA o 2)]));generalize gA o 0=w0;generalize gA o 1=L;generalize gA o 2=N;refine Cl (λs:Rw×Int×Int×Int×Int=> .view kPt s.1::I e::I s.2.1::pxt p x t [I s.2.2.1,I s.2.2.2.1,I s.2.2.2.2]) (λs=>f<=s.2.1/\s.2.1<=t.length/\(s.1.length:Int)<=3*(s.2.1-f)) (λs=>(e-s.2.1).toNat) _ ?_ ([],f,w0,L,N) (by simp;omega);rintro⟨v,u,Y,a1,a2⟩ ⟨q1,q2,q3⟩;dsimp only at*;rw[Z8k];try dsimp only[OV]
 rw[Ae (x:=u+1) (by omega)];refine .cond (λc=> ?_) (λ_=> .some (.inr ⟨by simp,rfl⟩));have c:=Bb c;refine .ibind (G _) λo _=> ?_
 repeat' first
  |(refine .cond (λ_=> ?_) λc=>by rw[Cy (by simp;omega)]at c;cases c)
  |refine .cond (λ_=> ?_) (λ_=> ?_)
 all_goals refine Out.some (Or.inl ⟨rfl,(_,u+1,_,_,_),rfl,by simp;omega,by show(e-(u+1)).toNat<(e-u).toNat;omega⟩)
theorem Z79 {p:Pth} {x:Ax3} {t:Trk} (h:Fix p x t) (D E:Int) (G:E-D<=1000000000000):(Kj (pxt p x t [I D,I E])).isSome=true:=
 Z6m (λu=>by rw[Qe h u];rfl) h.t.q.len D E G
def BX (k b:Int):Int:=if b<=0 then 0 else(b-1)/k*b-k*((b-1)/k*((b-1)/k+1)/2)
def CQ (j k v a:Int):Prop:= -j<=a/\a<=j/\BX k (-a)<=v/\v<=16777216-BX k a/\(v=0->a<=k)
instance (j k v a:Int):Decidable (CQ j k v a):=by unfold CQ;infer_instance
theorem Q46 {k b:Int} (G:2<=k/\k<=65536) (hb:0<b/\b<=1048576):
  0<=(b-1)/k/\(b-1)/k<=524288/\k*((b-1)/k)<=b-1/\0<=(b-1)/k*b/\(b-1)/k*b<=549755813888/\0<=(b-1)/k*((b-1)/k+1)/\(b-1)/k*((b-1)/k+1)<=274878431232:=by
 have D:0<=(b-1)/k:=Int.ediv_nonneg (by omega) (by omega);have I:k*((b-1)/k)<=b-1:=Int.mul_ediv_self_le (by omega);have J:2*((b-1)/k)<=k*((b-1)/k):=Int.mul_le_mul_of_nonneg_right G.1 D;have E:(b-1)/k<=524288:=by omega
 have L:(b-1)/k*b<=524288*1048576:=dm E hb.2 (by omega) (by omega);have M:(b-1)/k*((b-1)/k+1)<=524288*524289:=dm E (by omega) (by omega) (by omega);exact⟨D,E,I,Int.mul_nonneg D (by omega),by omega,Int.mul_nonneg D (by omega),by omega⟩
theorem JC {k b:Int} (h:b<=0):BX k b=0:=by simp[BX,h]
theorem Qsi {k b:Int} (h:b<=k):BX k b=0:=by
 unfold BX;split
 ·rfl
 ·rw[Int.ediv_eq_zero_of_lt (by omega) (by omega)];simp
theorem Zj9 (m:Int):m*(m+1)/2=(m-1)*m/2+m:=by
 have:m*(m+1)=(m-1)*m+m*2:=by
  rw[Int.sub_mul,Int.mul_add,Int.mul_one,Int.one_mul];omega
 rw[this,Int.add_mul_ediv_right _ _ (by omega)]
theorem Yz {k b:Int} (D:0<k) (h:k<b):BX k b=(b-k)+BX k (b-k):=by
 have e1:(b-1)/k=(b-k-1)/k+1:=by
  have:b-1=(b-k-1)+k*1:=by omega
  rw[this,Int.add_mul_ediv_left _ _ (by omega)]
 unfold BX;rw[ab (by omega),ab (by omega),e1];generalize(b-k-1)/k=m;rw[Zj9 (m+1)];have e2:m+1-1=m:=by omega
 rw[e2,Int.mul_add k,Int.add_mul m 1 b,Int.mul_sub m b k,Int.mul_add k m 1,Int.mul_comm k m];omega
theorem Qs4 {k:Int} (D:0<k):∀(n:Nat) (b:Int),b<=n->0<=BX k b
 |0,b,h=>by rw[JC (by omega)];omega
 |n+1,b,h=>by
  by_cases hb:b<=k
  ·rw[Qsi hb];omega
  ·rw[Yz D (by omega)];have:=Qs4 D n (b-k) (by omega);omega
theorem KB {k b:Int} (D:0<k):0<=BX k b:=Qs4 D b.toNat b (by omega)
theorem Qxq {k b:Int} (D:2<=k/\k<=65536) (hb:b<=1048576):BX k b<=549755813888:=by
 unfold BX;split
 ·omega
 ·have p:=Q46 (k:=k) (b:=b) D ⟨by omega,hb⟩;generalize(b-1)/k=m at p⊢;obtain⟨E,G,I,J,L,M,N⟩:=p;have O:0<=k*(m*(m+1)/2):=Int.mul_nonneg (by omega) (by omega);omega
def bs (k v:Int):Nat->Int->Int->Int
 |0,low,_=>low
 |n+1,low,high=>if low<high then
   if BX k (high-(high-low)/2)<=v-(high-(high-low)/2)then bs k v n (high-(high-low)/2) high else bs k v n low (high-(high-low)/2-1)
  else low
def AG (j k v a:Int):Int:= -(bs k v 20 (-a-k) (min (k-a) j))
theorem Qm4 (k v:Int):∀(n:Nat) (low high:Int),low<=bs k v n low high/\bs k v n low high<=max low high
 |0,low,high=>by simp only[bs];omega
 |n+1,low,high=>by
  unfold bs;split
  ·split
   ·have:=Qm4 k v n (high-(high-low)/2) high;omega
   ·have:=Qm4 k v n low (high-(high-low)/2-1);omega
  ·omega
theorem Qms (k v:Int):∀(n:Nat) (low high:Int),low<=high->high-low<2^n->BX k low<=v-low->
  BX k (bs k v n low high)<=v-bs k v n low high/\low<=bs k v n low high/\bs k v n low high<=high/\(bs k v n low high=high\/v-(bs k v n low high+1)<BX k (bs k v n low high+1))
 |0,low,high,G,J,E=>by
  simp only[bs];have:high-low<1:=by simpa using J
  exact⟨E,by omega,G, .inl (by omega)⟩
 |n+1,low,high,G,J,E=>by
  have L:(2:Int)^(n+1)=2*2^n:=by rw[Int.pow_succ];omega
  unfold bs;by_cases D:low<high
  ·rw[aa D];by_cases I:BX k (high-(high-low)/2)<=v-(high-(high-low)/2)
   ·rw[aa I];obtain⟨a,b,c,d⟩:=Qms k v n (high-(high-low)/2) high (by omega) (by omega) I;exact⟨a,by omega,c,d⟩
   ·rw[ab I];obtain⟨a,b,c,d⟩:=Qms k v n low (high-(high-low)/2-1) (by omega) (by omega) E;refine⟨a,b,by omega, .inr ?_⟩;rcases d with d|d
    ·have e:bs k v n low (high-(high-low)/2-1)+1=high-(high-low)/2:=by omega
     rw[e];omega
    ·exact d
  ·rw[ab D];exact⟨E,by omega,G, .inl (by omega)⟩
theorem Qat {j k r v a:Int} (L:Plan3 j k r) (M:CQ j k v a) {B:Int} (N:B=bs k v 20 (-a-k) (min (k-a) j)):
  BX k B<=v-B/\ -a-k<=B/\B<=k-a/\B<=j/\(B=min (k-a) j\/v-(B+1)<BX k (B+1))/\0<=v:=by
 obtain⟨⟨U,V⟩,⟨X,Y⟩,p5,p6⟩:=L;obtain⟨h1,h2,O,h4,h5⟩:=M;have E:0<k:=by omega
 have l0:=KB (b:= -a) E;have D:BX k (-a-k)<=v-(-a-k):=by
  by_cases S:k< -a
  ·rw[Yz E S]at O;omega
  ·rw[JC (by omega)];omega
 obtain⟨G,I,T,J⟩:=Qms k v 20 (-a-k) (min (k-a) j) (by omega) (by simp;omega) D;rw[<-N]at G I T J;exact⟨G,I,by omega,by omega,J,by omega⟩
theorem closed {j k r v a:Int} (J:Plan3 j k r) (L:CQ j k v a):
  CQ j k (v+AG j k v a) (AG j k v a)/\AG j k v a-a<=k/\a-AG j k v a<=k/\(0<a\/(v=0/\AG j k v a=0)\/AG j k v a<0):=by
 obtain⟨B,M⟩:∃B,B=bs k v 20 (-a-k) (min (k-a) j):=⟨_,rfl⟩;have hb:AG j k v a= -B:=by unfold AG;rw[M]
 obtain⟨Y,q2,q3,q4,D,q6⟩:=Qat J L M;rw[hb];obtain⟨⟨p1,p2⟩,⟨p3,p4⟩,p5,p6⟩:=J;obtain⟨h1,h2,h3,h4,h5⟩:=L;have I:0<k:=by omega
 have top:B+1<=0->B=min (k-a) j:=by
  intro h;rcases D with D|D
  ·exact D
  ·rw[JC h]at D;omega
 have S: -a<=B\/0<=B:=by
  by_cases E:B+1<=0
  ·have:=top E;omega
  ·right;omega
 have G:a<=0->0<=B:=λN=>by
  by_cases E:B+1<=0
  ·have:=top E;omega
  ·omega
 have la:=KB (b:=a) I;have T: -j<=B:=by
  by_cases E:B+1<=0
  ·have:=top E;omega
  ·omega
 have e1: -(-B)=B:=by omega
 refine⟨⟨by omega,by omega,by rw[e1];omega,?_,?_⟩,by omega,by omega,?_⟩
 ·by_cases E:0<=B
  ·rw[JC (b:= -B) (by omega)];omega
  ·have ht:=top (by omega);have U:B=k-a:=by omega
   have e2: -B=a-k:=by omega
   have hs:=Yz (k:=k) (b:=a) I (by omega);rw[e2];omega
 ·intro O;omega
 ·by_cases N:0<a
  ·exact .inl N
  ·right;have V:=G (by omega);by_cases O:v=0
   ·left;have:=KB (b:=B) I;exact⟨O,by omega⟩
   ·right;by_cases X:B=0
    ·rcases D with D|D
     ·omega
     ·rw[X,Qsi (k:=k) (b:=0+1) (by omega)]at D;omega
    ·omega
def BI (j k:Int):Nat->Int->Int->List Int×Bool
 |0,v,_=>([],decide (v<=0))
 |n+1,v,a=>if v<=0 then([],true)else((v+AG j k v a)::(BI j k n (v+AG j k v a) (AG j k v a)).1,(BI j k n (v+AG j k v a) (AG j k v a)).2)
theorem Za8 (j k:Int):∀(n:Nat) (v a:Int),(BI j k n v a).2=true->BI j k (n+1) v a=BI j k n v a
 |0,v,a,h=>by
  have h:v<=0:=of_decide_eq_true h;unfold BI;rw[aa h];show([],true)=([],decide (v<=0));rw[al h]
 |n+1,v,a,h=>by
  unfold BI at h⊢;by_cases c:v<=0
  ·rw[aa c,aa c]
  ·rw[ab c]at h;rw[ab c,ab c,Za8 j k n _ _ h]
theorem FF {j k r v a:Int} (D:Plan3 j k r) (E:CQ j k v a): -65536<=a/\a<=65536/\0<=v/\v<=16777216:=by
 obtain⟨G,I,J,L,-⟩:=E;have M:=D.a;have N:=D.b
 have O:=KB (k:=k) (b:=a) (by omega);have S:=KB (k:=k) (b:= -a) (by omega);omega
end Go.Bm
noncomputable section
namespace Go.Bm
theorem Zc2 {a k c:Int} (D:2<=k/\k<=65536) {d:Int} (J:d<=1048576):G4 [I a,I k,I c,I d]=some [I (BX k d)]:=by
 show Ut _=_;rw[Qdm];by_cases h:d<=0
 ·rw[BO (al h),JC h]
 ·rw[Bn (am h),Bn (am (by omega)),Bn (am (by omega))];obtain⟨L,M,N,O,S,E,T⟩:=Q46 D (show 0<d/\d<=1048576 by omega);rw[Ae (x:=d-1) (by omega),bc (show 0<=d-1 by omega)];unfold BX;rw[ab h];have U:0<=k*((d-1)/k*((d-1)/k+1)/2):=Int.mul_nonneg (by omega) (by omega);have G:k*((d-1)/k*((d-1)/k+1)/2)<=65536*274878431232:=dm D.2 (by omega) (by omega) (by omega);generalize V:(d-1)/k=q at*;rw[Ae (x:=q) (by omega),Ae (x:=q*d) (by omega),Ae (x:=q+1) (by omega),Ae (x:=q*(q+1)) (by omega),bc E];generalize q*(q+1)=y at*;generalize q*d=z at*;rw[Ae (x:=y/2) (by omega),Ae (x:=k*(y/2)) (by omega),Ae (by omega)]
theorem Zi8 {M:Fn} {a k c:Int} (J:Plan3 a k c) (L:∀{d:Int},d<=1048576->M [I a,I k,I c,I d]=some [I (BX k d)]) (v x:Int):QI M [I a,I k,I c,I v,I x]=some [B (decide (CQ a k v x))]:=by
 have O:=J.a;have N:=J.b
 rw[YR,Ae (x:=0-a) (by omega)];refine eC (λh=> ?_) λh=> ?_
 ·have h:x<0-a:=Bb h;rw[am (λq=>by have:=q.1;omega)]
 have h: ¬x<0-a:=Bs h;refine eC (λE=> ?_) λE=> ?_
 ·have E:x>a:=Bb E;rw[am (λq=>by have:=q.2.1;omega)]
 have E: ¬x>a:=Bs E;have S:=Qxq (b:= -x) N (by omega);have T:=Qxq (b:=x) N (by omega);have U:=KB (k:=k) (b:=x) (by omega);have fin: ¬(v=0/\x>k)->((M [I a,I k,I c,I (wrap .i64 (0-x))]).bind λo=>bif decide (v>=gA o 0)then(M [I a,I k,I c,I x]).bind λo2=>some [B (decide (v<=wrap .i64 (16777216-gA o2 0)))]else some [B false])=some [B (decide (CQ a k v x))]:=λV=>by
  rw[Ae (x:=0-x) (by omega),show(0:Int)-x= -x by omega];refine eB (L (by omega)) (eC (λq=> ?_) λq=> ?_)
  ·have q:v>=BX k (-x):=Bb q;refine eB (L (by omega)) ?_;show some [B (decide (v<=wrap .i64 (16777216-BX k x)))]=_;rw[Ae (by omega)];have e:(v<=16777216-BX k x)↔CQ a k v x:=⟨λe=>⟨by omega,by omega,q,e,λz=>by omega⟩,λe=>e.2.2.2.1⟩;rw[decide_eq_decide.2 e]
  ·have q: ¬v>=BX k (-x):=Bs q;rw[am (λw=>q w.2.2.1)]
 refine eC (λD=>eC (λG=> ?_) λG=> ?_) λD=> ?_
 ·have D:v=0:=eq_of_beq D;have G:x>k:=Bb G;rw[am (λq=>by have:=q.2.2.2.2 D;omega)]
 ·exact fin λw=>Bs G w.2
 ·exact fin λw=>by rw[beT w.1]at D;cases D
theorem Zvs {a k c:Int} (D:Plan3 a k c) (v x:Int):GV [I a,I k,I c,I v,I x]=some [B (decide (CQ a k v x))]:=Zi8 D (λE=>Zc2 D.b E) v x
theorem Zfm {k v:Int}:∀(n:Nat) {low high:Int},¬low<high->bs k v n low high=low
 |0,_,_,_=>rfl
 |n+1,_,_,h=>by unfold bs;rw[ab h]
theorem Z27 {M MV:Fn} {a k c v:Int} (J:∀{d:Int},d<=1048576->M [I a,I k,I c,I d]=some [I (BX k d)]) (N: -1099511627776<=v/\v<=1099511627776):∀(n:Nat) (low high:Int),high-low<2^n-> -262144<=low->high<=262144->low<=262144-> -262145<=high->
  Al (Ng M MV) [I v,I low,I high,I a,I k,I c]=some (1,[I (bs k v n low high)]):=by
 have D:∀(n:Nat) {low high:Int},¬low<high->Al (Ng M MV) [I v,I low,I high,I a,I k,I c]=some (1,[I (bs k v n low high)]):=λn low high h=>by
  rw[Zfm n h];refine A7 ?_ (by simp);rw[XF,Bn (am h)]
 intro n;induction n with
 |zero=>
  intro low high h _ _ _ _;have h:high-low<1:=by simpa using h
  exact D 0 (by omega)
 |succ n G=>
  intro low high h O S T U;have L:(2:Int)^(n+1)=2*2^n:=by rw[Int.pow_succ];omega
  rw[L]at h;by_cases cc:low<high
  ·have e1:wrap .i64 (high-wrap .i64 ((wrap .i64 (high-low)).tdiv 2))=high-(high-low)/2:=by
    rw[Ae (x:=high-low) (by omega),bc (show 0<=high-low by omega),Ae (x:=(high-low)/2) (by omega),Ae (by omega)]
   have e2:wrap .i64 (v-(high-(high-low)/2))=v-(high-(high-low)/2):=Ae (by omega);have e3:wrap .i64 (high-(high-low)/2-1)=high-(high-low)/2-1:=Ae (by omega);have E:=XF M MV v low high a k c;rw[BO (al cc),e1,e2,e3,J (by omega)]at E;unfold bs;rw[aa cc];by_cases q:BX k (high-(high-low)/2)<=v-(high-(high-low)/2)
   ·rw[aa q];rw[Bv (E.trans (eB rfl (eT (al (show v-(high-(high-low)/2)>=BX k (high-(high-low)/2)from q)) rfl)))];exact G _ _ (by omega) (by omega) (by omega) (by omega) (by omega)
   ·rw[ab q];rw[Bv (E.trans (eB rfl (eF (am (show¬v-(high-(high-low)/2)>=BX k (high-(high-low)/2)from q)) rfl)))];exact G _ _ (by omega) (by omega) (by omega) (by omega) (by omega)
  ·exact D (n+1) cc
theorem Zgi {M D:Fn} {a k c v x:Int} (E:Plan3 a k c) (G:CQ a k v x) (J:∀{d:Int},d<=1048576->M [I a,I k,I c,I d]=some [I (BX k d)]) (L:D [I a,I k,I c]=some [B true]):
  S8 M D (Al (Ng M D)) [I a,I k,I c,I v,I x]=some [I (AG a k v x)]:=by
 have N:=FF E G;have O:=E.a;have S:=E.b
 rw[Zan];have m1:mx x v=max x v:=by unfold mx;split<;>omega
 have m2:mn x v=min x v:=by unfold mn;split<;>omega
 rw[m1,m2];refine eB L (eF rfl (eF (am (by omega)) (eF (am (by omega)) ?_)));have m3:mn (wrap .i64 (k-x)) a=min (k-x) a:=by rw[Ae (x:=k-x) (by omega)];unfold mn;split<;>omega
 rw[m3,Ae (x:=0-x) (by omega),Ae (x:=0-x-k) (by omega),show(0:Int)-x-k= -x-k by omega];refine eB (Z27 (MV:=D) J (by omega) 20 (-x-k) (min (k-x) a) (by simp;omega) (by omega) (by omega) (by omega) (by omega)) (eT rfl ?_);have hb:=Qm4 k v 20 (-x-k) (min (k-x) a);show some [I (wrap .i64 (0-bs k v 20 (-x-k) (min (k-x) a)))]=_;unfold AG;rw[Ae (by omega),Int.zero_sub]
theorem Qz6 {a k c:Int} (D:Plan3 a k c):FD [I a,I k,I c]=some [B true]:=by
 rw[QN,al];exact⟨D.a.1,D.a.2,D.b.1,D.b.2,D.c.1,D.c.2⟩
theorem Qtc {a k c v x:Int} (D:Plan3 a k c) (E:CQ a k v x):FL [I a,I k,I c,I v,I x]=some [I (AG a k v x)]:=
 Zgi D E (λG=>Zc2 D.b G) (Qz6 D)
def AK (a k v x:Int):List Int×Bool:=if CQ a k v x/\(BI a k 4096 v x).2=true then((BI a k 4096 v x).1,true)else([],false)
theorem Zj5 {D MR MV:Fn} {a k c:Int} (G:Plan3 a k c) (O:∀{v x:Int},CQ a k v x->D [I a,I k,I c,I v,I x]=some [I (AG a k v x)]):∀(n:Nat) (pre:List Int) (v x:Int),pre.length+n=4096->CQ a k v x->
  Al (ID D MR MV) [.view Aa (pre.map Ao),I v,I x,I a,I k,I c]=if(BI a k n v x).2=true then some (2,[.view Aa ((pre++(BI a k n v x).1).map Ao)])else some (1,[B false]):=by
 have fin:∀(n:Nat) (pre:List Int) (v x:Int),v<=0->Al (ID D MR MV) [.view Aa (pre.map Ao),I v,I x,I a,I k,I c]=if(BI a k n v x).2=true then some (2,[.view Aa ((pre++(BI a k n v x).1).map Ao)])else some (1,[B false]):=λn pre v x h=>by
  have e:BI a k n v x=([],true):=by
   cases n with
   |zero=>show([],decide (v<=0))=([],true);rw[al h]
   |succ n=>unfold BI;rw[aa h]
  rw[e,aa rfl];refine A7 ?_ (by simp);rw[QS,Bn (am (by omega)),List.append_nil]
 intro n;induction n with
 |zero=>
  intro pre v x S E;by_cases h:v<=0
  ·exact fin 0 pre v x h
  ·have e:BI a k 0 v x=([],false):=by show([],decide (v<=0))=([],false);rw[am h]
   rw[e,ab (by simp)];refine A7 ?_ (by simp);rw[QS,BO (al (by omega)),BO (beT (by rw[af];omega))]
 |succ n T=>
  intro pre v x S E;by_cases h:v<=0
  ·exact fin (n+1) pre v x h
  ·have L:=closed G E;have U:=FF G E;have M:=FF G L.1;have N:=QS D MR MV (pre.map Ao) v x a k c;rw[BO (al (by omega)),Bn (beF (by rw[af];omega)),O E]at N;have V:wrap .i64 (v+AG a k v x)=v+AG a k v x:=Ae (by omega);have J:ID D MR MV [.view Aa (pre.map Ao),I v,I x,I a,I k,I c]=some (0,[.view Aa ((pre++[v+AG a k v x]).map Ao),I (v+AG a k v x),I (AG a k v x),I a,I k,I c]):=by
    refine N.trans (eB rfl ?_);show cond ((List.length (pre.map Ao++[[I (wrap .i64 (v+AG a k v x))]])*8).ble 140737488355328) (some (0,[AC.view Aa (pre.map Ao++[[I (wrap .i64 (v+AG a k v x))]]),I (wrap .i64 (v+AG a k v x)),I (AG a k v x),I a,I k,I c])) none=_;rw[V,Cy (by simp;omega),bz];rfl
   rw[Bv J,T (pre++[v+AG a k v x]) _ _ (by simp;omega) L.1];have e:BI a k (n+1) v x=((v+AG a k v x)::(BI a k n (v+AG a k v x) (AG a k v x)).1,(BI a k n (v+AG a k v x) (AG a k v x)).2):=by
    show(if v<=0 then _ else _)=_;rw[ab h]
   rw[e];simp only[List.append_assoc,aq,ay]
theorem Z1v {J D E:Fn} {a k c:Int} (L:Plan3 a k c) (M:∀{v x:Int},CQ a k v x->J [I a,I k,I c,I v,I x]=some [I (AG a k v x)]) (N:E [I a,I k,I c]=some [B true])
  (O:∀v x,D [I a,I k,I c,I v,I x]=some [B (decide (CQ a k v x))]) (v x:Int):
  QZ J D E (Al (ID J D E)) [I a,I k,I c,I v,I x]=some [.view Aa ((AK a k v x).1.map Ao),B (AK a k v x).2]:=by
 rw[Wi];refine eB N (eF rfl (eB (O v x) ?_));unfold AK;refine eC (λh=> ?_) λh=> ?_
 ·have h: ¬CQ a k v x:=by
   intro q;have h:(!decide (CQ a k v x))=true:=h;rw[al q]at h;cases h
  rw[ab (λw=>h w.1)];rfl
 ·have h:CQ a k v x:=by
   have h:(!decide (CQ a k v x))=false:=h;by_cases q:CQ a k v x
   ·exact q
   ·rw[am q]at h;cases h
  have G:=Zj5 (MR:=D) (MV:=E) L M 4096 [] v x (by simp) h;by_cases q:(BI a k 4096 v x).2=true
  ·rw[aa q]at G;rw[aa ⟨h,q⟩];exact eB G rfl
  ·rw[ab q]at G;rw[ab (λw=>q w.2)];exact eB G rfl
theorem Zby {a k c:Int} (D:Plan3 a k c) (v x:Int):KS [I a,I k,I c,I v,I x]=some [.view Aa ((AK a k v x).1.map Ao),B (AK a k v x).2]:=
 Z1v D (λE=>Qtc D E) (Qz6 D) (Zvs D) v x
def BJ (u:Int):List Int->List Int
 |[]=>[]
 |v::l=>(u+v)::BJ (u+v) l
def Ct (u:Int):List Int->Int
 |[]=>u
 |v::l=>Ct (u+v) l
theorem Qy5 (v:Int):∀(u:Int) (l:List Int),BJ u (l++[v])=BJ u l++[Ct u l+v]
 |_,[]=>rfl
 |u,w::l=>by simp only[aq,BJ,Ct,Qy5 v (u+w) l]
theorem Qsh (v:Int):∀(u:Int) (l:List Int),Ct u (l++[v])=Ct u l+v
 |_,[]=>rfl
 |u,w::l=>by simp only[aq,Ct,Qsh v (u+w) l]
theorem KV:∀(u:Int) (l:List Int),(BJ u l).length=l.length
 |_,[]=>rfl
 |u,w::l=>by simp[BJ,KV (u+w) l]
theorem YV:∀(u:Int) (l:List Int),l≠[]->(BJ u l)[(BJ u l).length-1]? =some (Ct u l)
 |u,[v],_=>rfl
 |u,v::w::l,_=>by
  have h:=YV (u+v) (w::l) (by simp);rw[KV]at h⊢;simpa [BJ,Ct]using h
theorem Qrx {N:Int}:∀(u:Int) (l:List Int),(∀v∈l,0<=v/\v<=N)->u<=Ct u l/\Ct u l<=u+l.length*N
 |u,[],_=>by simp[Ct]
 |u,v::l,h=>by
  have E:=h v (by simp);have G:=Qrx (N:=N) (u+v) l λw D=>h w (by simp[D]);simp only[Ct,bh];have e:((l.length+1:Nat):Int)*N=l.length*N+N:=by
   rw[Int.natCast_add,Int.add_mul];simp
  rw[e];omega
theorem Q15 {a k c:Int} (D:Plan3 a k c):∀(n:Nat) (v x:Int),CQ a k v x->(BI a k n v x).1.length<=n/\∀w∈(BI a k n v x).1,0<=w/\w<=16777216
 |0,v,x,_=>⟨by simp[BI],λw h=>by simp[BI]at h⟩
 |n+1,v,x,h=>by
  have G:=closed D h;have J:=FF D G.1;have I:=Q15 D n _ _ G.1;unfold BI;by_cases q:v<=0
  ·rw[aa q];exact⟨by simp,λw h=>by cases h⟩
  ·rw[ab q];refine⟨by simp only[bh];omega,λw E=> ?_⟩;rcases av.1 E with rfl|E
   ·omega
   ·exact I.2 w E
theorem P3 {a k c:Int} (D:Plan3 a k c) (v x:Int):(AK a k v x).1.length<=4096/\∀w∈(AK a k v x).1,0<=w/\w<=16777216:=by
 unfold AK;split
 ·rename_i h;exact Q15 D 4096 v x h.1
 ·exact⟨by simp,λw h=>by cases h⟩
theorem Z4y {α:Type} (l:List α) (x y:α) (r:List α):(l++x::r).set l.length y=l++y::r:=by
 rw[List.set_append_right _ _ (co _)];simp
theorem Zw9 {M:Fn} {sp:List Int} {u:Int} (V: -1000000000000000<=u/\u<=1000000000000000) (X:sp.length<=4096) (D:∀v∈sp,0<=v/\v<=16777216):
  Al (H3 M) [.view Aa (List.replicate sp.length [I 0]),I u, .view Aa (sp.map Ao),I sp.length,I 0]=some (1,[.view Aa ((BJ u sp).map Ao)]):=by
 have key:Out (λo=>o=(1,[.view Aa ((BJ u sp).map Ao)])) (Al (H3 M) [.view Aa ((BJ u (sp.take 0)).map Ao++List.replicate (sp.length-0) [I 0]),I (Ct u (sp.take 0)), .view Aa (sp.map Ao),I sp.length,I ((0:Nat):Int)]):=by
  refine Cl (λi:Nat=>[.view Aa ((BJ u (sp.take i)).map Ao++List.replicate (sp.length-i) [I 0]),I (Ct u (sp.take i)), .view Aa (sp.map Ao),I sp.length,I (i:Int)]) (λi=>i<=sp.length) (λi=>sp.length-i) _ ?_ 0 (by simp);intro i E;rw[Qe1];refine .cond (λc=> ?_) λc=> ?_
  ·have c:(i:Int)<(sp.length:Int):=Bb c;have E:i<sp.length:=by omega
   refine .cond (λ_=> ?_) λe=>(inB (by omega) (by rw[af];exact c) e).elim;refine .cond (λ_=> ?_) λe=>(inB (by omega) (by simp[KV];omega) e).elim;have J:nth [] (sp.map Ao) (i:Int).toNat=Ao sp[i]:=by
    rw[aj,Ht [] _ i (by rw[af];exact E),List.getElem_map]
   have L:=Qrx (N:=16777216) u (sp.take i) λv G=>D v (df G);rw[List.length_take_of_le (by omega)]at L;have G:=D _ (bm E);have O:sp.take (i+1)=sp.take i++[sp[i]]:=by
    rw[List.take_add_one,ah E];rfl
   rw[J];show Out _ (some (0,[AC.view Aa (((BJ u (sp.take i)).map Ao++List.replicate (sp.length-i) [I 0]).set (i:Int).toNat [I (wrap .i64 (Ct u (sp.take i)+sp[i]))]),I (wrap .i64 (Ct u (sp.take i)+sp[i])), .view Aa (sp.map Ao),I sp.length,I (wrap .i64 ((i:Int)+1))]));rw[Ae (x:=Ct u (sp.take i)+sp[i]) (by omega),Ae (x:=(i:Int)+1) (by omega),aj];refine .some (.inl ⟨rfl,i+1,?_,by omega,by omega⟩);have S:((BJ u (sp.take i)).map Ao).length=i:=by rw[af,KV,List.length_take_of_le (by omega)]
   have T:sp.length-i=(sp.length-(i+1))+1:=by omega
   rw[O,Qy5,Qsh,T,List.replicate_succ,bz];have:=Z4y ((BJ u (sp.take i)).map Ao) [I 0] [I (Ct u (sp.take i)+sp[i])] (List.replicate (sp.length-(i+1)) [I 0]);rw[S]at this;rw[this];simp;rfl
  ·have c: ¬(i:Int)<(sp.length:Int):=Bs c;refine .some (.inr ⟨by simp,?_⟩);rw[List.take_of_length_le (by omega),show sp.length-i=0 by omega];simp
 obtain⟨o,U,rfl⟩:=key;exact U
theorem Zrm {M:Fn} {a k c v x:Int} (D:M [I a,I k,I c,I v,I x]=some [.view Aa ((AK a k v x).1.map Ao),B (AK a k v x).2]) (hb:(AK a k v x).1.length<=4096/\∀w∈(AK a k v x).1,0<=w/\w<=16777216)
  {u:Int} (E: -1000000000000000<=u/\u<=1000000000000000) (G J L:Int) (N:(AK a k v x).2=false->(AK a k v x).1=[]):
  Po M (Al (H3 M)) [I a,I k,I c,I u,I v,I x,I G,I J,I L]=some [.view Aa ((BJ u (AK a k v x).1).map Ao),B (AK a k v x).2]:=by
 rw[Tm];generalize AK a k v x=z at*;refine eB D (eC (λh=> ?_) λh=> ?_)
 ·have h:z.2=false:=by simpa [bA,nth,C_]using h
  rw[h,N h];rfl
 ·have h:z.2=true:=by simpa [bA,nth,C_]using h
  refine eT (al rfl) (eT ?_ ?_)
  ·show(decide (0<=((z.1.map Ao).length:Int))&&decide (((z.1.map Ao).length:Int)*8<=140737488355328))=true;rw[af,al (show(0:Int)<=(z.1.length:Int) by omega),al (show(z.1.length:Int)*8<=140737488355328 by omega)];rfl
  ·have O:=Zw9 (M:=M) E hb.1 hb.2;refine Eq.trans (congrArg (λq=>Option.bind q _) (show Al (H3 M) [.view Aa (List.replicate ((z.1.map Ao).length:Int).toNat [I 0]),I u, .view Aa (z.1.map Ao),I (z.1.map Ao).length,I 0]=some (1,[.view Aa ((BJ u z.1).map Ao)])from by rw[af,aj];exact O)) ?_;rw[h];rfl
theorem Zbd {a k c:Int} (D:Plan3 a k c) {u:Int} (L: -1000000000000000<=u/\u<=1000000000000000) (v x E G J:Int):
  Fk [I a,I k,I c,I u,I v,I x,I E,I G,I J]=some [.view Aa ((BJ u (AK a k v x).1).map Ao),B (AK a k v x).2]:=
 Zrm (Zby D v x) (P3 D v x) L E G J λh=>by
  unfold AK at h⊢;split at h
  ·cases h
  ·rename_i q;rw[ab q]
end Go.Bm
