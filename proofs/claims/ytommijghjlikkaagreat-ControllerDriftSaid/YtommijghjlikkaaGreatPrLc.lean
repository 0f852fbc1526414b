/- laid together -/
import Derived.Test.YtommijghjlikkaaGreatPrTk
import Derived.Test.YtommijghjlikkaaGreatMx3
import Derived.Lib.ItoaNum
set_option linter.unusedVariables false
set_option linter.unusedSimpArgs false
set_option maxRecDepth 100000
open Go.IntKind (wrap)
namespace Go.Bm
open Classical
def DN (x:Ax3) (mv:Int) (Q:Int->Pt->Prop):Int->Int->Pt->List Pce->Prop
 |_,_,_,[]=>True
 |at_,s,d,c::l=>c.at_=at_/\c.s=s/\1<=c.units/\((c.move=mv/\c.was=c.dirs/\Cn x d c.dirs=0/\∀k,0<=k->k<c.units->Q (s+mv*k) c.dirs)\/(c.move=0/\c.was=d/\c.units=Cn x d c.dirs))/\DN x mv Q (at_+c.units) (s+c.move*c.units) c.dirs l
def Co:Int->List Pce->Int
 |a,[]=>a
 |a,c::l=>Co (a+c.units) l
def C1:Int->List Pce->Int
 |s,[]=>s
 |s,c::l=>C1 (s+c.move*c.units) l
def E3:Pt->List Pce->Pt
 |d,[]=>d
 |_,c::l=>E3 c.dirs l
theorem R6 (c:Pce):∀(a:Int) (l:List Pce),Co a (l++[c])=Co a l+c.units
 |_,[]=>rfl
 |_,k::l=>R6 c _ l
theorem Uz (c:Pce):∀(s:Int) (l:List Pce),C1 s (l++[c])=C1 s l+c.move*c.units
 |_,[]=>rfl
 |_,k::l=>Uz c _ l
theorem Sb (c:Pce):∀(d:Pt) (l:List Pce),E3 d (l++[c])=c.dirs
 |_,[]=>rfl
 |_,k::l=>Sb c _ l
theorem Sv {x:Ax3} {mv:Int} {Q:Int->Pt->Prop} {c:Pce}:∀{at_ s:Int} {d:Pt} {l:List Pce},
  DN x mv Q at_ s d (l++[c])↔DN x mv Q at_ s d l/\c.at_=Co at_ l/\c.s=C1 s l/\1<=c.units/\((c.move=mv/\c.was=c.dirs/\Cn x (E3 d l) c.dirs=0/\∀k,0<=k->k<c.units->Q (C1 s l+mv*k) c.dirs)\/(c.move=0/\c.was=E3 d l/\c.units=Cn x (E3 d l) c.dirs))
 |at_,s,d,[]=>by
  simp only[av,DN,Co,C1,E3,and_true,true_and]
 |at_,s,d,k::l=>by
  simp only[ay,DN,Co,C1,E3];rw[Sv];constructor
  ·rintro⟨h1,h2,h4,h5,h6,h7⟩;exact⟨⟨h1,h2,h4,h5,h6⟩,h7⟩
  ·rintro⟨⟨h1,h2,h4,h5,h6⟩,h7⟩;exact⟨h1,h2,h4,h5,h6,h7⟩
theorem Znl {l:List Pce} (h:l≠[]) (v:Pce):l.set (l.length-1) v=l.dropLast++[v]:=by
 have e:=List.dropLast_concat_getLast h;have hl:l.length-1=l.dropLast.length:=by rw[List.length_dropLast]
 conv=>lhs;arg 1;rw[<-e]
 rw[hl,List.set_append_right _ _ (co _),Nat.sub_self];rfl
theorem Z3m {l:List Pce} (h:l≠[]):l.dropLast++[Bb l]=l:=by
 have e:=List.dropLast_concat_getLast h;have hp:0<l.length:=by
  cases l with
  |nil=>exact absurd rfl h
  |cons _ _=>simp
 have hlt:l.length-1<l.length:=by omega
 have hl:Bb l=l.getLast h:=by
  unfold Bb;rw[List.getD_eq_getElem?_getD,ai hlt,Option.getD_some,List.getLast_eq_getElem]
 rw[hl];exact e
structure TC (x : Ax3) (mv : Int) (Q : Int -> Pt -> Prop) (t : Trk) (s : Int) (d : Pt) : Prop where
 ch:DN x mv Q 0 t.start t.dirs t.aE
 len:Co 0 t.aE=t.length
 s:C1 t.start t.aE=s
 d:E3 t.dirs t.aE=d
theorem XD {x:Ax3} {mv:Int} {Q:Int->Pt->Prop} {t:Trk} {s:Int} {d:Pt} (hm:mv≠0) (h:TC x mv Q t s d) {c:Pce} (hs:c.s=s) (hu:1<=c.units)
  (hc:(c.move=mv/\c.was=c.dirs/\Cn x d c.dirs=0/\∀k,0<=k->k<c.units->Q (s+mv*k) c.dirs)\/(c.move=0/\c.was=d/\c.units=Cn x d c.dirs)):TC x mv Q (E4 t c) (s+c.move*c.units) c.dirs:=by
 obtain⟨h1,h2,h3,h4⟩:=h;unfold E4;by_cases g:t.aE≠[]/\c.move≠0/\(Bb t.aE).move=c.move/\(Bb t.aE).dirs=c.dirs
 ·rw[aa g];obtain⟨g1,g2,g3,g4⟩:=g;have e:=Z3m g1;rw[Znl g1];rw[<-e]at h1 h2 h3 h4;rw[Sv]at h1;rw[R6]at h2;rw[Uz]at h3;rw[Sb]at h4;generalize t.aE.dropLast=I at*;generalize Bb t.aE=L at*;obtain⟨k0,k1,k2,k4,k5⟩:=h1
  replace hc:=hc.resolve_right λh=>g2 h.1
  replace k5:=k5.resolve_right λh=>g2 (g3▸h.1)
  obtain⟨c1,c2,-,c3⟩:=hc;obtain⟨q1,q2,q4,q3⟩:=k5;refine⟨?_,?_,?_,?_⟩
  ·show DN x mv Q 0 t.start t.dirs (I++[_]);rw[Sv];refine⟨k0,k1,k2,by simp only;omega, .inl ⟨q1,q2,q4,?_⟩⟩;intro k hk0 hk1;simp only at hk1;by_cases hlt:k<L.units
   ·exact q3 k hk0 hlt
   ·have:=c3 (k-L.units) (by omega) (by omega);rw[<-h3,q1,<-g4]at this;have ea:C1 t.start I+mv*L.units+mv*(k-L.units)=C1 t.start I+mv*k:=by rw[Int.mul_sub];omega
    rw[ea]at this;exact this
  ·show Co 0 (I++[_])=t.length+c.units;rw[R6];simp only;omega
  ·show C1 t.start (I++[_])=s+c.move*c.units;rw[Uz];simp only;rw[g3]at h3⊢;rw[Int.mul_add];omega
  ·show E3 t.dirs (I++[_])=c.dirs;rw[Sb];exact g4
 ·rw[ab g];refine⟨?_,?_,?_,?_⟩
  ·show DN x mv Q 0 t.start t.dirs (t.aE++[_]);rw[Sv];refine⟨h1,h2.symm,by rw[h3];exact hs,hu,?_⟩;rw[h3,h4];exact hc
  ·show Co 0 (t.aE++[_])=t.length+c.units;rw[R6,h2]
  ·show C1 t.start (t.aE++[_])=s+c.move*c.units;rw[Uz,h3]
  ·show E3 t.dirs (t.aE++[_])=c.dirs;rw[Sb]
theorem Z61 (x:Ax3) (d:Pt):Cn x d d=0:=by unfold Cn slk;simp
theorem Q4g {x:Ax3} {mv:Int} {Q:Int->Pt->Prop} {t:Trk} {s units:Int} {d a b:Pt} (hm:mv≠0) (hx:∀w d,0<=Cn x w d) (h:TC x mv Q t s d) (hu:1<=units) (hQ:∀k,0<=k->k<units->Q (s+mv*k) (DF d a b mv)):
  TC x mv Q (Cy x mv a b s units (t,d)).1 (s+mv*units) (DF d a b mv):=by
 unfold Cy;simp only;generalize DF d a b mv=nx at*;by_cases c:Cn x d nx>0
 ·rw[aa c];have h1:=XD hm h (c:=⟨0,Cn x d nx,s,0,d,nx⟩) rfl (by simp only;omega) (.inr ⟨rfl,rfl,rfl⟩);simp only[Int.zero_mul,dc]at h1;exact XD hm h1 (c:=⟨0,units,s,mv,nx,nx⟩) rfl hu (.inl ⟨rfl,rfl,Z61 x nx,hQ⟩)
 ·rw[ab c];have:=hx d nx;exact XD hm h (c:=⟨0,units,s,mv,nx,nx⟩) rfl hu (.inl ⟨rfl,rfl,by simp only;omega,hQ⟩)
def KM (l:List Sgm) (mv lo hi:Int) (j:Nat):Int:=if mv<0 then min (max (AA l (l.length-j)) lo) hi else min (max (AA l j) lo) hi
def Q9q (p:Pth) (mv:Int) (Q:Int->Pt->Prop):Prop:=∀i,i<p.aF.length->∀(d:Pt) (s:Int),AA p.aF i<=s->s<=AA p.aF (i+1)->AA p.aF i<=s+mv->s+mv<=AA p.aF (i+1)->Q s (DF d (EV p.start p.aF i) (sgA p.aF i).to mv)
theorem Qsc {p:Pth} {x:Ax3} {mv lo hi f:Int} {d:Pt} {Q:Int->Pt->Prop} (hv:mv=1\/mv= -1) (hx:Ax3OK x) (hp:SegOK p.aF) (hlo:0<=lo/\lo<=hi/\hi<=AJ p.aF) (hf:(mv=1/\f=lo)\/(mv= -1/\f=hi)) (hQ:Q9q p mv Q):
  ∀j,j<=p.aF.length->TC x mv Q (B9 p x mv lo hi (⟨[],0,f,d⟩,d) j).1 (KM p.aF mv lo hi j) (B9 p x mv lo hi (⟨[],0,f,d⟩,d) j).2
 |0,_=>by
  have hs:KM p.aF mv lo hi 0=f:=by
   unfold KM;have:=Q2u p.aF;rcases hf with⟨rfl,rfl⟩|⟨rfl,rfl⟩
   ·rw[ab (by omega),TU];omega
   ·rw[aa (by omega),Nat.sub_zero,this];omega
  rw[hs];exact⟨trivial,rfl,rfl,rfl⟩
 |j+1,hj=>by
  have ih:=Qsc hv hx hp hlo hf hQ (f:=f) (d:=d) j (by omega);have hil:=Y3 mv (show j<p.aF.length by omega);have hg:=hp.seg _ (Hs hil);have hsucc:=Qa hil;have hq:=hQ _ hil;rw[B9];unfold HC;have hcase:(mv=1/\Ei p.aF.length mv j=j)\/(mv= -1/\Ei p.aF.length mv j=p.aF.length-1-j):=by
   unfold Ei;rcases hv with rfl|rfl
   ·exact .inl ⟨rfl,ab (by omega)⟩
   ·exact .inr ⟨rfl,aa (by omega)⟩
  have hway:KM p.aF mv lo hi j=(if mv<0 then min (max (AA p.aF (Ei p.aF.length mv j+1)) lo) hi else min (max (AA p.aF (Ei p.aF.length mv j)) lo) hi)/\
    KM p.aF mv lo hi (j+1)=(if mv<0 then min (max (AA p.aF (Ei p.aF.length mv j)) lo) hi else min (max (AA p.aF (Ei p.aF.length mv j+1)) lo) hi):=by
   unfold KM;rcases hcase with⟨rfl,e⟩|⟨rfl,e⟩
   ·rw[e,ab (by omega),ab (by omega),ab (by omega),ab (by omega)];exact⟨rfl,rfl⟩
   ·rw[e,aa (by omega),aa (by omega),aa (by omega),aa (by omega),show p.aF.length-1-j+1=p.aF.length-j by omega,show p.aF.length-(j+1)=p.aF.length-1-j by omega];exact⟨rfl,rfl⟩
  rw[hway.1]at ih;rw[hway.2];generalize Ei p.aF.length mv j=i at*;generalize B9 p x mv lo hi (⟨[],0,f,d⟩,d) j=w at*;obtain⟨t,dn⟩:=w;simp only at ih⊢;by_cases c:max (AA p.aF i) lo<min (AA p.aF (i+1)) hi
  ·rw[aa c];rcases hcase with⟨rfl,-⟩|⟨rfl,-⟩
   ·rw[ab (by omega)]at ih⊢;rw[ab (by omega)];have e1:min (max (AA p.aF i) lo) hi=max (AA p.aF i) lo:=by omega
    rw[e1]at ih;have:=Q4g (a:=EV p.start p.aF i) (b:=(sgA p.aF i).to) (units:=min (AA p.aF (i+1)) hi-max (AA p.aF i) lo) (by omega) (λw d=>(Ut hx w d).1) ih (by omega) (λk h0 h1=>hq dn _ (by omega) (by omega) (by omega) (by omega));have e2:max (AA p.aF i) lo+1*(min (AA p.aF (i+1)) hi-max (AA p.aF i) lo)=min (max (AA p.aF (i+1)) lo) hi:=by omega
    rw[e2]at this;exact this
   ·rw[aa (by omega)]at ih⊢;rw[aa (by omega)];have e1:min (max (AA p.aF (i+1)) lo) hi=min (AA p.aF (i+1)) hi:=by omega
    rw[e1]at ih;have:=Q4g (a:=EV p.start p.aF i) (b:=(sgA p.aF i).to) (units:=min (AA p.aF (i+1)) hi-max (AA p.aF i) lo) (by omega) (λw d=>(Ut hx w d).1) ih (by omega) (λk h0 h1=>hq dn _ (by omega) (by omega) (by omega) (by omega));have e2:min (AA p.aF (i+1)) hi+ -1*(min (AA p.aF (i+1)) hi-max (AA p.aF i) lo)=min (max (AA p.aF i) lo) hi:=by omega
    rw[e2]at this;exact this
  ·rw[ab c];have e:(if mv<0 then min (max (AA p.aF (i+1)) lo) hi else min (max (AA p.aF i) lo) hi)=(if mv<0 then min (max (AA p.aF i) lo) hi else min (max (AA p.aF (i+1)) lo) hi):=by
    split<;>omega
   rw[<-e];exact ih
theorem Zer {l:List Pce} (h:l≠[]):nth [] (l.map AB) (l.length-1)=AB (Bb l):=by
 have hp:0<l.length:=by cases l with
  |nil=>exact absurd rfl h
  |cons _ _=>simp
 unfold Bb;have hlt:l.length-1<l.length:=by omega
 rw[IU _ _ _ _ hlt,List.getD_eq_getElem?_getD,ai hlt,Option.getD_some]
theorem Qw9 {a b:Pt}:a=b↔a.x=b.x/\a.y=b.y/\a.z=b.z:=Dt
theorem Z5n {t:Trk} {c:Pce} {n m k:Int} (h:TB t n m) (hn:n<=10000000) (hm:m<=1000000000000000000) (hk:k<=1000000000000000000) (hc:0<=c.units/\c.units<=k):
  Qjg [.view Ap (t.aE.map AB),I c.at_,I c.units,I c.s,I c.move,I c.was.x,I c.was.y,I c.was.z,I c.dirs.x,I c.dirs.y,I c.dirs.z,I t.length,I t.start,I t.dirs.x,I t.dirs.y,I t.dirs.z]=some (AW (E4 t c)):=by
 obtain⟨h1,h2,h3⟩:=h;have hw:wrap .i64 (t.length+c.units)=t.length+c.units:=Ae (by omega);have hble:((t.aE.map AB++[[I t.length,I c.units,I c.s,I c.move,I c.was.x,I c.was.y,I c.was.z,I c.dirs.x,I c.dirs.y,I c.dirs.z]]).length*80).ble 140737488355328=true:=by
  rw[Nat.ble_eq,ao,ag];simp only[bh,cd];omega
 have hble':(t.aE.map AB++[[I t.length,I c.units,I c.s,I c.move,I c.was.x,I c.was.y,I c.was.z,I c.dirs.x,I c.dirs.y,I c.dirs.z]]).length*80<=140737488355328:=az hble;have happ:some [AC.view Ap (t.aE.map AB++[[I t.length,I c.units,I c.s,I c.move,I c.was.x,I c.was.y,I c.was.z,I c.dirs.x,I c.dirs.y,I c.dirs.z]]),I (t.length+c.units),I t.start,I t.dirs.x,I t.dirs.y,I t.dirs.z]=
   some (AW {t with aE:=t.aE++[{c with at_:=t.length}],length:=t.length+c.units}):=by
  simp only[AW,bt,bf,dh]
 by_cases c1:t.aE=[]
 ·have hg: ¬(t.aE≠[]/\c.move≠0/\(Bb t.aE).move=c.move/\(Bb t.aE).dirs=c.dirs):=λg=>g.1 c1;unfold E4;rw[ab hg,<-happ];rw[Q67,ag,A7 (by rw[c1];simp),BH hble,hw]
 ·have hp:0<t.aE.length:=by
   cases hh:t.aE with
   |nil=>exact absurd hh c1
   |cons _ _=>simp
  have e1:wrap .i64 ((t.aE.length:Int)-1)=((t.aE.length-1:Nat):Int):=by rw[Ae (by omega)];omega
  have hin:(0:Int)<=((t.aE.length-1:Nat):Int)/\((t.aE.length-1:Nat):Int)<(t.aE.length:Int):=by omega
  have hl:=h3 _ (Qfj c1);have hw2:wrap .i64 ((Bb t.aE).units+c.units)=(Bb t.aE).units+c.units:=Ae (by omega);have hset:some [AC.view Ap ((t.aE.map AB).set (t.aE.length-1) [I (Bb t.aE).at_,I ((Bb t.aE).units+c.units),I (Bb t.aE).s,I (Bb t.aE).move,I (Bb t.aE).was.x,I (Bb t.aE).was.y,I (Bb t.aE).was.z,I (Bb t.aE).dirs.x,I (Bb t.aE).dirs.y,I (Bb t.aE).dirs.z]),I (t.length+c.units),I t.start,I t.dirs.x,I t.dirs.y,I t.dirs.z]=
   some (AW {t with aE:=t.aE.set (t.aE.length-1) {Bb t.aE with units:=(Bb t.aE).units+c.units},length:=t.length+c.units}):=by
   simp only[AW,List.map_set]
  have hr:=Zer c1;have main : ∀ R, R = (if c.move ≠ 0 then if (Bb t.aE).move = c.move then if (Bb t.aE).dirs.x = c.dirs.x /\ (Bb t.aE).dirs.y = c.dirs.y /\ (Bb t.aE).dirs.z = c.dirs.z then
    some (AW {t with aE:=t.aE.set (t.aE.length-1) {Bb t.aE with units:=(Bb t.aE).units+c.units},length:=t.length+c.units})
    else some (AW {t with aE:=t.aE++[{c with at_:=t.length}],length:=t.length+c.units})else some (AW {t with aE:=t.aE++[{c with at_:=t.length}],length:=t.length+c.units})else some (AW {t with aE:=t.aE++[{c with at_:=t.length}],length:=t.length+c.units}))->R=some (AW (E4 t c)):=by
   intro R hR;rw[hR];unfold E4;by_cases g1:c.move≠0
   ·by_cases g2:(Bb t.aE).move=c.move
    ·by_cases g3:(Bb t.aE).dirs.x=c.dirs.x/\(Bb t.aE).dirs.y=c.dirs.y/\(Bb t.aE).dirs.z=c.dirs.z
     ·rw[aa g1,aa g2,aa g3,aa ⟨c1,g1,g2,Qw9.2 g3⟩]
     ·rw[aa g1,aa g2,ab g3,ab λg=>g3 (Qw9.1 g.2.2.2)]
    ·rw[aa g1,ab g2,ab λg=>g2 g.2.2.1]
   ·rw[ab g1,ab λg=>g1 g.2.1]
  refine main _ ?_;rw[<-happ,<-hset];rw[Q67,ag,e1,ak,hr];simp only[go_sem,hw,hw2,aa hin,aa hble'];rw[aa (by omega)];simp only[and_true]
theorem Zzw (x:Ax3) (w d:Pt):O3 (AK x++[I w.x,I w.y,I w.z,I d.x,I d.y,I d.z])=some [I (Cn x w d)]:=by
 have he:=Zx0 x.a.step x.a.speed x.a.accel x.a.jerk x.a.low x.a.high x.a.back x.a.origin x.a.spacing (x.a.pitch.map As) x.b.step x.b.speed x.b.accel x.b.jerk x.b.low x.b.high x.b.back x.b.origin x.b.spacing (x.b.pitch.map As) x.c.step x.c.speed x.c.accel x.c.jerk x.c.low x.c.high x.c.back x.c.origin x.c.spacing (x.c.pitch.map As) w.x w.y w.z d.x d.y d.z;unfold O3;refine Eq.trans he ?_;unfold Cn slk;simp only[go_sem,Pf]
 (repeat' split)<;>first|rfl|(exfalso;omega)
theorem Zs7 (n a b:Pt) {mv:Int} (hm:mv=1\/mv= -1):OP [I n.x,I n.y,I n.z,I a.x,I a.y,I a.z,I b.x,I b.y,I b.z,I mv]=some (ptR (DF n a b mv)):=by
 unfold OP;rw[Zh5];have e:wrap .i64 (0-mv)= -mv:=by rw[Ae (by omega)];omega
 unfold DF PP;simp only[go_sem,e]
 (repeat' split)<;>first|rfl|(exfalso;omega)
theorem Ul {n hi:Int}:Fo [I n,I hi]=some [I (Bq n hi)]:=by
 unfold Fo;rw[Zfz];simp only[KG,Pf];rfl
theorem Z20 {MU MT MA:Fn} {x:Ax3} {mv:Int} {a b:Pt} {s units:Int} {t:Trk} {now:Pt} {n m k:Int} (hx:Ax3OK x) (h:TB t n m) (hn:n<=9000000) (hm:m<=900000000000000000) (hk:k<=900000000000000000) (hu:0<=units/\units<=k)
  (hT:MT [I now.x,I now.y,I now.z,I a.x,I a.y,I a.z,I b.x,I b.y,I b.z,I mv]=some (ptR (DF now a b mv))) (hU:∀w d:Pt,MU (AK x++[I w.x,I w.y,I w.z,I d.x,I d.y,I d.z])=some [I (Cn x w d)])
  (hA : ∀ {t : Trk} {c : Pce} {n m k : Int}, TB t n m -> n <= 10000000 -> m <= 1000000000000000000 -> k <= 1000000000000000000 -> (0 <= c.units /\ c.units <= k) ->
   MA [.view Ap (t.aE.map AB),I c.at_,I c.units,I c.s,I c.move,I c.was.x,I c.was.y,I c.was.z,I c.dirs.x,I c.dirs.y,I c.dirs.z,I t.length,I t.start,I t.dirs.x,I t.dirs.y,I t.dirs.z]=some (AW (E4 t c))):
  Qhh MU MT MA (.view Ap (t.aE.map AB)::I a.x::I a.y::I a.z::I b.x::I b.y::I b.z::I s::I units::I now.x::I now.y::I now.z::I mv::(AK x++[I t.length,I t.start,I t.dirs.x,I t.dirs.y,I t.dirs.z]))=
   some (.view Ap ((Cy x mv a b s units (t, now)).1.aE.map AB) :: I (Cy x mv a b s units (t, now)).2.x :: I (Cy x mv a b s units (t, now)).2.y :: I (Cy x mv a b s units (t, now)).2.z :: I mv :: (AK x ++
    [I (Cy x mv a b s units (t,now)).1.length,I (Cy x mv a b s units (t,now)).1.start,I (Cy x mv a b s units (t,now)).1.dirs.x,I (Cy x mv a b s units (t,now)).1.dirs.y,I (Cy x mv a b s units (t,now)).1.dirs.z])):=by
 have he:=Zrv MU MT MA (t.aE.map AB) a.x a.y a.z b.x b.y b.z s units now.x now.y now.z mv x.a.step x.a.speed x.a.accel x.a.jerk x.a.low x.a.high x.a.back x.a.origin x.a.spacing (x.a.pitch.map As) x.b.step x.b.speed x.b.accel x.b.jerk x.b.low x.b.high x.b.back x.b.origin x.b.spacing (x.b.pitch.map As) x.c.step x.c.speed x.c.accel x.c.jerk x.c.low x.c.high x.c.back x.c.origin x.c.spacing (x.c.pitch.map As) t.length t.start t.dirs.x t.dirs.y t.dirs.z;refine Eq.trans he ?_;have hs:=Ut hx now (DF now a b mv);have hU':=hU now (DF now a b mv);simp only[AK,ay,av]at hU'⊢;unfold Cy;simp only;generalize DF now a b mv=nx at*;simp only[hT,go_sem,hU'];by_cases c:Cn x now nx>0
 ·have h1:=hA (c:=⟨0,Cn x now nx,s,0,now,nx⟩) h (by omega) (by omega) (k:=1000) (by omega) (by simp only;omega);have hb:=Qk7 (k:=1000) h (c:=⟨0,Cn x now nx,s,0,now,nx⟩) (by simp only;omega);have h2:=hA (c:=⟨0,units,s,mv,nx,nx⟩) hb (by omega) (by omega) (k:=k) (by omega) hu;simp only at h1 h2;rw[aa c,aa c];simp only[h1,AW,go_sem,h2]
 ·have h2:=hA (c:=⟨0,units,s,mv,nx,nx⟩) h (by omega) (by omega) (k:=k) (by omega) hu;simp only at h2;rw[ab c,ab c];simp only[h2,AW,go_sem]
theorem Zed {x:Ax3} {mv:Int} {a b:Pt} {s units:Int} {t:Trk} {now:Pt} {n m k:Int} (hv:mv=1\/mv= -1) (hx:Ax3OK x) (h:TB t n m) (hn:n<=9000000) (hm:m<=900000000000000000) (hk:k<=900000000000000000) (hu:0<=units/\units<=k):
  FO (.view Ap (t.aE.map AB)::I a.x::I a.y::I a.z::I b.x::I b.y::I b.z::I s::I units::I now.x::I now.y::I now.z::I mv::(AK x++[I t.length,I t.start,I t.dirs.x,I t.dirs.y,I t.dirs.z]))=
   some (.view Ap ((Cy x mv a b s units (t, now)).1.aE.map AB) :: I (Cy x mv a b s units (t, now)).2.x :: I (Cy x mv a b s units (t, now)).2.y :: I (Cy x mv a b s units (t, now)).2.z :: I mv :: (AK x ++
    [I (Cy x mv a b s units (t,now)).1.length,I (Cy x mv a b s units (t,now)).1.start,I (Cy x mv a b s units (t,now)).1.dirs.x,I (Cy x mv a b s units (t,now)).1.dirs.y,I (Cy x mv a b s units (t,now)).1.dirs.z])):=
 Z20 hx h hn hm hk hu (Zs7 now a b hv) (Zzw x) λh1 h2 h3 h4 h5=>Z5n h1 h2 h3 h4 h5
def Fi (l:List Sgm) (j:Nat):Rw:=(List.range j).map λi=>[I (AA l i)]
theorem TF (l:List Sgm) (j:Nat):(Fi l j).length=j:=by simp[Fi]
theorem Zns (l:List Sgm) (j:Nat):Fi l (j+1)=Fi l j++[[I (AA l j)]]:=by unfold Fi;rw[List.range_succ,bt];rfl
theorem Zdx {l:List Sgm} {n i:Nat} (h:i<n):nth [] (Fi l n) i=[I (AA l i)]:=by
 have hlt:i<(Fi l n).length:=by rw[TF];exact h
 rw[GF [] _ i hlt];simp[Fi]
abbrev QG (p:Pth) (x:Ax3) (lo hi mv:Int) (t:Trk) (now:Pt) (at_:Int) (bl:Rw) (j:Nat):List AC:=
 [.view Aa bl, .view Ap (t.aE.map AB),I lo,I hi,I mv,I at_, .view Ag (p.aF.map Au),I p.aF.length,I j,I p.start.x,I p.start.y,I p.start.z, .view Ag (p.aF.map Au), .view AE (p.aD.map At),I now.x,I now.y,I now.z,I mv,I x.a.step,I x.a.speed,I x.a.accel,I x.a.jerk,I x.a.low,I x.a.high,I x.a.back,I x.a.origin,I x.a.spacing, .view Aa (x.a.pitch.map As),I x.b.step,I x.b.speed,I x.b.accel,I x.b.jerk,I x.b.low,I x.b.high,I x.b.back,I x.b.origin,I x.b.spacing, .view Aa (x.b.pitch.map As),I x.c.step,I x.c.speed,I x.c.accel,I x.c.jerk,I x.c.low,I x.c.high,I x.c.back,I x.c.origin,I x.c.spacing, .view Aa (x.c.pitch.map As),I t.length,I t.start,I t.dirs.x,I t.dirs.y,I t.dirs.z]
theorem Zar {M:Fn} {p:Pth} {x:Ax3} {lo hi mv:Int} {t:Trk} {now:Pt} (h:SegOK p.aF):∀(k j:Nat),j+k=p.aF.length->
  An (T3 M) (QG p x lo hi mv t now (AA p.aF j) (Fi p.aF j) j)=some (1,[.view Aa (Fi p.aF p.aF.length), .view Ap (t.aE.map AB),I lo,I hi,I mv,I p.start.x,I p.start.y,I p.start.z, .view Ag (p.aF.map Au), .view AE (p.aD.map At),I now.x,I now.y,I now.z,I mv,I x.a.step,I x.a.speed,I x.a.accel,I x.a.jerk,I x.a.low,I x.a.high,I x.a.back,I x.a.origin,I x.a.spacing, .view Aa (x.a.pitch.map As),I x.b.step,I x.b.speed,I x.b.accel,I x.b.jerk,I x.b.low,I x.b.high,I x.b.back,I x.b.origin,I x.b.spacing, .view Aa (x.b.pitch.map As),I x.c.step,I x.c.speed,I x.c.accel,I x.c.jerk,I x.c.low,I x.c.high,I x.c.back,I x.c.origin,I x.c.spacing, .view Aa (x.c.pitch.map As),I t.length,I t.start,I t.dirs.x,I t.dirs.y,I t.dirs.z])
 |0,j,hj=>by
  have hj':j=p.aF.length:=by omega
  refine A5 (o:=(1,_)) ?_ (by simp);rw[Q85,A7 (by omega),hj']
 |k+1,j,hj=>by
  have hlt:j<p.aF.length:=by omega
  have hcnt:=h.count;have hpos:=WW h j (by omega);have hg:=h.seg _ (Hs hlt);have hst:T3 M (QG p x lo hi mv t now (AA p.aF j) (Fi p.aF j) j)=some (0,QG p x lo hi mv t now (AA p.aF (j+1)) (Fi p.aF (j+1)) (j+1)):=by
   have hle:(Fi p.aF j++[[I (AA p.aF j)]]).length*8<=140737488355328:=by rw[ao,TF];simp only[bh,cd];omega
   have e1:wrap .i64 ((j:Int)+1)=((j+1:Nat):Int):=by rw[Ae (by omega)];omega
   rw[Q85];simp only[go_sem,ag,ak,LP hlt,aa hle,e1,Zns];rw[aa (by omega),aa (by omega),Ae (x:=AA p.aF j+(sgA p.aF j).len) (by omega),Qa hlt]
  rw[Bn hst];exact Zar h k (j+1) (by omega)
abbrev Rs (p:Pth) (x:Ax3) (lo hi mv:Int) (t:Trk) (now:Pt) (j:Nat):List AC:=
 [.view Aa (Fi p.aF p.aF.length), .view Ap (t.aE.map AB),I lo,I hi,I mv,I p.aF.length,I j,I p.start.x,I p.start.y,I p.start.z, .view Ag (p.aF.map Au), .view AE (p.aD.map At),I now.x,I now.y,I now.z,I mv,I x.a.step,I x.a.speed,I x.a.accel,I x.a.jerk,I x.a.low,I x.a.high,I x.a.back,I x.a.origin,I x.a.spacing, .view Aa (x.a.pitch.map As),I x.b.step,I x.b.speed,I x.b.accel,I x.b.jerk,I x.b.low,I x.b.high,I x.b.back,I x.b.origin,I x.b.spacing, .view Aa (x.b.pitch.map As),I x.c.step,I x.c.speed,I x.c.accel,I x.c.jerk,I x.c.low,I x.c.high,I x.c.back,I x.c.origin,I x.c.spacing, .view Aa (x.c.pitch.map As),I t.length,I t.start,I t.dirs.x,I t.dirs.y,I t.dirs.z]
abbrev F1 (x:Ax3) (mv:Int) (t:Trk) (now:Pt):List AC:=[.view Ap (t.aE.map AB),I now.x,I now.y,I now.z,I mv,I x.a.step,I x.a.speed,I x.a.accel,I x.a.jerk,I x.a.low,I x.a.high,I x.a.back,I x.a.origin,I x.a.spacing, .view Aa (x.a.pitch.map As),I x.b.step,I x.b.speed,I x.b.accel,I x.b.jerk,I x.b.low,I x.b.high,I x.b.back,I x.b.origin,I x.b.spacing, .view Aa (x.b.pitch.map As),I x.c.step,I x.c.speed,I x.c.accel,I x.c.jerk,I x.c.low,I x.c.high,I x.c.back,I x.c.origin,I x.c.spacing, .view Aa (x.c.pitch.map As),I t.length,I t.start,I t.dirs.x,I t.dirs.y,I t.dirs.z]
theorem Zd3 {MV:Fn} {N:Lp} {p:Pth} {x:Ax3} {lo hi mv:Int} {t:Trk} {now:Pt} {n m:Int} {j:Nat} (hv:mv=1\/mv= -1) (hp:GoodPath p) (hx:Ax3OK x) (h:TB t n m) (hn:n<=9000000) (hm:m<=900000000000000000)
  (hj:j<p.aF.length)
  (hV:∀{a b:Pt} {s units:Int},(0<=units/\units<=268435456)->MV [.view Ap (t.aE.map AB),I a.x,I a.y,I a.z,I b.x,I b.y,I b.z,I s,I units,I now.x,I now.y,I now.z,I mv,I x.a.step,I x.a.speed,I x.a.accel,I x.a.jerk,I x.a.low,I x.a.high,I x.a.back,I x.a.origin,I x.a.spacing, .view Aa (x.a.pitch.map As),I x.b.step,I x.b.speed,I x.b.accel,I x.b.jerk,I x.b.low,I x.b.high,I x.b.back,I x.b.origin,I x.b.spacing, .view Aa (x.b.pitch.map As),I x.c.step,I x.c.speed,I x.c.accel,I x.c.jerk,I x.c.low,I x.c.high,I x.c.back,I x.c.origin,I x.c.spacing, .view Aa (x.c.pitch.map As),I t.length,I t.start,I t.dirs.x,I t.dirs.y,I t.dirs.z]=some (F1 x mv (Cy x mv a b s units (t,now)).1 (Cy x mv a b s units (t,now)).2)):
  RP MV N (Rs p x lo hi mv t now j)=some (0,Rs p x lo hi mv (HC p x mv lo hi (Ei p.aF.length mv j) (t,now)).1 (HC p x mv lo hi (Ei p.aF.length mv j) (t,now)).2 (j+1)):=by
 have hok:=hp.ok;have hcnt:=hok.count;have hil0:=Y3 mv hj;have hcase:(mv=1/\Ei p.aF.length mv j=j)\/(mv= -1/\Ei p.aF.length mv j=p.aF.length-1-j):=by
  unfold Ei;rcases hv with rfl|rfl
  ·exact .inl ⟨rfl,ab (by omega)⟩
  ·exact .inr ⟨rfl,aa (by omega)⟩
 obtain⟨i,hix⟩:∃i,Ei p.aF.length mv j=i:=⟨_,rfl⟩;rw[hix]at hil0 hcase⊢;have hil:i<p.aF.length:=hil0;have hg:=hok.seg _ (Hs hil);have hr:=LP hil;have hb:=Zdx (l:=p.aF) hil;have hpos:=WW hok i (by omega);have hsucc:=Qa hil;have hin:(0:Int)<=(i:Nat)/\(i:Int)<(p.aF.length:Int):=by omega
 have hin0:(j:Int)<(p.aF.length:Int):=by omega
 have e1:wrap .i64 ((j:Int)+1)=((j+1:Nat):Int):=by rw[Ae (by omega)];omega
 have hI:wrap .i64 (wrap .i64 ((p.aF.length:Int)-1)-(j:Int))=((p.aF.length-1-j:Nat):Int):=by rw[Ae (x:=(p.aF.length:Int)-1) (by omega),Ae (by omega)];omega
 have hw:wrap .i64 (AA p.aF i+(sgA p.aF i).len)=AA p.aF (i+1):=by rw[hsucc,Ae (by omega)]
 have hwd:max (AA p.aF i) lo<min (AA p.aF (i+1)) hi->wrap .i64 (min (AA p.aF (i+1)) hi-max (AA p.aF i) lo)=min (AA p.aF (i+1)) hi-max (AA p.aF i) lo:=λ_=>Ae (by omega);have hd:max (AA p.aF i) lo<min (AA p.aF (i+1)) hi->0<=min (AA p.aF (i+1)) hi-max (AA p.aF i) lo/\min (AA p.aF (i+1)) hi-max (AA p.aF i) lo<=268435456:=λ_=>by omega
 have hI1:i≠0->wrap .i64 ((i:Int)-1)=((i-1:Nat):Int)/\((0:Int)<=((i-1:Nat):Int)/\((i-1:Nat):Int)<(p.aF.length:Int))/\nth [] (p.aF.map Au) (i-1)=Au (sgA p.aF (i-1))/\EV p.start p.aF i=(sgA p.aF (i-1)).to:=by
  intro h0;refine⟨by rw[Ae (by omega)];omega,by omega,LP (by omega),?_⟩;obtain⟨q,rfl⟩:∃q,i=q+1:=⟨i-1,by omega⟩;exact ST (by omega)
 unfold HC;rw[Qti];rcases hcase with⟨rfl,rfl⟩|⟨rfl,ei⟩
 ·simp only[go_sem,ag,TF,ak,hr,hb,aa hin,aa hin0,Pf,KG,hw,e1];rw[ab (by omega)];by_cases c:max (AA p.aF i) lo<min (AA p.aF (i+1)) hi
  ·rw[ab (by omega),aa c,hwd c];by_cases c0:i=0
   ·rw[ab (by omega)];have hV':=hV (a:=p.start) (b:=(sgA p.aF i).to) (s:=max (AA p.aF i) lo) (hd c);subst c0;rw[KB];rw[ab (by omega),hV'];simp only[F1,go_sem];rfl
   ·obtain⟨k1,k2,k3,k4⟩:=hI1 c0;rw[aa (by omega),k1];have hV':=hV (a:=(sgA p.aF (i-1)).to) (b:=(sgA p.aF i).to) (s:=max (AA p.aF i) lo) (hd c);rw[k4];simp only[ak,k3,go_sem,aa k2];rw[ab (by omega),hV'];simp only[F1,go_sem];rfl
  ·rw[aa (by omega),ab c]
 ·rw[<-ei]at hI;simp only[go_sem,ag,TF,hI,ak,hr,hb,aa hin,aa hin0,Pf,KG,hw,e1];rw[aa (by omega)];by_cases c:max (AA p.aF i) lo<min (AA p.aF (i+1)) hi
  ·rw[ab (by omega),aa c,hwd c];by_cases c0:i=0
   ·rw[ab (by omega)];have hV':=hV (a:=p.start) (b:=(sgA p.aF i).to) (s:=min (AA p.aF (i+1)) hi) (hd c);subst c0;rw[KB];rw[aa (by omega),hV'];simp only[F1,go_sem];rfl
   ·obtain⟨k1,k2,k3,k4⟩:=hI1 c0;rw[aa (by omega),k1];have hV':=hV (a:=(sgA p.aF (i-1)).to) (b:=(sgA p.aF i).to) (s:=min (AA p.aF (i+1)) hi) (hd c);rw[k4];simp only[ak,k3,go_sem,aa k2];rw[aa (by omega),hV'];simp only[F1,go_sem];rfl
  ·rw[aa (by omega),ab c]
def pcA (l:List Pce) (i:Nat):Pce:=l.getD i pc0
def eI (l:List Pce) (i:Nat):Int:=(pcA l i).at_+(pcA l i).units
def fI:List Pce->Int->Nat
 |[],_=>0
 |c::l,u=>if u<=c.at_+c.units then 0 else fI l u+1
theorem Fe (c:Pce) (l:List Pce) (i:Nat):pcA (c::l) (i+1)=pcA l i:=by unfold pcA;simp
theorem Is (c:Pce) (l:List Pce):pcA (c::l) 0=c:=by unfold pcA;simp
theorem NF {l:List Pce} {i:Nat} (h:i<l.length):nth [] (l.map AB) i=AB (pcA l i):=by
 have e:pcA l i=l[i]:=by unfold pcA;simp[h]
 rw[e];exact IU _ _ _ _ h
theorem T5:∀{l:List Pce} {u:Int} {j:Nat},j<l.length->u<=eI l j->fI l u<=j
 |c::l,u,0,_,h=>by
  unfold eI at h;rw[Is]at h;unfold fI;rw[aa h];exact co _
 |c::l,u,j+1,hj,h=>by
  unfold fI;by_cases c0:u<=c.at_+c.units
  ·rw[aa c0];omega
  ·rw[ab c0];have:fI l u<=j:=T5 (by simpa using hj) (by unfold eI at h⊢;rw[Fe]at h;exact h);omega
theorem Qyn:∀{l:List Pce} {u:Int},fI l u<l.length->u<=eI l (fI l u)
 |[],_,h=>by simp at h
 |c::l,u,h=>by
  unfold fI at h⊢;by_cases c0:u<=c.at_+c.units
  ·rw[aa c0];unfold eI;rw[Is];exact c0
  ·rw[ab c0]at h⊢;have:=Qyn (l:=l) (u:=u) (by simpa using h);unfold eI at this⊢;rw[Fe];exact this
structure TQ (t : Trk) : Prop where
 count:t.aE.length<=10000000
 len:0<=t.length/\t.length<=900000000000000
 pos:∀i,i<t.aE.length->0<=(pcA t.aE i).at_/\1<=(pcA t.aE i).units/\eI t.aE i<=t.length
 mono:∀i j,i<=j->j<t.aE.length->eI t.aE i<=eI t.aE j
 last:t.aE≠[]->eI t.aE (t.aE.length-1)=t.length
 start:0<=t.start/\t.start<=263886834032640
 s:∀i,i<t.aE.length-> -900000000000000<=(pcA t.aE i).s/\(pcA t.aE i).s<=2000000000000000
 move:∀i,i<t.aE.length->(pcA t.aE i).move=0\/(pcA t.aE i).move=1\/(pcA t.aE i).move= -1
def clT (t:Trk) (u:Int):Int:=Bq u t.length
theorem KZ {t:Trk} (h:TQ t) (u:Int):0<=clT t u/\clT t u<=t.length:=by have:=h.len;unfold clT Bq;omega
def iT (t:Trk) (u:Int):Nat:=fI t.aE (clT t u)
theorem JA {t:Trk} (h:TQ t) (u:Int) (hne:t.aE≠[]):iT t u<t.aE.length:=by
 have hp:0<t.aE.length:=by
  cases hh:t.aE with
  |nil=>exact absurd hh hne
  |cons _ _=>simp
 have:=T5 (l:=t.aE) (u:=clT t u) (j:=t.aE.length-1) (by omega) (by rw[h.last hne];exact(KZ h u).2);unfold iT;omega
def A_ (t:Trk) (u:Int):Int:=if t.aE=[]then t.start else(pcA t.aE (iT t u)).s+(pcA t.aE (iT t u)).move*(clT t u-(pcA t.aE (iT t u)).at_)
def Hu (t:Trk) (u:Int):Prop:=t.aE≠[]/\(pcA t.aE (iT t u)).move=0/\(pcA t.aE (iT t u)).at_<clT t u/\clT t u<eI t.aE (iT t u)
theorem Qpg {t:Trk} (h:TQ t) {u:Int} (hi:fI t.aE u<t.aE.length):∀(k lo hi:Nat),hi-lo<=k->lo<=fI t.aE u->fI t.aE u<=hi->hi<t.aE.length->
  An T1 [I u,I lo,I hi, .view Ap (t.aE.map AB),I t.length,I t.start,I t.dirs.x,I t.dirs.y,I t.dirs.z]=some (1,[I (fI t.aE u)])
 |k,lo,hi,hk,h1,h2,h3=>by
  have hcnt:=h.count;have hl:=h.len;by_cases c:lo<hi
  ·have em:wrap .i64 ((wrap .i64 ((lo:Int)+hi)).tdiv 2)=(((lo+hi)/2:Nat):Int):=by
    rw[Ae (x:=(lo:Int)+hi) (by omega),bc (by omega),Ae (by omega)];omega
   have hm1:lo<=(lo+hi)/2/\(lo+hi)/2<hi:=by omega
   generalize(lo+hi)/2=m at*;have hlt:m<t.aE.length:=by omega
   have hpos:=h.pos m hlt;have hin:(0:Int)<=(m:Int)/\(m:Int)<(t.aE.length:Int):=by omega
   have hw:wrap .i64 ((pcA t.aE m).at_+(pcA t.aE m).units)=eI t.aE m:=by unfold eI at hpos⊢;exact Ae (by omega)
   have hst:T1 [I u,I lo,I hi, .view Ap (t.aE.map AB),I t.length,I t.start,I t.dirs.x,I t.dirs.y,I t.dirs.z]=if u<=eI t.aE m then some (0,[I u,I lo,I m, .view Ap (t.aE.map AB),I t.length,I t.start,I t.dirs.x,I t.dirs.y,I t.dirs.z])else some (0,[I u,I (m+1:Nat),I hi, .view Ap (t.aE.map AB),I t.length,I t.start,I t.dirs.x,I t.dirs.y,I t.dirs.z]):=by
    rw[ZS,em];simp only[go_sem,ag,ak,NF hlt,aa hin,hw,Ae (x:=(m:Int)+1) (by omega)];rw[aa (by omega)];rfl
   by_cases c2:u<=eI t.aE m
   ·rw[aa c2]at hst;rw[Bn hst];cases k with
    |zero=>omega
    |succ k=>exact Qpg h (by omega) k lo m (by omega) h1 (T5 hlt c2) hlt
   ·rw[ab c2]at hst;rw[Bn hst];have hgt:m<fI t.aE u:=by
     by_cases c3:fI t.aE u<=m
     ·exact absurd (Int.le_trans (Qyn (by omega)) (h.mono _ _ c3 hlt)) c2
     ·omega
    cases k with
    |zero=>omega
    |succ k=>exact Qpg h (by omega) k (m+1) hi (by omega) (by omega) h2 h3
  ·refine A5 (o:=(1,_)) ?_ (by simp);rw[ZS,A7 (by omega),show fI t.aE u=hi by omega]
theorem Xo {t:Trk} (h:TQ t) (u:Int):Gv (AW t++[I (clT t u)])=some [I (if t.aE=[]then-1 else(iT t u:Int))]:=by
 have he:=Zoi Lb (t.aE.map AB) t.length t.start t.dirs.x t.dirs.y t.dirs.z (clT t u);unfold Gv;refine Eq.trans he ?_;rw[ag];have hcnt:=h.count;by_cases c:t.aE=[]
 ·have hl:Lb [I (clT t u),I 0,I (-1), .view Ap (t.aE.map AB),I t.length,I t.start,I t.dirs.x,I t.dirs.y,I t.dirs.z]=some (1,[I (-1)]):=by
   refine A5 (o:=(1,_)) ?_ (by simp);rw[ZS,A7 (by omega)]
  have e1:wrap .i64 ((t.aE.length:Int)-1)= -1:=by rw[c];rfl
  rw[aa c,e1];generalize Lb=N at*;simp only[hl,go_sem]
 ·have hp:0<t.aE.length:=by
   cases hh:t.aE with
   |nil=>exact absurd hh c
   |cons _ _=>simp
  have hi:=JA h u c;have hl:=Qpg h (u:=clT t u) hi t.aE.length 0 (t.aE.length-1) (by omega) (by omega) (by unfold iT at hi;omega) (by omega);have hl':Lb [I (clT t u),I 0,I (t.aE.length-1:Nat), .view Ap (t.aE.map AB),I t.length,I t.start,I t.dirs.x,I t.dirs.y,I t.dirs.z]=some (1,[I (iT t u:Int)]):=hl;have e1:wrap .i64 ((t.aE.length:Int)-1)=((t.aE.length-1:Nat):Int):=by rw[Ae (by omega)];omega
  rw[ab c,e1];generalize Lb=N at*;simp only[hl',go_sem]
theorem Zpl {t:Trk} (h:TQ t) (u:Int) (hne:t.aE≠[]):
  wrap .i64 ((pcA t.aE (iT t u)).s+wrap .i64 ((pcA t.aE (iT t u)).move*wrap .i64 (clT t u-(pcA t.aE (iT t u)).at_)))=A_ t u:=by
 have hi:=JA h u hne;have h1:=h.pos _ hi;have h2:=h.s _ hi;have h3:=h.move _ hi;have h4:=KZ h u;have h5:=h.len;unfold A_ eI at*;rw[ab hne,Ae (x:=clT t u-_) (by omega)];generalize pcA t.aE (iT t u)=c at*;have hb:(-900000000000000<=c.move*(clT t u-c.at_)/\c.move*(clT t u-c.at_)<=900000000000000):=by
  rcases h3 with h3|h3|h3<;>rw[h3]<;>omega
 rw[Ae (x:=c.move*_) (by omega),Ae (by omega)]
theorem Zti {MF MC:Fn} {t:Trk} (h:TQ t) {u:Int} (hC:MC [I u,I t.length]=some [I (clT t u)]) (hM:MF (AW t++[I (clT t u)])=some [I (if t.aE=[]then-1 else(iT t u:Int))]):Qpk MF MC (AW t++[I u])=some [I (A_ t u)]:=by
 have he:=Zuy MF MC (t.aE.map AB) t.length t.start t.dirs.x t.dirs.y t.dirs.z u;refine Eq.trans he ?_;simp only[AW,ay,av]at hM;by_cases c:t.aE=[]
 ·rw[aa c]at hM;simp only[hC,hM,go_sem];rw[aa (by omega)];unfold A_;rw[aa c]
 ·have hi:=JA h u c;have hcnt:=h.count;have hin:(0:Int)<=(iT t u:Int)/\(iT t u:Int)<(t.aE.length:Int):=by omega
  rw[ab c]at hM;simp only[hC,hM,go_sem,ag,aa hin,ak,NF hi,Zpl h u c];rw[ab (by omega)]
theorem Rx {t:Trk} (h:TQ t) (u:Int):DU (AW t++[I u])=some [I (A_ t u)]:=Zti h Ul (Xo h u)
theorem Zdf {MF MC:Fn} {t:Trk} (h:TQ t) {u:Int} (hC:MC [I u,I t.length]=some [I (clT t u)]) (hM:MF (AW t++[I (clT t u)])=some [I (if t.aE=[]then-1 else(iT t u:Int))]):ZV MF MC (AW t++[I u])=some [B (decide (Hu t u))]:=by
 have he:=Zvk MF MC (t.aE.map AB) t.length t.start t.dirs.x t.dirs.y t.dirs.z u;refine Eq.trans he ?_;simp only[AW,ay,av]at hM;by_cases c:t.aE=[]
 ·rw[aa c]at hM;simp only[hC,hM,go_sem];rw[aa (by omega),am λg=>g.1 c]
 ·have hi:=JA h u c;have hcnt:=h.count;have hpos:=h.pos _ hi;have hl:=h.len;have hin:(0:Int)<=(iT t u:Int)/\(iT t u:Int)<(t.aE.length:Int):=by omega
  have hw:wrap .i64 ((pcA t.aE (iT t u)).at_+(pcA t.aE (iT t u)).units)=eI t.aE (iT t u):=by unfold eI at hpos⊢;exact Ae (by omega)
  rw[ab c]at hM;simp only[hC,hM,go_sem,ag,aa hin,ak,NF hi,hw];rw[ab (by omega)];by_cases c1:(pcA t.aE (iT t u)).move=0
  ·by_cases c2:(pcA t.aE (iT t u)).at_<clT t u
   ·rw[aa c1,aa c2];by_cases c3:clT t u<eI t.aE (iT t u)
    ·rw[al c3,al (show Hu t u from⟨c,c1,c2,c3⟩)]
    ·rw[am c3,am (show¬Hu t u from λg=>c3 g.2.2.2)]
   ·rw[aa c1,ab c2,am (show¬Hu t u from λg=>c2 g.2.2.1)]
  ·rw[ab c1,am (show¬Hu t u from λg=>c1 g.2.1)]
theorem Zum {t:Trk} (h:TQ t) (u:Int):Pu (AW t++[I u])=some [B (decide (Hu t u))]:=Zdf h Ul (Xo h u)
def Ie (sp:Int) (l:List Int):Prop:=(∀v∈l,-4096<=v/\v<=4096)/\∀i,i+1<l.length-> -sp<=4*(l.getD (i+1) 0-l.getD i 0)/\4*(l.getD (i+1) 0-l.getD i 0)<=sp
structure AxOK (a : Axs) : Prop where
 step:4<=a.step/\a.step<=64
 back:0<=a.back/\a.back<=6
 origin: -200<=a.origin/\a.origin<=200
 spacing:a.pitch≠[]->4<=a.spacing/\a.spacing<=123
 pitch:Ie a.spacing a.pitch
 count:a.pitch.length<=4
 lim:1<=a.speed/\a.speed<=1000/\2<=a.accel/\a.accel<=1000/\4<=a.jerk/\a.jerk<=1000/\a.low= -16777216/\a.high=16777216
theorem UI {l m:List Int} {i:Nat} (h:i<l.length):(l++m).getD i 0=l.getD i 0:=by simp[List.getD_eq_getElem?_getD,List.getElem?_append_left h]
theorem Zxe (l m:List Int) (v:Int):(l++v::m).getD l.length 0=v:=by simp[List.getD_eq_getElem?_getD]
theorem Zny {sp v w:Int} {l:List Int} (h:Ie sp (l++[v])) (hw: -4096<=w/\w<=4096) (hd: -sp<=4*(w-v)/\4*(w-v)<=sp):Ie sp (l++[v]++[w]):=by
 refine⟨?_,?_⟩
 ·intro x hx;rcases bj.1 hx with hx|hx
  ·exact h.1 x hx
  ·rw[dg]at hx;subst hx;exact hw
 ·intro i hi;simp only[ao,bh,cd]at hi;by_cases c:i+1<(l++[v]).length
  ·have:=h.2 i c;have c':i<(l++[v]).length:=by omega
   rw[UI c,UI c'];exact this
  ·simp only[ao,bh,cd]at c;have e:i=l.length:=by omega
   subst e;have g1:(l++[v]++[w]).getD (l.length+1) 0=w:=by
    simp
   have g2:(l++[v]++[w]).getD l.length 0=v:=by
    rw[List.append_assoc];exact Zxe l ([]++[w]) v
   rw[g1,g2];exact hd
theorem Zp2 {sp v:Int} {l:List Int} (h:Ie sp (l++[v])):Ie sp l:=by
 refine⟨λx hx=>h.1 x (by simp[hx]),λi hi=> ?_⟩;have:=h.2 i (by simp;omega);rw[UI hi,UI (by omega)]at this;exact this
theorem Z32 {sp v:Int} (hv: -4096<=v/\v<=4096):Ie sp ([]++[v]):=⟨λx hx=>by simp at hx;subst hx;exact hv,λi hi=>by simp at hi⟩
theorem Z6f {v:Int} (h:0<=v/\v<6):∃x,Af (nth .dead (nth [] [[I 8],[I 4],[I 5],[I 16],[I 23],[I 64]] v.toNat) 0)=x/\4<=x/\x<=64:=by
 have hc:v=0\/v=1\/v=2\/v=3\/v=4\/v=5:=by omega
 rcases hc with rfl|rfl|rfl|rfl|rfl|rfl<;>exact⟨_,rfl,by decide⟩
theorem Xi {v:Int} (h:0<=v/\v<5):∃x y z,Af (nth .dead (nth [] [[I 40],[I 1],[I 3],[I 9],[I 1000]] v.toNat) 0)=x/\Af (nth .dead (nth [] [[I 20],[I 2],[I 3],[I 5],[I 1000]] v.toNat) 0)=y/\Af (nth .dead (nth [] [[I 30],[I 4],[I 5],[I 8],[I 1000]] v.toNat) 0)=z/\1<=x/\x<=1000/\2<=y/\y<=1000/\4<=z/\z<=1000:=by
 have hc:v=0\/v=1\/v=2\/v=3\/v=4:=by omega
 rcases hc with rfl|rfl|rfl|rfl|rfl<;>exact⟨_,_,_,rfl,rfl,rfl,by decide⟩
theorem Zvd {v:Int} (h:0<=v/\v<4):∃x,Af (nth .dead (nth [] [[I 0],[I 1],[I 3],[I 6]] v.toNat) 0)=x/\0<=x/\x<=6:=by
 have hc:v=0\/v=1\/v=2\/v=3:=by omega
 rcases hc with rfl|rfl|rfl|rfl<;>exact⟨_,rfl,by decide⟩
abbrev axS (l:Rw) (pit:List Int) (n v:Int) (j:Nat) (a:Axs) (k:Nat):List AC:=
 [.view Aa [], .view Aa (pit.map As),I n,I v,I j,I 0,I 0,I 0,I 0,I 0,I 0,I 0,I 0,I 0,I a.step,I a.speed,I a.accel,I a.jerk,I a.low,I a.high,I a.back,I a.origin,I a.spacing, .view Aa l,I k]
theorem Qx3 {MN:Fn} {l:Rw} (hN:GI l MN) {a:Axs} (hsp:4<=a.spacing/\a.spacing<=123):∀(r j:Nat) (pit:List Int) (v:Int) (k:Nat),j+r<=4->pit.length=j->Ie a.spacing (pit++[v])->
  ∃(pit':List Int) (k':Nat),An (TR MN) (axS l pit (j+r:Nat) v j a k)=some (1,[.view Aa [], .view Aa (pit'.map As),I 0,I 0,I 0,I 0,I 0,I 0,I 0,I 0,I 0,I a.step,I a.speed,I a.accel,I a.jerk,I a.low,I a.high,I a.back,I a.origin,I a.spacing, .view Aa l,I k'])/\pit'.length=j+r/\Ie a.spacing pit'
 |0,j,pit,v,k,_,hl,h=>by
  refine⟨pit,k,A5 (o:=(1,_)) ?_ (by simp),by omega,Zp2 h⟩;rw[Qra,A7 (by omega)]
 |r+1,j,pit,v,k,hj,hl,h=>by
  have hv:=h.1 v (by simp);have e4:wrap .i64 (a.spacing.tdiv 4)=a.spacing/4:=by rw[bc (by omega),Ae (by omega)]
  have e5:wrap .i64 (wrap .i64 (2*(a.spacing/4))+1)=2*(a.spacing/4)+1:=by rw[Ae (x:=2*(a.spacing/4)) (by omega),Ae (by omega)]
  obtain⟨w,k1,hw,w0,w1,-⟩:=hN k (n:=2*(a.spacing/4)+1) (by omega);have e6:wrap .i64 (wrap .i64 (v+w)-a.spacing/4)=v+w-a.spacing/4:=by rw[Ae (x:=v+w) (by omega),Ae (by omega)]
  have hle:(pit.map As++[[I v]]).length*8<=140737488355328:=by rw[ao,ag];simp only[bh,cd];omega
  have hst:TR MN (axS l pit (j+(r+1):Nat) v j a k)=some (0,axS l (pit++[v]) (j+1+r:Nat) (min (max (v+w-a.spacing/4) (-4096)) 4096) (j+1) a k1):=by
   rw[Qra];simp only[go_sem,aa hle,e4,e5,hw,e6,KG,Pf];rw[aa (by omega),Ae (x:=(j:Int)+1) (by omega),show j+(r+1)=j+1+r by omega];simp only[axS,bt,bf,dh,As,Int.natCast_add,Int.cast_ofNat_Int]
  rw[Bn hst];obtain⟨p',k',h1,h2,h3⟩:=Qx3 hN hsp r (j+1) (pit++[v]) (min (max (v+w-a.spacing/4) (-4096)) 4096) k1 (by omega) (by simp[hl]) (Zny h (by omega) (by omega));exact⟨p',k',h1,by omega,h3⟩
theorem Zfu {MN:Fn} {N:Lp} {l:Rw} (hN:GI l MN)
  (hL:∀{a:Axs} {n:Nat} {v:Int} {k:Nat},(4<=a.spacing/\a.spacing<=123)->n<=4->Ie a.spacing ([]++[v])->∃(pit':List Int) (k':Nat),N (axS l [] n v 0 a k)=some (1,[.view Aa [], .view Aa (pit'.map As),I 0,I 0,I 0,I 0,I 0,I 0,I 0,I 0,I 0,I a.step,I a.speed,I a.accel,I a.jerk,I a.low,I a.high,I a.back,I a.origin,I a.spacing, .view Aa l,I k'])/\pit'.length=n/\Ie a.spacing pit') (k:Nat):
  ∃(a:Axs) (k':Nat),Y8 MN N [.view Aa l,I k]=some (Bv a++[.view Aa l,I k'])/\AxOK a:=by
 obtain⟨v1,k1,h1,a1,b1,-⟩:=hN k (n:=6) (by omega);obtain⟨v2,k2,h2,a2,b2,-⟩:=hN k1 (n:=4) (by omega);obtain⟨v3,k3,h3,a3,b3,-⟩:=hN k2 (n:=5) (by omega);obtain⟨v4,k4,h4,a4,b4,-⟩:=hN k3 (n:=5) (by omega);obtain⟨v5,k5,h5,a5,b5,-⟩:=hN k4 (n:=5) (by omega);obtain⟨v6,k6,h6,a6,b6,-⟩:=hN k5 (n:=5) (by omega);obtain⟨v7,k7,h7,a7,b7,-⟩:=hN k6 (n:=400) (by omega);obtain⟨v8,k8,h8,a8,b8,-⟩:=hN k7 (n:=120) (by omega);obtain⟨v9,k9,h9,a9,b9,-⟩:=hN k8 (n:=9) (by omega);obtain⟨x1,e1,s1⟩:=Z6f ⟨a1,b1⟩;obtain⟨x2,e2,s2⟩:=Zvd ⟨a2,b2⟩;have i1:(0:Int)<=v1/\v1<(([[I 8],[I 4],[I 5],[I 16],[I 23],[I 64]]:Rw).length:Int):=⟨a1,by simp;omega⟩;have i2:(0:Int)<=v2/\v2<(([[I 0],[I 1],[I 3],[I 6]]:Rw).length:Int):=⟨a2,by simp;omega⟩;have i3:(0:Int)<=v3/\v3<(([[I 40],[I 1],[I 3],[I 9],[I 1000]]:Rw).length:Int):=⟨a3,by simp;omega⟩;have i4:(0:Int)<=v4/\v4<(([[I 20],[I 2],[I 3],[I 5],[I 1000]]:Rw).length:Int):=⟨a4,by simp;omega⟩;have i5:(0:Int)<=v5/\v5<(([[I 30],[I 4],[I 5],[I 8],[I 1000]]:Rw).length:Int):=⟨a5,by simp;omega⟩;obtain⟨x3,_,_,hx3,-,-,s3,t3,-⟩:=Xi ⟨a3,b3⟩;obtain⟨_,x4,_,-,hx4,-,-,-,s4,t4,-⟩:=Xi ⟨a4,b4⟩;obtain⟨_,_,x5,-,-,hx5,-,-,-,-,s5,t5⟩:=Xi ⟨a5,b5⟩;have main : ∀ R, R = (if v6 = 0 then some [I x1, I x3, I x4, I x5, I (-16777216), I 16777216, I x2, I 0, I 0, .view Aa [], .view Aa l, I k6] else
   (N (axS l [] v6.toNat (v9-4) 0 ⟨x1,x3,x4,x5,-16777216,16777216,x2,v7-200,4+v8,[]⟩ k9)).bind λo=>if o.1=1 then some [I (Af (nth .dead o.2 11)),I (Af (nth .dead o.2 12)),I (Af (nth .dead o.2 13)),I (Af (nth .dead o.2 14)),I (Af (nth .dead o.2 15)),I (Af (nth .dead o.2 16)),I (Af (nth .dead o.2 17)),I (Af (nth .dead o.2 18)),I (Af (nth .dead o.2 19)), .view Aa (BS (nth .dead o.2 1)), .view Aa (BS (nth .dead o.2 20)),I (Af (nth .dead o.2 21))]else none)->
   ∃(a:Axs) (k':Nat),R=some (Bv a++[.view Aa l,I k'])/\AxOK a:=by
  intro R hR;by_cases c:v6=0
  ·rw[aa c]at hR;refine⟨⟨x1,x3,x4,x5,-16777216,16777216,x2,0,0,[]⟩,k6,hR,?_⟩;exact⟨s1,s2,by simp,λh=>absurd rfl h,⟨by simp,by simp⟩,by simp,⟨s3,t3,s4,t4,s5,t5,rfl,rfl⟩⟩
  ·rw[ab c]at hR;obtain⟨pit,k',g1,g2,g3⟩:=hL (a:=⟨x1,x3,x4,x5,-16777216,16777216,x2,v7-200,4+v8,[]⟩) (n:=v6.toNat) (v:=v9-4) (k:=k9) (by simp only;omega) (by omega) (Z32 (by omega));rw[g1]at hR;refine⟨⟨x1,x3,x4,x5,-16777216,16777216,x2,v7-200,4+v8,pit⟩,k',?_,?_⟩
   ·rw[hR];simp only[go_sem];try rfl
   ·exact⟨s1,s2,by simp only;omega,λ_=>by simp only;omega,g3,by simp only;omega,⟨s3,t3,s4,t4,s5,t5,rfl,rfl⟩⟩
 refine main _ ?_;rw[Zo3];simp only[go_sem,h1,h2,h3,h4,h5,h6,aa i1,aa i2,aa i3,aa i4,aa i5,e1,e2,hx3,hx4,hx5];by_cases c:v6=0
 ·rw[aa c,aa c]
 ·rw[ab c,ab c];simp only[h7,h8,h9,go_sem,Ae (x:=v9-4) (by omega),Ae (x:=v7-200) (by omega),Ae (x:=4+v8) (by omega)];have e:((v6.toNat:Nat):Int)=v6:=by omega
  simp only[axS,e,dh];rfl
theorem ZW {l:Rw} (hl:Src l) (k:Nat):∃(a:Axs) (k':Nat),Pe [.view Aa l,I k]=some (Bv a++[.view Aa l,I k'])/\AxOK a:=by
 refine Zfu (N:=Qmb) (HB hl) (fun{a n v k} hs hn hv=> ?_) k;obtain⟨p,k',h1,h2,h3⟩:=Qx3 (MN:=BG) (HB hl) hs n 0 [] v k (by omega) rfl hv;rw[Nat.zero_add]at h1 h2;exact⟨p,k',h1,h2,h3⟩
structure Ax3M (x : Ax3) : Prop where
 a:AxOK x.a
 b:AxOK x.b
 c:AxOK x.c
theorem Ax3M.ok {x:Ax3} (h:Ax3M x):Ax3OK x:=⟨by have:=h.a.back;omega,by have:=h.b.back;omega,by have:=h.c.back;omega⟩
theorem Zhg {l:Rw} (hl:Src l):∃x:Ax3,OL [.view Aa l]=some (AK x)/\Ax3M x:=by
 obtain⟨a,k1,h1,g1⟩:=ZW hl 0;obtain⟨b,k2,h2,g2⟩:=ZW hl k1;obtain⟨c,k3,h3,g3⟩:=ZW hl k2;refine⟨⟨a,b,c⟩,?_,g1,g2,g3⟩;have hf:=Ri l;unfold OL;generalize Pe=MA at*;generalize CG=MF at*;rw[Z4w];have h1':MA [.view Aa l,I 0]=some (Bv a++[.view Aa l,I k1]):=h1;simp only[Bv,ay,av]at h1' h2 h3;simp only[go_sem,hf,h1',h2,h3]
theorem Znk {p:Pth} {x:Ax3} {mv lo hi f:Int} {d:Pt} (j:Nat):(B9 p x mv lo hi (⟨[],0,f,d⟩,d) j).1.start=f/\(B9 p x mv lo hi (⟨[],0,f,d⟩,d) j).1.dirs=d:=by
 induction j with
 |zero=>exact⟨rfl,rfl⟩
 |succ j ih=>rw[B9,(Q5n _).1,(Q5n _).2];exact ih
theorem Q0a {p:Pth} {x:Ax3} {lo hi mv f:Int} {d:Pt} (hv:mv=1\/mv= -1) (hp:GoodPath p) (hx:Ax3OK x):∀(k j:Nat),j+k=p.aF.length->∀w,w=B9 p x mv lo hi (⟨[],0,f,d⟩,d) j->
  An (RP FO Oy) (Rs p x lo hi mv w.1 w.2 j)=some (1,F1 x mv (B9 p x mv lo hi (⟨[],0,f,d⟩,d) p.aF.length).1 (B9 p x mv lo hi (⟨[],0,f,d⟩,d) p.aF.length).2)
 |0,j,hj,w,hw=>by
  have hj':j=p.aF.length:=by omega
  refine A5 (o:=(1,_)) ?_ (by simp);rw[Qti,A7 (by omega),hw,hj']
 |k+1,j,hj,w,hw=>by
  have hcnt:=hp.count;have hb:=Qby (mv:=mv) (lo:=lo) (hi:=hi) (f:=f) (d:=d) hx hp.ok j (by omega);rw[<-hw]at hb;have hst:=Zd3 (MV:=FO) (N:=Oy) (lo:=lo) (hi:=hi) (now:=w.2) (j:=j) hv hp hx hb (by omega) (by omega) (by omega) (fun{a b s units} hu=>Zed hv hx hb (by omega) (by omega) (k:=268435456) (by omega) hu);rw[Bn hst];exact Q0a hv hp hx k (j+1) (by omega) _ (by rw[B9,<-hw])
theorem Z3i {MV:Fn} {N4 N10:Lp} {p:Pth} {x:Ax3} {lo hi mv f:Int} {d:Pt}
  (h4:N4 (QG p x lo hi mv ⟨[],0,f,d⟩ d 0 [] 0)=some (1,[.view Aa (Fi p.aF p.aF.length), .view Ap [],I lo,I hi,I mv,I p.start.x,I p.start.y,I p.start.z, .view Ag (p.aF.map Au), .view AE (p.aD.map At),I d.x,I d.y,I d.z,I mv,I x.a.step,I x.a.speed,I x.a.accel,I x.a.jerk,I x.a.low,I x.a.high,I x.a.back,I x.a.origin,I x.a.spacing, .view Aa (x.a.pitch.map As),I x.b.step,I x.b.speed,I x.b.accel,I x.b.jerk,I x.b.low,I x.b.high,I x.b.back,I x.b.origin,I x.b.spacing, .view Aa (x.b.pitch.map As),I x.c.step,I x.c.speed,I x.c.accel,I x.c.jerk,I x.c.low,I x.c.high,I x.c.back,I x.c.origin,I x.c.spacing, .view Aa (x.c.pitch.map As),I 0,I f,I d.x,I d.y,I d.z]))
  (h10:N10 (Rs p x lo hi mv ⟨[],0,f,d⟩ d 0)=some (1,F1 x mv (B9 p x mv lo hi (⟨[],0,f,d⟩,d) p.aF.length).1 (B9 p x mv lo hi (⟨[],0,f,d⟩,d) p.aF.length).2)):
  Qlx MV N4 N10 [.view Ap [],I p.start.x,I p.start.y,I p.start.z, .view Ag (p.aF.map Au), .view AE (p.aD.map At),I lo,I hi,I mv,I d.x,I d.y,I d.z,I mv,I x.a.step,I x.a.speed,I x.a.accel,I x.a.jerk,I x.a.low,I x.a.high,I x.a.back,I x.a.origin,I x.a.spacing, .view Aa (x.a.pitch.map As),I x.b.step,I x.b.speed,I x.b.accel,I x.b.jerk,I x.b.low,I x.b.high,I x.b.back,I x.b.origin,I x.b.spacing, .view Aa (x.b.pitch.map As),I x.c.step,I x.c.speed,I x.c.accel,I x.c.jerk,I x.c.low,I x.c.high,I x.c.back,I x.c.origin,I x.c.spacing, .view Aa (x.c.pitch.map As),I 0,I f,I d.x,I d.y,I d.z]=some (F1 x mv (B9 p x mv lo hi (⟨[],0,f,d⟩,d) p.aF.length).1 (B9 p x mv lo hi (⟨[],0,f,d⟩,d) p.aF.length).2):=by
 rw[Zsf];simp only[QG,dh,Int.cast_ofNat_Int]at h4;simp only[Rs,F1,dh,Int.cast_ofNat_Int]at h10;simp only[go_sem,ag,h4,h10]
theorem Zlz {p:Pth} {x:Ax3} {lo hi mv f:Int} {d:Pt} (hv:mv=1\/mv= -1) (hp:GoodPath p) (hx:Ax3OK x):
  Ru [.view Ap [],I p.start.x,I p.start.y,I p.start.z, .view Ag (p.aF.map Au), .view AE (p.aD.map At),I lo,I hi,I mv,I d.x,I d.y,I d.z,I mv,I x.a.step,I x.a.speed,I x.a.accel,I x.a.jerk,I x.a.low,I x.a.high,I x.a.back,I x.a.origin,I x.a.spacing, .view Aa (x.a.pitch.map As),I x.b.step,I x.b.speed,I x.b.accel,I x.b.jerk,I x.b.low,I x.b.high,I x.b.back,I x.b.origin,I x.b.spacing, .view Aa (x.b.pitch.map As),I x.c.step,I x.c.speed,I x.c.accel,I x.c.jerk,I x.c.low,I x.c.high,I x.c.back,I x.c.origin,I x.c.spacing, .view Aa (x.c.pitch.map As),I 0,I f,I d.x,I d.y,I d.z]=some (F1 x mv (B9 p x mv lo hi (⟨[],0,f,d⟩,d) p.aF.length).1 (B9 p x mv lo hi (⟨[],0,f,d⟩,d) p.aF.length).2):=by
 refine Z3i (MV:=FO) (N4:=Oy) (N10:=Qmq) ?_ (Q0a hv hp hx p.aF.length 0 (by omega) _ rfl);have h:=Zar (M:=FO) (x:=x) (lo:=lo) (hi:=hi) (mv:=mv) (t:=⟨[],0,f,d⟩) (now:=d) hp.ok p.aF.length 0 (by omega);rw[TU]at h;exact h
theorem Zvj {ME M2 M1 MC ML:Fn} {p:Pth} {x:Ax3} {d:Pt} {from_ to:Int} (hL:ML (Bj p)=some [I (AJ p.aF)]) (hC:∀n h:Int,MC [I n,I h]=some [I (Bq n h)])
  (hE:∀{lo hi mv f:Int},(mv=1\/mv= -1)->ME [.view Ap [],I p.start.x,I p.start.y,I p.start.z, .view Ag (p.aF.map Au), .view AE (p.aD.map At),I lo,I hi,I mv,I d.x,I d.y,I d.z,I mv,I x.a.step,I x.a.speed,I x.a.accel,I x.a.jerk,I x.a.low,I x.a.high,I x.a.back,I x.a.origin,I x.a.spacing, .view Aa (x.a.pitch.map As),I x.b.step,I x.b.speed,I x.b.accel,I x.b.jerk,I x.b.low,I x.b.high,I x.b.back,I x.b.origin,I x.b.spacing, .view Aa (x.b.pitch.map As),I x.c.step,I x.c.speed,I x.c.accel,I x.c.jerk,I x.c.low,I x.c.high,I x.c.back,I x.c.origin,I x.c.spacing, .view Aa (x.c.pitch.map As),I 0,I f,I d.x,I d.y,I d.z]=some (F1 x mv (B9 p x mv lo hi (⟨[],0,f,d⟩,d) p.aF.length).1 (B9 p x mv lo hi (⟨[],0,f,d⟩,d) p.aF.length).2)):
  Qiu ME M2 M1 MC ML (Bj p++AK x++[I d.x,I d.y,I d.z,I from_,I to])=some (AW (A1 p x d from_ to)):=by
 have he:=Zbq ME M2 M1 MC ML p.start.x p.start.y p.start.z (p.aF.map Au) (p.aD.map At) x.a.step x.a.speed x.a.accel x.a.jerk x.a.low x.a.high x.a.back x.a.origin x.a.spacing (x.a.pitch.map As) x.b.step x.b.speed x.b.accel x.b.jerk x.b.low x.b.high x.b.back x.b.origin x.b.spacing (x.b.pitch.map As) x.c.step x.c.speed x.c.accel x.c.jerk x.c.low x.c.high x.c.back x.c.origin x.c.spacing (x.c.pitch.map As) d.x d.y d.z from_ to;refine Eq.trans he ?_;unfold A1;simp only[Bj]at hL;simp only[hL,hC,go_sem,KG,Pf];generalize Bq from_ (AJ p.aF)=f at*;generalize Bq to (AJ p.aF)=t at*;by_cases c:t<f
 ·have h:=hE (lo:=min f t) (hi:=max f t) (mv:= -1) (f:=f) (.inr rfl);simp only[F1]at h;simp only[h,go_sem,c,if_true]
 ·have h:=hE (lo:=min f t) (hi:=max f t) (mv:=1) (f:=f) (.inl rfl);simp only[F1]at h;simp only[h,go_sem,c,if_false]
theorem Qq0 {p:Pth} {x:Ax3} {d:Pt} {from_ to:Int} (hp:GoodPath p) (hx:Ax3OK x):KV (Bj p++AK x++[I d.x,I d.y,I d.z,I from_,I to])=some (AW (A1 p x d from_ to)):=
 Zvj (Qvd hp.ok) (λ_ _=>Ul) λhv=>Zlz hv hp hx
def Ob (t:Trk):Pt:=if t.aE=[]then t.dirs else(Bb t.aE).dirs
theorem Zhx {p:Pth} {x:Ax3} (d:Pt) (a b:Int) (hp:GoodPath p) (hx:Ax3OK x):(A1 p x d a b).aE.length<=10000000/\0<=(A1 p x d a b).length/\(A1 p x d a b).length<=900000000000000:=by
 have hc:=hp.count;have h:=Qby (mv:=if Bq a (AJ p.aF)>Bq b (AJ p.aF)then-1 else 1) (lo:=min (Bq a (AJ p.aF)) (Bq b (AJ p.aF))) (hi:=max (Bq a (AJ p.aF)) (Bq b (AJ p.aF))) (f:=Bq a (AJ p.aF)) (d:=d) hx hp.ok p.aF.length (co _);obtain⟨h1,h2,-⟩:=h;unfold A1;simp only;refine⟨by omega,by omega,by omega⟩
theorem Qln {x:Ax3} {mv:Int} {Q:Int->Pt->Prop}:∀{a s:Int} {d:Pt} {l:List Pce},DN x mv Q a s d l->a<=Co a l
 |a,_,_,[],_=>df _
 |a,s,d,c::l,h=>by
  obtain⟨-,-,h3,-,h5⟩:=h;have:=Qln h5;unfold Co;omega
theorem QB {x:Ax3} {mv:Int} {Q:Int->Pt->Prop} (hv:mv=1\/mv= -1):∀{a s:Int} {d:Pt} {l:List Pce},DN x mv Q a s d l->∀i,i<l.length->
  a<=(pcA l i).at_/\1<=(pcA l i).units/\eI l i<=Co a l/\(s-((pcA l i).at_-a)<=(pcA l i).s/\(pcA l i).s<=s+((pcA l i).at_-a))/\((pcA l i).move=0\/(pcA l i).move=mv)
 |a,s,d,c::l,h,0,_=>by
  obtain⟨h1,h2,h3,h4,h5⟩:=h;have:=Qln h5;unfold eI;rw[Is];refine⟨by omega,h3,by unfold Co;omega,by omega,?_⟩;rcases h4 with h4|h4
  ·exact .inr h4.1
  ·exact .inl h4.1
 |a,s,d,c::l,h,i+1,hi=>by
  obtain⟨h1,h2,h3,h4,h5⟩:=h;have ih:=QB hv h5 i (by simpa using hi);unfold eI at ih⊢;rw[Fe];obtain⟨g1,g2,g3,g4,g5⟩:=ih;have hm:c.move*c.units=0\/c.move*c.units=c.units\/c.move*c.units= -c.units:=by
   rcases h4 with h4|h4
   ·rw[h4.1];rcases hv with rfl|rfl<;>omega
   ·rw[h4.1];omega
  refine⟨by omega,g2,by unfold Co;exact g3,by omega,g5⟩
theorem Q9a {x:Ax3} {mv:Int} {Q:Int->Pt->Prop} (hv:mv=1\/mv= -1):∀{a s:Int} {d:Pt} {l:List Pce},DN x mv Q a s d l->∀i j,i<=j->j<l.length->eI l i<=eI l j
 |a,s,d,c::l,h,0,0,_,_=>df _
 |a,s,d,c::l,h,0,j+1,_,hj=>by
  obtain⟨h1,h2,h3,h4,h5⟩:=h;have:=QB hv h5 j (by simpa using hj);unfold eI at*;rw[Is,Fe];omega
 |a,s,d,c::l,h,i+1,0,hij,_=>by omega
 |a,s,d,c::l,h,i+1,j+1,hij,hj=>by
  obtain⟨h1,h2,h3,h4,h5⟩:=h;have:=Q9a hv h5 i j (by omega) (by simpa using hj);unfold eI at*;rw[Fe,Fe];exact this
theorem Qso {x:Ax3} {mv:Int} {Q:Int->Pt->Prop}:∀{a s:Int} {d:Pt} {l:List Pce},DN x mv Q a s d l->l≠[]->eI l (l.length-1)=Co a l
 |a,s,d,[c],h,_=>by
  obtain⟨h1,-⟩:=h;show eI [c] 0=Co a [c];unfold eI;rw[Is];simp only[Co];omega
 |a,s,d,c::e::l,h,_=>by
  obtain⟨-,-,-,-,h5⟩:=h;have:=Qso h5 (by simp);have e1:(c::e::l).length-1=((e::l).length-1)+1:=by simp
  rw[e1];unfold eI at*;rw[Fe,this];rfl
def mvP (p:Pth) (a b:Int):Int:=if Bq a (AJ p.aF)>Bq b (AJ p.aF)then-1 else 1
theorem Ty (p:Pth) (a b:Int):mvP p a b=1\/mvP p a b= -1:=by unfold mvP;split<;>simp
theorem Qv {p:Pth} {x:Ax3} {d:Pt} {a b:Int} {Q:Int->Pt->Prop} (hx:Ax3OK x) (hp:GoodPath p) (hQ:Q9q p (mvP p a b) Q):
  ∃d',TC x (mvP p a b) Q (A1 p x d a b) (Bq b (AJ p.aF)) d'/\(A1 p x d a b).start=Bq a (AJ p.aF)/\(A1 p x d a b).dirs=d:=by
 have hn:=Qfs hp;have ha:0<=Bq a (AJ p.aF)/\Bq a (AJ p.aF)<=AJ p.aF:=by unfold Bq;omega
 have hb:0<=Bq b (AJ p.aF)/\Bq b (AJ p.aF)<=AJ p.aF:=by unfold Bq;omega
 have hk:=λmv lo hi f=>Znk (p:=p) (x:=x) (mv:=mv) (lo:=lo) (hi:=hi) (f:=f) (d:=d) p.aF.length;unfold A1 mvP at*;simp only;generalize Bq a (AJ p.aF)=f at*;generalize Bq b (AJ p.aF)=t at*;have h:=Qsc (p:=p) (x:=x) (mv:=if f>t then-1 else 1) (lo:=min f t) (hi:=max f t) (f:=f) (d:=d) (Q:=Q) (by split<;>simp) hx hp.ok (by omega) (by split<;>omega) hQ p.aF.length (co _);have hs:KM p.aF (if f>t then-1 else 1) (min f t) (max f t) p.aF.length=t:=by
  unfold KM;rw[Nat.sub_self,TU,Q2u];by_cases c:f>t
  ·rw[aa c,aa (by omega)];omega
  ·rw[ab c,ab (by omega)];omega
 rw[hs]at h;exact⟨_,h,(hk _ _ _ _).1,(hk _ _ _ _).2⟩
theorem Zma {x:Ax3} {mv:Int} {Q:Int->Pt->Prop} {t:Trk} {s:Int} {d:Pt} (hv:mv=1\/mv= -1) (h:TC x mv Q t s d) (hb:t.aE.length<=10000000/\0<=t.length/\t.length<=900000000000000) (hs:0<=t.start/\t.start<=263886834032640):TQ t:=by
 obtain⟨h1,h2,-,-⟩:=h;refine⟨hb.1,hb.2,λi hi=> ?_,Q9a hv h1,λhne=>by rw[Qso h1 hne,h2],hs,λi hi=> ?_,λi hi=> ?_⟩
 ·have:=QB hv h1 i hi;rw[h2]at this;exact⟨this.1,this.2.1,this.2.2.1⟩
 ·have:=QB hv h1 i hi;rw[h2]at this;unfold eI at this;omega
 ·have:=(QB hv h1 i hi).2.2.2.2;rcases hv with rfl|rfl
  ·rcases this with h|h
   ·exact .inl h
   ·exact .inr (.inl h)
  ·rcases this with h|h
   ·exact .inl h
   ·exact .inr (.inr h)
theorem RT {p:Pth} {x:Ax3} (d:Pt) (a b:Int) (hx:Ax3OK x) (hp:GoodPath p):TQ (A1 p x d a b):=by
 have hn:=Qfs hp;obtain⟨d',h1,h2,-⟩:=Qv (d:=d) (a:=a) (b:=b) (Q:=λ_ _=>True) hx hp (λ_ _ _ _ _ _ _ _=>trivial);exact Zma (Ty p a b) h1 (Zhx d a b hp hx) (by rw[h2];unfold Bq;omega)
def Cg (a:Axs) (i:Nat):Int:=a.pitch.getD i 0
def J_ (a:Axs) (p:Int):Int:=
 if a.pitch=[]then 0
 else if p<=a.origin then Cg a 0
 else if(p-a.origin)/a.spacing>=a.pitch.length-1 then Cg a (a.pitch.length-1)
 else Cg a ((p-a.origin)/a.spacing).toNat+Br ((Cg a (((p-a.origin)/a.spacing).toNat+1)-Cg a ((p-a.origin)/a.spacing).toNat)*(p-a.origin-(p-a.origin)/a.spacing*a.spacing)) a.spacing
def DG (a:Axs) (p:Int):Int:=Br (p+J_ a p) a.step
def okB (p:Int):Prop:= -1000000000<=p/\p<=1000000000
theorem Q5a {l:List Int} (h:l≠[]):0<l.length:=by
 cases l with
 |nil=>exact absurd rfl h
 |cons _ _=>simp
theorem QJ {a:Axs} (h:AxOK a) {i:Nat} (hi:i<a.pitch.length): -4096<=Cg a i/\Cg a i<=4096:=by
 have e:Cg a i=a.pitch[i]:=by unfold Cg;simp[hi]
 rw[e];exact h.pitch.1 _ (bq _)
theorem RL {a:Axs} {i:Nat} (hi:i<a.pitch.length):nth [] (a.pitch.map As) i=[I (Cg a i)]:=by
 have e:Cg a i=a.pitch[i]:=by unfold Cg;simp[hi]
 rw[e];exact IU _ _ _ _ hi
theorem Q9w {a:Axs} (h:AxOK a) (hne:a.pitch≠[]) {p:Int} (h1: ¬p<=a.origin) (h2: ¬(p-a.origin)/a.spacing>=a.pitch.length-1):
  ∃(i:Nat) (r:Int),((p-a.origin)/a.spacing=i)/\i+1<a.pitch.length/\0<=r/\r<a.spacing/\p-a.origin=i*a.spacing+r/\p-a.origin-(p-a.origin)/a.spacing*a.spacing=r:=by
 have hs:=h.spacing hne;have e0:=Int.mul_ediv_add_emod (p-a.origin) a.spacing;have e1:=Int.emod_nonneg (p-a.origin) (show a.spacing≠0 by omega);have e2:=Int.emod_lt_of_pos (p-a.origin) (show 0<a.spacing by omega);have e3:0<=(p-a.origin)/a.spacing:=Int.ediv_nonneg (by omega) (by omega);refine⟨((p-a.origin)/a.spacing).toNat,(p-a.origin)%a.spacing,by omega,by omega,e1,e2,?_,?_⟩
 ·rw[Int.toNat_of_nonneg e3,Int.mul_comm];omega
 ·rw[Int.mul_comm ((p-a.origin)/a.spacing)];omega
theorem Zaf {a:Axs} (h:AxOK a) (hne:a.pitch≠[]) {i:Nat} (hi:i+1<a.pitch.length) {r:Int} (hr:0<=r/\r<=a.spacing):
  (-30<=Cg a (i+1)-Cg a i/\Cg a (i+1)-Cg a i<=30)/\(Br ((Cg a (i+1)-Cg a i)*r) a.spacing).natAbs<=31:=by
 have hs:=h.spacing hne;have hp:=h.pitch.2 i hi;have hd: -30<=Cg a (i+1)-Cg a i/\Cg a (i+1)-Cg a i<=30:=by unfold Cg;omega
 refine⟨hd,Qc9 (by omega) ?_⟩;have m1:(Cg a (i+1)-Cg a i)*r<=31*r:=Int.mul_le_mul_of_nonneg_right (by omega) hr.1;have m2: -31*r<=(Cg a (i+1)-Cg a i)*r:=Int.mul_le_mul_of_nonneg_right (by omega) hr.1;have e:((31:Nat):Int)=31:=rfl;rw[e];omega
theorem Q9k {a:Axs} (h:AxOK a) (p:Int): -5000<=J_ a p/\J_ a p<=5000:=by
 unfold J_;by_cases c:a.pitch=[]
 ·rw[aa c];omega
 ·have hl:=Q5a c;rw[ab c];by_cases c1:p<=a.origin
  ·rw[aa c1];have:=QJ h (show 0<a.pitch.length from hl);omega
  ·rw[ab c1];by_cases c2:(p-a.origin)/a.spacing>=a.pitch.length-1
   ·rw[aa c2];have:=QJ h (show a.pitch.length-1<a.pitch.length by omega);omega
   ·rw[ab c2];obtain⟨i,r,e1,e2,e3,e4,e5,e6⟩:=Q9w h c c1 c2;rw[e6,e1,ak];have b1:=QJ h (show i<a.pitch.length by omega);have b2:=(Zaf h c e2 (r:=r) (by omega)).2;omega
theorem Zia {a:Axs} (h:AxOK a) {v:Int} (hv:v.natAbs<=1000010000):KK (Bv a++[I v])=some [I (Br v a.step)]:=by
 have hs:=h.step;have he:=Ztu a.step a.speed a.accel a.jerk a.low a.high a.back a.origin a.spacing (a.pitch.map As) v;unfold KK;refine Eq.trans he ?_;rw[Ae (x:=2*v) (by omega),Ae (x:=2*v+a.step) (by omega),Ae (x:=2*a.step) (by omega)];have hm:=Int.tmod_add_mul_tdiv (2*v+a.step) (2*a.step);have h1:=Int.tmod_lt_of_pos (2*v+a.step) (show 0<2*a.step by omega);have h2:=Int.lt_tmod_of_pos (2*v+a.step) (show 0<2*a.step by omega);have hq:((2*v+a.step).tdiv (2*a.step)).natAbs<=(2*v+a.step).natAbs:=by rw[Int.natAbs_tdiv];exact Nat.div_le_self _ _
 generalize(2*v+a.step).tdiv (2*a.step)=q at*;generalize(2*v+a.step).tmod (2*a.step)=r at*;have e1:2*a.step*q=q*(2*a.step):=Int.mul_comm _ _;rw[A7 (by omega),A7 (by omega),A7 (by omega),A7 (by omega),Ae (x:=q) (by omega)];by_cases h:r<0
 ·rw[DV h,Ae (by omega),Ly (k:=q-1) (by omega)]
  ·rw[Int.sub_mul];omega
  ·rw[Int.sub_add_cancel];omega
 ·rw[A7 h,Ly (k:=q) (by omega)]
  ·omega
  ·rw[Int.add_mul];omega
theorem Z5k {a:Axs} (h:AxOK a) {p:Int} (hp:okB p):KQ (Bv a++[I p])=some [I (J_ a p)]:=by
 unfold okB at hp;have ho:=h.origin;have hc:=h.count;have he:=Zyf Bz a.step a.speed a.accel a.jerk a.low a.high a.back a.origin a.spacing (a.pitch.map As) p;unfold KQ;have hF:=fun{x y:Int} (hx:x.natAbs<=30) (hy:y.natAbs<=123) (hs:4<=a.spacing/\a.spacing<=123)=>Q6z (a:=x) (b:=y) (c:=a.spacing) (by omega) (by omega) (by omega);generalize Bz=M at*;refine Eq.trans he ?_;unfold J_;rw[ag];by_cases c:a.pitch=[]
 ·rw[aa c,c];rfl
 ·have hl:=Q5a c;have hs:=h.spacing c;have e1:wrap .i64 ((a.pitch.length:Int)-1)=((a.pitch.length-1:Nat):Int):=by rw[Ae (by omega)];omega
  have e2:wrap .i64 (p-a.origin)=p-a.origin:=Ae (by omega);rw[ab c,e2,e1];by_cases c1:p<=a.origin
  ·rw[aa c1];simp only[go_sem,RL hl];rw[ab (by omega),aa (by omega),aa (by omega)]
  ·have e3:wrap .i64 ((p-a.origin).tdiv a.spacing)=(p-a.origin)/a.spacing:=by
    rw[bc (by omega)];have:=Int.ediv_nonneg (show 0<=p-a.origin by omega) (show 0<=a.spacing by omega);have:=Int.ediv_le_self a.spacing (show 0<=p-a.origin by omega);exact Ae (by omega)
   rw[ab c1,e3];by_cases c2:(p-a.origin)/a.spacing>=(a.pitch.length:Int)-1
   ·rw[aa c2];simp only[go_sem,ak,RL (show a.pitch.length-1<a.pitch.length by omega)];rw[ab (by omega),ab (by omega),ab (by omega),ab (by omega),aa (by omega),aa (by omega)]
   ·rw[ab c2];obtain⟨i,r,g1,g2,g3,g4,g5,g6⟩:=Q9w h c c1 c2;obtain⟨n1,n2⟩:=Zaf h c g2 (r:=r) (by omega);have b1:=QJ h (show i<a.pitch.length by omega);rw[g6,g1]at*;rw[ak];have w1:wrap .i64 ((i:Int)+1)=((i+1:Nat):Int):=by rw[Ae (by omega)];omega
    have hmul:(i:Int)*a.spacing=p-a.origin-r:=by omega
    have w2:wrap .i64 (p-a.origin-wrap .i64 ((i:Int)*a.spacing))=r:=by rw[hmul,Ae (x:=p-a.origin-r) (by omega),Ae (by omega)];omega
    have hin1:(0:Int)<=(i:Int)/\(i:Int)<(a.pitch.length:Int):=by omega
    have hin2:(0:Int)<=((i+1:Nat):Int)/\((i+1:Nat):Int)<(a.pitch.length:Int):=by omega
    simp only[go_sem,w1,w2,ak,RL (show i<a.pitch.length by omega),RL g2,aa hin1,aa hin2];have b2:=QJ h g2;generalize Cg a (i+1)=y at*;generalize Cg a i=z at*;rw[ab (by omega),ab (by omega),ab (by omega),ab (by omega),ab (by omega),Ae (x:=y-z) (by omega),hF (by omega) (by omega) hs];simp only[go_sem];rw[Ae (by omega)]
theorem Zsw {a:Axs} (h:AxOK a) {p:Int} (hp:okB p):Nq (Bv a++[I p])=some [I (DG a p)]:=by
 have hb:=Q9k h p;have h1:=Z5k h hp;unfold okB at hp;have h2:=Zia h (v:=p+J_ a p) (by omega);have he:=Zci KK KQ a.step a.speed a.accel a.jerk a.low a.high a.back a.origin a.spacing (a.pitch.map As) p;unfold Nq;generalize KK=M1 at*;generalize KQ=M2 at*;refine Eq.trans he ?_;simp only[Bv,ay,av]at h1 h2;simp only[h1,go_sem,Ae (x:=p+J_ a p) (by omega),h2];rfl
def B5 (a:Axs) (d:Int):Int:=if d= -1 then-a.back else 0
def Dv (a:Axs) (move at_ was dirs u:Int):Int:=if move≠0\/was=dirs then B5 a dirs else if dirs= -1 then-min (u-at_) a.back else min (u-at_) a.back-a.back
theorem SQ {a:Axs} (hb:0<=a.back/\a.back<=1000) (v:Int):IP (Bv a++[I v])=some [I (B5 a v)]:=by
 have he:=Zfm a.step a.speed a.accel a.jerk a.low a.high a.back a.origin a.spacing (a.pitch.map As) v;unfold IP;refine Eq.trans he ?_;unfold B5;by_cases c:v= -1
 ·rw[BH (by simp[c]),aa c,Ae (by omega)];congr 3;omega
 ·rw[Bw (by simp[c]),ab c]
theorem Zc8 {M:Fn} {a:Axs} {c:Pce} {u:Int} (hM:∀v:Int,M (Bv a++[I v])=some [I (B5 a v)]) (hb:0<=a.back/\a.back<=1000) (hu:0<=u-c.at_/\u-c.at_<=2000000000000000):
  PH M (Bv a++AB c++[I 0,I u])=some [I (Dv a c.move c.at_ c.was.x c.dirs.x u)]:=by
 have he:=Qli M a.step a.speed a.accel a.jerk a.low a.high a.back a.origin a.spacing (a.pitch.map As) c.at_ c.units c.s c.move c.was.x c.was.y c.was.z c.dirs.x c.dirs.y c.dirs.z 0 u;refine Eq.trans he ?_;have hm0:=hM c.dirs.x;simp only[Bv,ay,av]at hm0;have e1:wrap .i64 (0+1)=1:=rfl;have e2:wrap .i64 (1+1)=2:=rfl;have w1:wrap .i64 (u-c.at_)=u-c.at_:=Ae (by omega);have w2:wrap .i64 (0-min (u-c.at_) a.back)= -min (u-c.at_) a.back:=by rw[Ae (by omega)];omega
 have w3:wrap .i64 (min (u-c.at_) a.back-a.back)=min (u-c.at_) a.back-a.back:=Ae (by omega);unfold Dv;simp only[go_sem,e1,e2,KG,w1,w2,w3,Nat.reduceAdd,Int.cast_ofNat_Int,Int.natCast_zero,Int.natCast_one,Int.reduceEq,hm0];by_cases c1:c.move=0
 ·by_cases c2:c.was.x=c.dirs.x
  ·simp[c1,c2]
  ·by_cases c3:c.dirs.x= -1
   ·simp[c1,c3,show c.was.x≠-1 from λe=>c2 (by rw[e,c3])]
   ·simp[c1,c2,c3]
 ·simp[c1]
theorem Z35 {M:Fn} {a:Axs} {c:Pce} {u:Int} (hM:∀v:Int,M (Bv a++[I v])=some [I (B5 a v)]) (hb:0<=a.back/\a.back<=1000) (hu:0<=u-c.at_/\u-c.at_<=2000000000000000):
  PH M (Bv a++AB c++[I (wrap .i64 (0+1)),I u])=some [I (Dv a c.move c.at_ c.was.y c.dirs.y u)]:=by
 have he:=Qli M a.step a.speed a.accel a.jerk a.low a.high a.back a.origin a.spacing (a.pitch.map As) c.at_ c.units c.s c.move c.was.x c.was.y c.was.z c.dirs.x c.dirs.y c.dirs.z (wrap .i64 (0+1)) u;refine Eq.trans he ?_;have hm0:=hM c.dirs.y;simp only[Bv,ay,av]at hm0;have e1:wrap .i64 (0+1)=1:=rfl;have e2:wrap .i64 (1+1)=2:=rfl;have w1:wrap .i64 (u-c.at_)=u-c.at_:=Ae (by omega);have w2:wrap .i64 (0-min (u-c.at_) a.back)= -min (u-c.at_) a.back:=by rw[Ae (by omega)];omega
 have w3:wrap .i64 (min (u-c.at_) a.back-a.back)=min (u-c.at_) a.back-a.back:=Ae (by omega);unfold Dv;simp only[go_sem,e1,e2,KG,w1,w2,w3,Nat.reduceAdd,Int.cast_ofNat_Int,Int.natCast_zero,Int.natCast_one,Int.reduceEq,hm0];by_cases c1:c.move=0
 ·by_cases c2:c.was.y=c.dirs.y
  ·simp[c1,c2]
  ·by_cases c3:c.dirs.y= -1
   ·simp[c1,c3,show c.was.y≠-1 from λe=>c2 (by rw[e,c3])]
   ·simp[c1,c2,c3]
 ·simp[c1]
theorem Z0a {M:Fn} {a:Axs} {c:Pce} {u:Int} (hM:∀v:Int,M (Bv a++[I v])=some [I (B5 a v)]) (hb:0<=a.back/\a.back<=1000) (hu:0<=u-c.at_/\u-c.at_<=2000000000000000):
  PH M (Bv a++AB c++[I (wrap .i64 (wrap .i64 (0+1)+1)),I u])=some [I (Dv a c.move c.at_ c.was.z c.dirs.z u)]:=by
 have he:=Qli M a.step a.speed a.accel a.jerk a.low a.high a.back a.origin a.spacing (a.pitch.map As) c.at_ c.units c.s c.move c.was.x c.was.y c.was.z c.dirs.x c.dirs.y c.dirs.z (wrap .i64 (wrap .i64 (0+1)+1)) u;refine Eq.trans he ?_;have hm0:=hM c.dirs.z;simp only[Bv,ay,av]at hm0;have e1:wrap .i64 (0+1)=1:=rfl;have e2:wrap .i64 (1+1)=2:=rfl;have w1:wrap .i64 (u-c.at_)=u-c.at_:=Ae (by omega);have w2:wrap .i64 (0-min (u-c.at_) a.back)= -min (u-c.at_) a.back:=by rw[Ae (by omega)];omega
 have w3:wrap .i64 (min (u-c.at_) a.back-a.back)=min (u-c.at_) a.back-a.back:=Ae (by omega);unfold Dv;simp only[go_sem,e1,e2,KG,w1,w2,w3,Nat.reduceAdd,Int.cast_ofNat_Int,Int.natCast_zero,Int.natCast_one,Int.reduceEq,hm0];by_cases c1:c.move=0
 ·by_cases c2:c.was.z=c.dirs.z
  ·simp[c1,c2]
  ·by_cases c3:c.dirs.z= -1
   ·simp[c1,c3,show c.was.z≠-1 from λe=>c2 (by rw[e,c3])]
   ·simp[c1,c2,c3]
 ·simp[c1]
theorem Zg1 {a:Axs} (hb:0<=a.back/\a.back<=1000) {move at_ was dirs u:Int} (hu:0<=u-at_): -1000<=Dv a move at_ was dirs u/\Dv a move at_ was dirs u<=1000:=by
 unfold Dv B5
 (repeat' split)<;>omega
theorem Z0p {a:Pt} {g:Sgm} {d:Int} (ha:bd B26 a) (hg:1<=g.len/\g.len<=268435456/\bd B26 g.to) (hd:0<=d/\d<=g.len):bd 201326592 (Nd a g d):=by
 have key:∀u v:Int,u.natAbs<=B26->v.natAbs<=B26->(v+Br ((u-v)*d) g.len).natAbs<=201326592:=by
  intro u v hu hv;have h1:=IB hu hv;have h2:=Q3h (D:=u-v) (L:=g.len) (d:=d) (by omega) (bv h1 (by decide)) hd;have h3:v.natAbs<=67108864:=hv;omega
 exact⟨key _ _ hg.2.2.1 ha.1,key _ _ hg.2.2.2.1 ha.2.1,key _ _ hg.2.2.2.2 ha.2.2⟩
theorem Zrm {p:Pth} (h:GoodPath p) (s:Int):bd 201326592 (atP p s):=by
 unfold atP;by_cases c:p.aF=[]
 ·rw[c];exact A0 h.start (by decide)
 ·have hok:=h.ok;obtain⟨f1,f2,f3,f4⟩:=Xv (l:=p.aF) (a:=p.start) (s:=max s 0) c (λg hg=>(hok.seg g hg).1) (by omega);rw[f4];exact Z0p (Qr3 h.start hok f1) (hok.seg _ (Hs f1)) ⟨f2,f3⟩
theorem ON {a:Axs} (h:AxOK a) {p:Int} (hp:okB p):(DG a p).natAbs<=2000000000:=by
 have hb:=Q9k h p;have hs:=h.step;unfold okB at hp;unfold DG;refine Qc9 (by omega) ?_;have e:((2000000000:Nat):Int)=2000000000:=rfl;rw[e];omega
def shT (a:Axs) (t:Trk) (u:Int) (f:Pt->Int):Int:=if t.aE=[]then B5 a (f t.dirs)else Dv a (pcA t.aE (iT t u)).move (pcA t.aE (iT t u)).at_ (f (pcA t.aE (iT t u)).was) (f (pcA t.aE (iT t u)).dirs) (clT t u)
def Fy (p:Pth) (x:Ax3) (s:Int):Pt:=⟨DG x.a (atP p s).x,DG x.b (atP p s).y,DG x.c (atP p s).z⟩
def Bg (p:Pth) (x:Ax3) (t:Trk) (u:Int):Pt:=
 ⟨(Fy p x (A_ t u)).x+shT x.a t u Pt.x,(Fy p x (A_ t u)).y+shT x.b t u Pt.y,(Fy p x (A_ t u)).z+shT x.c t u Pt.z⟩
theorem Q06 {t:Trk} (h:TQ t) (hch:∀i,i+1<t.aE.length->(pcA t.aE (i+1)).at_=eI t.aE i) (h0:t.aE≠[]->(pcA t.aE 0).at_=0) (u:Int) (hne:t.aE≠[]):(pcA t.aE (iT t u)).at_<=clT t u/\(0<iT t u->(pcA t.aE (iT t u)).at_<clT t u):=by
 have hi:=JA h u hne;have hc:=KZ h u;by_cases c:iT t u=0
 ·rw[c,h0 hne];exact⟨hc.1,λg=>absurd g (by omega)⟩
 ·obtain⟨j,hj⟩:∃j,iT t u=j+1:=⟨iT t u-1,by omega⟩;rw[hj]at hi⊢;rw[hch j hi];have: ¬clT t u<=eI t.aE j:=by
   intro g;have:=T5 (show j<t.aE.length by omega) g;unfold iT at hj;omega
  exact⟨by omega,λ_=>by omega⟩
theorem Z5 {t:Trk} (h:TQ t) (u:Int):clT t (clT t u)=clT t u:=by have:=h.len;unfold clT Bq;omega
theorem Qsy {t:Trk} (h:TQ t) (u:Int):A_ t (clT t u)=A_ t u:=by unfold A_ iT;rw[Z5 h]
theorem Q7x {t:Trk} (h:TQ t) (u:Int): -3000000000000000<=A_ t u/\A_ t u<=3000000000000000:=by
 unfold A_;by_cases c:t.aE=[]
 ·rw[aa c];have:=h.start;omega
 ·have hi:=JA h u c;have h1:=h.pos _ hi;have h2:=h.s _ hi;have h3:=h.move _ hi;have h4:=KZ h u;have h5:=h.len;rw[ab c];unfold eI at h1;rcases h3 with h3|h3|h3<;>rw[h3]<;>omega
theorem Q98 {p:Pth} (h:GoodPath p) (s:Int):okB (atP p s).x/\okB (atP p s).y/\okB (atP p s).z:=by
 obtain⟨h1,h2,h3⟩:=Zrm h s;unfold okB;omega
structure TH (t : Trk) : Prop where
 q:TQ t
 at0:t.aE≠[]->(pcA t.aE 0).at_=0
 at1:∀i,i+1<t.aE.length->(pcA t.aE (i+1)).at_=eI t.aE i
theorem MJ {a:Axs} (hb:0<=a.back/\a.back<=1000) {t:Trk} (h:TH t) (u:Int) (f:Pt->Int): -1000<=shT a t u f/\shT a t u f<=1000:=by
 unfold shT;by_cases c:t.aE=[]
 ·rw[aa c];unfold B5;split<;>omega
 ·rw[ab c];exact Zg1 hb (by have:=(Q06 h.q h.at1 h.at0 u c).1;omega)
theorem Zxd {MS MD MM MF MA ML MC:Fn} {p:Pth} {x:Ax3} {t:Trk} {u:Int} (hp:GoodPath p) (hx:Ax3M x) (ht:TH t) (hC:MC [I u,I t.length]=some [I (clT t u)]) (hL:ML (AW t++[I (clT t u)])=some [I (A_ t u)]) (hA:MA (Bj p++[I (A_ t u)])=some (ptR (atP p (A_ t u))))
  (hF:MF (AW t++[I (clT t u)])=some [I (if t.aE=[]then-1 else(iT t u:Int))]) (hM:∀{a:Axs} {q:Int},AxOK a->okB q->MM (Bv a++[I q])=some [I (DG a q)]) (hD:∀{a:Axs} (v:Int),(0<=a.back/\a.back<=1000)->MD (Bv a++[I v])=some [I (B5 a v)])
  (h0:∀{a:Axs} {c:Pce} {u:Int},(0<=a.back/\a.back<=1000)->(0<=u-c.at_/\u-c.at_<=2000000000000000)->MS (Bv a++AB c++[I 0,I u])=some [I (Dv a c.move c.at_ c.was.x c.dirs.x u)])
  (h1:∀{a:Axs} {c:Pce} {u:Int},(0<=a.back/\a.back<=1000)->(0<=u-c.at_/\u-c.at_<=2000000000000000)->MS (Bv a++AB c++[I (wrap .i64 (0+1)),I u])=some [I (Dv a c.move c.at_ c.was.y c.dirs.y u)])
  (h2:∀{a:Axs} {c:Pce} {u:Int},(0<=a.back/\a.back<=1000)->(0<=u-c.at_/\u-c.at_<=2000000000000000)->MS (Bv a++AB c++[I (wrap .i64 (wrap .i64 (0+1)+1)),I u])=some [I (Dv a c.move c.at_ c.was.z c.dirs.z u)]):
  Qgk MS MD MM MF MA ML MC (Bj p++AK x++AW t++[I u])=some (ptR (Bg p x t u)):=by
 have he:=Za5 MS MD MM MF MA ML MC u p x t;refine Eq.trans he ?_;obtain⟨o1,o2,o3⟩:=Q98 hp (A_ t u);have m1:=hM hx.a o1;have m2:=hM hx.b o2;have m3:=hM hx.c o3;have b1:=ON hx.a o1;have b2:=ON hx.b o2;have b3:=ON hx.c o3;have s1:=MJ hx.ok.a ht u Pt.x;have s2:=MJ hx.ok.b ht u Pt.y;have s3:=MJ hx.ok.c ht u Pt.z;unfold Bg Fy;generalize DG x.a (atP p (A_ t u)).x=q1 at*;generalize DG x.b (atP p (A_ t u)).y=q2 at*;generalize DG x.c (atP p (A_ t u)).z=q3 at*;have w1:wrap .i64 (q1+shT x.a t u Pt.x)=q1+shT x.a t u Pt.x:=Ae (by omega);have w2:wrap .i64 (q2+shT x.b t u Pt.y)=q2+shT x.b t u Pt.y:=Ae (by omega);have w3:wrap .i64 (q3+shT x.c t u Pt.z)=q3+shT x.c t u Pt.z:=Ae (by omega);by_cases c:t.aE=[]
 ·have d1:=hD t.dirs.x hx.ok.a;have d2:=hD t.dirs.y hx.ok.b;have d3:=hD t.dirs.z hx.ok.c;unfold shT at*;rw[aa c]at hF;simp only[aa c]at w1 w2 w3⊢;simp only[Bj,AW,Bv,ay,av]at hL hA hF d1 d2 d3 m1 m2 m3;simp only[hC,hL,hA,hF,go_sem,m1,m2,m3,d1,d2,d3,w1,w2,w3];rw[aa (by omega),aa (by omega),aa (by omega)]
 ·have hi:=JA ht.q u c;have hcnt:=ht.q.count;have hat:=(Q06 ht.q ht.at1 ht.at0 u c).1;have hcl:=KZ ht.q u;have hlen:=ht.q.len;have hpos:=ht.q.pos _ hi;have hin:(0:Int)<=(iT t u:Int)/\(iT t u:Int)<(t.aE.length:Int):=by omega
  have hneg: ¬((iT t u:Int)<0):=by omega
  have d1:=h0 (c:=pcA t.aE (iT t u)) (u:=clT t u) hx.ok.a (by omega);have d2:=h1 (c:=pcA t.aE (iT t u)) (u:=clT t u) hx.ok.b (by omega);have d3:=h2 (c:=pcA t.aE (iT t u)) (u:=clT t u) hx.ok.c (by omega);unfold shT at*;rw[ab c]at hF;simp only[ab c]at w1 w2 w3⊢;simp only[Bj,AW,Bv,AB,ay,av]at hL hA hF d1 d2 d3 m1 m2 m3;simp only[hC,hL,hA,hF,go_sem,m1,m2,m3,ag,aa hin,ak,NF hi,ab hneg,d1,d2,d3,w1,w2,w3]
theorem Zb5 {p:Pth} {x:Ax3} {t:Trk} (hp:GoodPath p) (hx:Ax3M x) (ht:TH t) (u:Int):C8 (Bj p++AK x++AW t++[I u])=some (ptR (Bg p x t u)):=by
 have hs:=Q7x ht.q u;have hpl:=Rx ht.q (clT t u);rw[Qsy ht.q]at hpl;exact Zxd hp hx ht Ul hpl (Ztk hp (by unfold i64;omega)) (Xo ht.q u) (λh1 h2=>Zsw h1 h2) (λv hb=>SQ hb v) (λhb hu=>Zc8 (SQ hb) hb hu) (λhb hu=>Z35 (SQ hb) hb hu) (λhb hu=>Z0a (SQ hb) hb hu)
theorem Quv {x:Ax3} {mv:Int} {Q:Int->Pt->Prop} {a s:Int} {d:Pt} {l:List Pce} (h:DN x mv Q a s d l) (hne:l≠[]):(pcA l 0).at_=a:=by
 cases l with
 |nil=>exact absurd rfl hne
 |cons c l=>rw[Is];exact h.1
theorem Q4x {x:Ax3} {mv:Int} {Q:Int->Pt->Prop}:∀{a s:Int} {d:Pt} {l:List Pce},DN x mv Q a s d l->∀i,i+1<l.length->(pcA l (i+1)).at_=eI l i
 |a,s,d,[],h,i,hi=>by simp at hi
 |a,s,d,c::l,h,0,hi=>by
  obtain⟨h1,h2,h3,h4,h5⟩:=h;unfold eI;rw[Fe,Is,Quv h5 (λe=>by rw[e]at hi;simp at hi),h1]
 |a,s,d,c::l,h,i+1,hi=>by
  obtain⟨h1,h2,h3,h4,h5⟩:=h;have:=Q4x h5 i (by simpa using hi);unfold eI at*;rw[Fe,Fe];exact this
theorem Q9d {p:Pth} {x:Ax3} (d:Pt) (a b:Int) (hx:Ax3OK x) (hp:GoodPath p):TH (A1 p x d a b):=by
 obtain⟨d',h1,h2,-⟩:=Qv (d:=d) (a:=a) (b:=b) (Q:=λ_ _=>True) hx hp (λ_ _ _ _ _ _ _ _=>trivial);exact⟨RT d a b hx hp,Quv h1.ch,Q4x h1.ch⟩
def wF (z:Int):List Pce->Int
 |[]=> -1
 |c::l=>if c.move≠0/\0<=(z-c.s)*c.move/\(z-c.s)*c.move<=c.units then c.at_+(z-c.s)*c.move else wF z l
def Je (t:Trk) (z:Int):Int:=if z=t.start then 0 else wF z t.aE
def plL:List Pce->Int->Int
 |[],_=>0
 |c::l,u=>if u<=c.at_+c.units then c.s+c.move*(u-c.at_)else plL l u
theorem Q2e:∀{l:List Pce} {u:Int},fI l u<l.length->plL l u=(pcA l (fI l u)).s+(pcA l (fI l u)).move*(u-(pcA l (fI l u)).at_)
 |[],_,h=>by simp at h
 |c::l,u,h=>by
  unfold fI at h⊢;unfold plL;by_cases c0:u<=c.at_+c.units
  ·rw[aa c0,aa c0,Is]
  ·rw[ab c0]at h⊢;rw[ab c0,Fe];exact Q2e (by simpa using h)
theorem Zno {t:Trk} (h:TQ t) (u:Int) (hne:t.aE≠[]):A_ t u=plL t.aE (clT t u):=by
 have hi:=JA h u hne;unfold A_;rw[ab hne];exact(Q2e hi).symm
theorem Q2h {x:Ax3} {mv:Int} {Q:Int->Pt->Prop} (hv:mv=1\/mv= -1):∀{a s:Int} {d:Pt} {l:List Pce},DN x mv Q a s d l->0<=mv*(C1 s l-s)
 |a,s,d,[],_=>by simp[C1]
 |a,s,d,c::l,h=>by
  obtain⟨h1,h2,h3,h4,h5⟩:=h;have ih:=Q2h hv h5;unfold C1;generalize C1 (s+c.move*c.units) l=E at*;have hm:c.move=mv\/c.move=0:=by rcases h4 with h4|h4<;>simp[h4.1]
  rcases hm with hm|hm<;>rw[hm]at ih<;>rcases hv with rfl|rfl<;>omega
theorem Q7q {t:Trk} (h:TQ t) {z:Int} (hz:i64 z):∀(k j:Nat),j+k=t.aE.length->wF z (t.aE.drop j)= -1/\An Qx [I z, .view Ap (t.aE.map AB),I t.aE.length,I j]=some (2,[])\/
  An Qx [I z, .view Ap (t.aE.map AB),I t.aE.length,I j]=some (1,[I (wF z (t.aE.drop j))])
 |0,j,hj=>by
  left;rw[List.drop_of_length_le (by omega)];refine⟨rfl,A5 (o:=(2,_)) ?_ (by simp)⟩;rw[Q2y,A7 (by omega)]
 |k+1,j,hj=>by
  have hlt:j<t.aE.length:=by omega
  have hcnt:=h.count;have hin:(0:Int)<=(j:Int)/\(j:Int)<(t.aE.length:Int):=by omega
  have hpos:=h.pos j hlt;have hl:=h.len;have hs:=h.s j hlt;have hmv:=h.move j hlt;have e:t.aE.drop j=pcA t.aE j::t.aE.drop (j+1):=by
   have e1:pcA t.aE j=t.aE[j]:=by unfold pcA;simp[hlt]
   rw[e1];exact Mw _ _ hlt
  have hst:Qx [I z, .view Ap (t.aE.map AB),I t.aE.length,I j]=if(pcA t.aE j).move≠0/\0<=(z-(pcA t.aE j).s)*(pcA t.aE j).move/\(z-(pcA t.aE j).s)*(pcA t.aE j).move<=(pcA t.aE j).units then
    some (1,[I ((pcA t.aE j).at_+(z-(pcA t.aE j).s)*(pcA t.aE j).move)])else some (0,[I z, .view Ap (t.aE.map AB),I t.aE.length,I (j+1:Nat)]):=by
   rw[Q2y];simp only[go_sem,ag,ak,NF hlt,aa hin,Ae (x:=(j:Int)+1) (by omega)];rw[aa (by omega)];unfold eI at hpos;unfold i64 at hz;generalize pcA t.aE j=c at*;have wrap2:∀y:Int,-9223372036854775808-2000000000000000<=y->y<=9223372036854775807+2000000000000000->(wrap .i64 y=y/\ -9223372036854775808<=y/\y<=9223372036854775807)\/(wrap .i64 y=y+18446744073709551616/\y< -9223372036854775808)\/(wrap .i64 y=y-18446744073709551616/\y>9223372036854775807):=by
    intro y y1 y2;have hw:=Zo2 y;unfold i64 at hw;by_cases c1: -9223372036854775808<=y/\y<=9223372036854775807
    ·exact .inl ⟨Ae c1,c1⟩
    ·have:=Qj y;omega
   by_cases c0:c.move=0
   ·have hP: ¬(c.move≠0/\0<=(z-c.s)*c.move/\(z-c.s)*c.move<=c.units):=λg=>g.1 c0;rw[ab (by omega),ab hP];rfl
   ·rw[aa c0];have hm:c.move=1\/c.move= -1:=by omega
    have a1:=wrap2 (z-c.s) (by omega) (by omega);have hw2:wrap .i64 (wrap .i64 (z-c.s)*c.move)=(z-c.s)*c.move\/((wrap .i64 (wrap .i64 (z-c.s)*c.move)<0\/wrap .i64 (wrap .i64 (z-c.s)*c.move)>1000000000000000)/\((z-c.s)*c.move<0\/(z-c.s)*c.move>1000000000000000)):=by
     generalize wrap .i64 (z-c.s)=y at*;have a2:=wrap2 (y*c.move) (by rcases hm with hm|hm<;>rw[hm]<;>omega) (by rcases hm with hm|hm<;>rw[hm]<;>omega);rcases hm with hm|hm<;>rw[hm]at a2⊢<;>omega
    generalize wrap .i64 (wrap .i64 (z-c.s)*c.move)=n at*;by_cases c1:0<=(z-c.s)*c.move/\(z-c.s)*c.move<=c.units
    ·have en:n=(z-c.s)*c.move:=by omega
     have hP:c.move≠0/\0<=(z-c.s)*c.move/\(z-c.s)*c.move<=c.units:=⟨c0,c1⟩;rw[aa hP,en,aa c1.1,aa c1.2,Ae (by omega)]
    ·have hP: ¬(c.move≠0/\0<=(z-c.s)*c.move/\(z-c.s)*c.move<=c.units):=λg=>c1 g.2;rw[ab hP];by_cases c2:0<=n
     ·rw[aa c2,ab (by omega)];rfl
     ·rw[ab c2];rfl
  rw[e];by_cases c:(pcA t.aE j).move≠0/\0<=(z-(pcA t.aE j).s)*(pcA t.aE j).move/\(z-(pcA t.aE j).s)*(pcA t.aE j).move<=(pcA t.aE j).units
  ·rw[aa c]at hst;right;rw[A5 hst (by simp)];unfold wF;rw[aa c]
  ·rw[ab c]at hst;rw[Bn hst];unfold wF;rw[ab c];exact Q7q h hz k (j+1) (by omega)
theorem Zj8 {t:Trk} (h:TQ t) {z:Int} (hz:i64 z):Nm (AW t++[I z])=some [I (Je t z)]:=by
 have he:=Zwt Ll (t.aE.map AB) t.length t.start t.dirs.x t.dirs.y t.dirs.z z;unfold Nm;refine Eq.trans he ?_;unfold Je;rw[ag];by_cases c:z=t.start
 ·rw[aa c,BH (by simp[c])]
 ·rw[ab c,Bw (by simp[c])];rcases Q7q h hz t.aE.length 0 (by omega)with⟨h1,h2⟩|h2
  ·rw[List.drop_zero]at h1;have h2':Ll [I z, .view Ap (t.aE.map AB),I t.aE.length,I 0]=some (2,[]):=h2;generalize Ll=N at*;rw[h1];simp only[h2',go_sem];rfl
  ·rw[List.drop_zero]at h2;have h2':Ll [I z, .view Ap (t.aE.map AB),I t.aE.length,I 0]=some (1,[I (wF z t.aE)]):=h2;generalize Ll=N at*;simp only[h2',go_sem]
end Go.Bm
namespace Go.Bm
theorem Zhq (l:Rw) (h:l.length<=100000):Out (λo=>(wA o 0).length<=l.length) (Rt [.view Aa l]):=by
 show Out _ (Qni (An Qa1) [.view Aa l]);rw[Zbl];refine .bind (p:=λo=>o.1=1/\(wA o.2 0).length<=l.length) ?_ λo g=>by rw[g.1];exact .some g.2
 refine Cb (λs:Rw×Nat=>[.view Aa s.1, .view Aa l,I (s.2:Int)]) (λs=>1<=s.2/\s.2<=l.length+1/\s.1.length+1<=s.2) (λs=>l.length+1-s.2) _ ?_ ([],1) (by simp);rintro⟨v,i⟩ ⟨g1,g2,g3⟩;dsimp only at*;rw[Zdh];rw[Ae (x:=(i:Int)-1) (by omega),Ae (x:=(i:Int)+1) (by omega)];refine .cond (λc=> ?_) (λc=> ?_)
 ·have c:=A6 c;refine .cond (λ_=> ?_) λc=>by simp at c;omega
  refine .cond (λ_=> ?_) λc=>by simp at c;omega
  refine .cond (λ_=> ?_) λc=>by rw[CK (by simp;omega)]at c;cases c
  exact .some (.inl ⟨rfl,(_,i+1),rfl,by simp;omega,by simp;omega⟩)
 ·have c:=A2 c;exact .some (.inr ⟨by simp,rfl,by show v.length<=l.length;omega⟩)
theorem Zjm (l:Rw) (n:Int) (h:l.length<=100000):(Rq [.view Aa l,I n]).isSome=true:=by
 show(Qqo (An YW) [.view Aa l,I n]).isSome=true;rw[Ziv];refine Out.is (p:=λ_=>True) ?_;refine .bind (p:=λo=>o.1=1\/o.1=2) ?_ λo g=>by rcases g with g|g<;>rw[g]<;>exact .some trivial
 refine Cb (λs:Nat=>[I n, .view Aa l,I (l.length:Int),I (s:Int)]) (λs=>s<=l.length) (λs=>l.length-s) _ ?_ 0 (by simp);intro i g;rw[Z3j];rw[Ae (x:=(i:Int)+1) (by omega)];refine .cond (λc=> ?_) (λc=> ?_)
 ·have c:=A6 c;refine .cond (λ_=> ?_) λc=>by simp at c;omega
  refine .cond (λ_=> .some (.inr ⟨by simp, .inl rfl⟩)) λ_=> .cond (λ_=> .some (.inr ⟨by simp, .inl rfl⟩)) λ_=> ?_;exact .some (.inl ⟨rfl,i+1,rfl,by omega,by omega⟩)
 ·exact .some (.inr ⟨by simp, .inr rfl⟩)
theorem Zn4 {MB MD:Fn} (hD:∀l:Rw,l.length<=100000->Out (λo=>(wA o 0).length<=l.length) (MD [.view Aa l])) (hB:∀(l:Rw) n,l.length<=100000->(MB [.view Aa l,I n]).isSome=true)
  (x0 x1 x2 x3 x4 x5 x6 x7 x8:Int) (x9 l:Rw) (h:l.length<=100000):(Wa MB MD [I x0,I x1,I x2,I x3,I x4,I x5,I x6,I x7,I x8, .view Aa x9, .view Aa l]).isSome=true:=by
 rw[Zfe];obtain⟨a,ha,ga⟩:=hD l h;rw[ha];simp only[af];generalize wA a 0=la at*;obtain⟨b,hb,gb⟩:=hD la (by omega);rw[hb];simp only[af];generalize wA b 0=lb at*;obtain⟨c,hc,gc⟩:=hD lb (by omega);rw[hc];simp only[af];generalize wA c 0=lc at*;refine Fm (hB _ _ (by omega)) λ_ _=>B2 (λ_=>rfl) λ_=>Fm (hB _ _ (by omega)) λ_ _=>B2 (λ_=>rfl) λ_=>Fm (hB _ _ (by omega)) λ_ _=>B2 (λ_=>rfl) λ_=>rfl
theorem Zk1 (x0 x1 x2 x3 x4 x5 x6 x7 x8:Int) (x9 l:Rw) (h:l.length<=100000):(L1 [I x0,I x1,I x2,I x3,I x4,I x5,I x6,I x7,I x8, .view Aa x9, .view Aa l]).isSome=true:=Zn4 Zhq Zjm x0 x1 x2 x3 x4 x5 x6 x7 x8 x9 l h
theorem Zol {M:Fn} {x:Ax3} {k:Int} (hk:0<=k/\k<=2) {l out:Rw} (h0:out.length=l.length) (h1:l.length<=100000):
  Out (λo=>o.1=1/\∃v:Rw,o.2= .view Aa v:: .view kPt l::I k::I k::AK x/\v.length=l.length) (An (K9 M) (.view Aa out:: .view kPt l::I k::I k::I (l.length:Int)::I 0::AK x)):=by
 refine Cb (λs:Rw×Nat=> .view Aa s.1:: .view kPt l::I k::I k::I (l.length:Int)::I (s.2:Int)::AK x) (λs=>s.1.length=l.length/\s.2<=l.length) (λs=>l.length-s.2) _ ?_ (out,0) ⟨h0,by simp⟩;rintro⟨v,i⟩ ⟨g1,g2⟩;dsimp only at*;rw[Ztn];rw[Ae (x:=(i:Int)+1) (by omega)];refine .cond (λc=> ?_) (λc=> ?_)
 ·have c:=A6 c;refine .cond (λ_=> ?_) λc=>by simp at c;omega
  refine .cond (λ_=> ?_) λc0=> .cond (λ_=> ?_) λc1=> .cond (λ_=> ?_) λc2=> ?_
  ·refine .cond (λ_=> ?_) λc=>by simp at c;omega
   exact .some (.inl ⟨rfl,(_,i+1),rfl,by simp;omega,by simp;omega⟩)
  ·refine .cond (λ_=> ?_) λc=>by simp at c;omega
   exact .some (.inl ⟨rfl,(_,i+1),rfl,by simp;omega,by simp;omega⟩)
  ·refine .cond (λ_=> ?_) λc=>by simp at c;omega
   exact .some (.inl ⟨rfl,(_,i+1),rfl,by simp;omega,by simp;omega⟩)
  ·have c0:=A2 c0;have c1:=A2 c1;have c2:=A2 c2
   simp at c0 c1 c2;omega
 ·exact .some (.inr ⟨by simp,rfl,v,rfl,g1⟩)
theorem Zhw {M:Fn} (hM:∀(x0 x1 x2 x3 x4 x5 x6 x7 x8:Int) (x9 l:Rw),l.length<=100000->(M [I x0,I x1,I x2,I x3,I x4,I x5,I x6,I x7,I x8, .view Aa x9, .view Aa l]).isSome=true) (x:Ax3) {l:Rw} (h1:l.length<=100000):
  (Sn M (An (K9 M)) (An (SA M (An (K9 M)))) (AK x++[.view kPt l])).isSome=true:=by
 show(Sn M (An (K9 M)) (An (SA M (An (K9 M)))) [I x.a.step,I x.a.speed,I x.a.accel,I x.a.jerk,I x.a.low,I x.a.high,I x.a.back,I x.a.origin,I x.a.spacing, .view Aa (x.a.pitch.map As),I x.b.step,I x.b.speed,I x.b.accel,I x.b.jerk,I x.b.low,I x.b.high,I x.b.back,I x.b.origin,I x.b.spacing, .view Aa (x.b.pitch.map As),I x.c.step,I x.c.speed,I x.c.accel,I x.c.jerk,I x.c.low,I x.c.high,I x.c.back,I x.c.origin,I x.c.spacing, .view Aa (x.c.pitch.map As), .view kPt l]).isSome=true;rw[Zdo];refine Out.is (p:=λ_=>True) ?_;refine .bind (p:=λo=>o.1=1\/o.1=2) ?_ λo g=>by rcases g with g|g<;>rw[g]<;>exact .some trivial
 refine Cb (λs:Nat=> .view kPt l::I (s:Int)::AK x) (λs=>s<=3) (λs=>3-s) _ ?_ 0 (by omega);intro k hk;rw[Zrz];refine .cond (λc=> ?_) (λc=> ?_)
 ·have c:=A6 c;refine .cond (λ_=> ?_) λc=>by simp at c
  refine .cond (λ_=> ?_) λc=>by simp at c;omega
  refine .bind (Zol (M:=M) (x:=x) (k:=(k:Int)) (by omega) (by simp) h1) λo g=> ?_;obtain⟨g1,v,g2,g3⟩:=g;obtain⟨o1,o2⟩:=o;subst g1;subst g2;refine .cond (λ_=> ?_) λc=>by simp at c
  have e:wrap .i64 ((k:Int)+1)=((k+1:Nat):Int):=by rw[Ae (by omega)];rfl
  have hw:∀(x0 x1 x2 x3 x4 x5 x6 x7 x8:Int) (x9:Rw),(M [I x0,I x1,I x2,I x3,I x4,I x5,I x6,I x7,I x8, .view Aa x9, .view Aa v]).isSome=true:=λx0 x1 x2 x3 x4 x5 x6 x7 x8 x9=>hM x0 x1 x2 x3 x4 x5 x6 x7 x8 x9 v (by omega);refine .cond (λ_=> ?_) λc0=> .cond (λ_=> ?_) λc1=> .cond (λ_=> ?_) λc2=> ?_
  ·refine .ibind (hw _ _ _ _ _ _ _ _ _ _) λ_ _=> .cond (λ_=> .some (.inr ⟨by simp, .inl rfl⟩)) λ_=> .some (.inl ⟨rfl,k+1,?_,by omega,by omega⟩);simp only[gA,wA,bA,jA,nth,Af,BS,e]
  ·refine .ibind (hw _ _ _ _ _ _ _ _ _ _) λ_ _=> .cond (λ_=> .some (.inr ⟨by simp, .inl rfl⟩)) λ_=> .some (.inl ⟨rfl,k+1,?_,by omega,by omega⟩);simp only[gA,wA,bA,jA,nth,Af,BS,e]
  ·refine .ibind (hw _ _ _ _ _ _ _ _ _ _) λ_ _=> .cond (λ_=> .some (.inr ⟨by simp, .inl rfl⟩)) λ_=> .some (.inl ⟨rfl,k+1,?_,by omega,by omega⟩);simp only[gA,wA,bA,jA,nth,Af,BS,e]
  ·have c0:=A2 c0;have c1:=A2 c1;have c2:=A2 c2
   simp[gA,wA,bA,jA,nth,Af]at c0 c1 c2;omega
 ·exact .some (.inr ⟨by simp, .inr rfl⟩)
theorem Zmj (x:Ax3) {l:Rw} (h1:l.length<=100000):(My (AK x++[.view kPt l])).isSome=true:=Zhw Zk1 x h1
theorem Q01 (u:Int):(IR [I u]).isSome=true:=by
 show(Qdr [I u]).isSome=true;rw[Zhb];exact B2 (λ_=>rfl) λ_=>rfl
structure Fix (p : Pth) (x : Ax3) (t : Trk) : Prop where
 p:GoodPath p
 x:Ax3M x
 t:TH t
theorem Ki {p:Pth} {x:Ax3} {t:Trk} (h:Fix p x t) (u:Int):C8 (pxt p x t [I u])=some (ptR (Bg p x t u)):=Zb5 h.p h.x h.t u
theorem Zih {MA MM MU:Fn} {p:Pth} {x:Ax3} {t:Trk} (hA:∀{l:Rw},l.length<=100000->(MA (AK x++[.view kPt l])).isSome=true) (hM:∀u,(MM (pxt p x t [I u])).isSome=true) (hU:∀u,(MU [I u]).isSome=true) {way:Rw} (hw:way.length<=100000):
  (Qag MA MM MU (An (Qn7 MA MM MU)) (pxt p x t [.view Aa way])).isSome=true:=by
 rw[Zeo];refine Out.is (p:=λ_=>True) ?_;refine .bind (p:=λo=>o.1=1\/o.1=2) ?_ λo g=>by rcases g with g|g<;>rw[g]<;>exact .some trivial
 refine Cb (λs:Rw×Nat=> .view kPt s.1:: .view Aa way::I (way.length:Int)::I (s.2:Int)::pxt p x t []) (λs=>s.1.length<=4/\s.2<=way.length) (λs=>way.length-s.2) _ ?_ ([],0) (by simp);rintro⟨v,i⟩ ⟨g1,g2⟩;dsimp only at g1 g2;rw[Zez];try dsimp only[g_s_planner_smooth_3_1]
 rw[Ae (x:=(i:Int)+1) (by omega)];refine .cond (λc=> ?_) (λc=> ?_)
 ·have c:=A6 c;refine .cond (λ_=> ?_) λc=>by simp at c;omega
  refine .ibind (hU _) λa _=> .ibind (hM _) λb _=> ?_;refine .cond (λ_=> ?_) λc=>by rw[CK (by simp;omega)]at c;cases c
  generalize [jA b 0,jA b 1,jA b 2]=q;refine .cond (λ_=> ?_) λc4=> ?_
  ·refine .cond (λ_=> ?_) λc=>by simp at c;omega
   refine .cond (λ_=> ?_) λc=>by rw[CK (by simp)]at c;cases c
   refine .ibind (hA (l:=List.drop (Int.toNat 1) (v++[q])) (by simp;omega)) λ_ _=> .cond (λ_=> .some (.inr ⟨by simp, .inl rfl⟩)) λ_=> ?_;exact .some (.inl ⟨rfl,(_,i+1),rfl,by simp;omega,by simp;omega⟩)
  ·have c4:=A2 c4;simp at c4;refine .ibind (hA (l:=v++[q]) (by simp;omega)) λ_ _=> .cond (λ_=> .some (.inr ⟨by simp, .inl rfl⟩)) λ_=> ?_;exact .some (.inl ⟨rfl,(_,i+1),rfl,by simp;omega,by simp;omega⟩)
 ·exact .some (.inr ⟨by simp, .inr rfl⟩)
theorem Z0e {p:Pth} {x:Ax3} {t:Trk} (h:Fix p x t) {way:Rw} (hw:way.length<=100000):(PN (pxt p x t [.view Aa way])).isSome=true:=
 Zih (Zmj x) (λu=>by rw[Ki h u];rfl) Q01 hw
theorem Zcl (x0 x1:Int) (b0 b1 b2:Bool) (x5 x6 x7 x8 x9 x10 x11 x12 x13 x14:Int):(PZ [I x0,I x1,B b0,B b1,B b2,I x5,I x6,I x7,I x8,I x9,I x10,I x11,I x12,I x13,I x14]).isSome=true:=by
 show(Ql0 [I x0,I x1,B b0,B b1,B b2,I x5,I x6,I x7,I x8,I x9,I x10,I x11,I x12,I x13,I x14]).isSome=true;rw[Ztb]
 repeat' first|exact rfl|refine B2 (λ_=> ?_) (λ_=> ?_)
theorem Qjb {p:Pth} {x:Ax3} {t:Trk} (h:Fix p x t) (u:Int):i64 (A_ t u):=by
 have:=Q7x h.t.q u;unfold i64;omega
theorem Qhw:∀(l:List Sgm) (s:Int),l≠[]->(Bp l s).1<l.length
 |[],_,h=>absurd rfl h
 |[g],s,_=>by unfold Bp;split<;>simp
 |g::h::l,s,_=>by
  by_cases c:s<g.len
  ·rw[Bp,aa c];simp
  ·rw[Qzo c];have:=Qhw (h::l) (s-g.len) (by simp);simp at this⊢;omega
theorem Zyc {p:Pth} {x:Ax3} {t:Trk} (h:Fix p x t) {s:Int} (hs:i64 s):∃i v:Int,EK (Bj p++[I s])=some [I i,I v]/\(i= -1\/0<=i/\i<p.aF.length)/\(p.aF≠[]->0<=i):=by
 rw[Qpb (h.p.ok) hs];by_cases c:p.aF=[]
 ·rw[aa c];exact⟨-1,0,rfl, .inl rfl,λh=>absurd c h⟩
 ·rw[ab c];have:=Qhw p.aF (max s 0) c;exact⟨_,_,rfl, .inr ⟨by omega,by omega⟩,λ_=>by omega⟩
theorem Z1j {MO MF MP MU:Fn} {p:Pth} {t:Trk} (hO:∀(x0 x1:Int) (b0 b1 b2:Bool) (x5 x6 x7 x8 x9 x10 x11 x12 x13 x14:Int),(MO [I x0,I x1,B b0,B b1,B b2,I x5,I x6,I x7,I x8,I x9,I x10,I x11,I x12,I x13,I x14]).isSome=true)
  (hF:∀s,i64 s->∃i v:Int,MF (Bj p++[I s])=some [I i,I v]/\(i= -1\/0<=i/\i<p.aF.length)/\(p.aF≠[]->0<=i)) (hP:∀u,∃s,MP (AW t++[I u])=some [I s]/\i64 s) (hU:∀u,(MU [I u]).isSome=true) (hne:p.aF≠[])
  (a b c o0 o1:Int) (b0 b1 b2:Bool) (u:Int):
  (ZF MO MF MP MU (EW p t [I a,I b,I c,I o0,I o1,B b0,B b1,B b2,I u])).isSome=true:=by
 rw[Z4i];refine Fm (hU _) λq _=> ?_;obtain⟨s,h1,h2⟩:=hP (gA q 0);rw[h1];simp only[af];obtain⟨i,v,g1,g2,g3⟩:=hF s h2;simp only[gA,wA,bA,jA,nth,Af];rw[g1];simp only[af,gA,wA,bA,jA,nth,Af];have g3:=g3 hne;refine B2 (λ_=>Fm (hO _ _ _ _ _ _ _ _ _ _ _ _ _ _ _) λ_ _=>rfl) λc=> ?_;simp at c;have:=c (al g3);omega
theorem Zy2 {p:Pth} {x:Ax3} {t:Trk} (h:Fix p x t) (hne:p.aF≠[]) (a b c o0 o1:Int) (b0 b1 b2:Bool) (u:Int):
  (NJ (EW p t [I a,I b,I c,I o0,I o1,B b0,B b1,B b2,I u])).isSome=true:=
 Z1j Zcl (λ_ hs=>Zyc h hs) (λu=>⟨_,Rx h.t.q u,Qjb h u⟩) Q01 hne a b c o0 o1 b0 b1 b2 u
theorem Z5f {MT MF:Fn} {p:Pth} {t:Trk} {a b c o0 o1:Int} {b0 b1 b2:Bool} (hT:p.aF≠[]->∀u,(MT (EW p t [I a,I b,I c,I o0,I o1,B b0,B b1,B b2,I u])).isSome=true)
  (hF:∀a b c x3 x4 x5 x6 x7 x8,Out (λo=>(wA o 0).length<=4096) (MF [I a,I b,I c,I x3,I x4,I x5,I x6,I x7,I x8])) (m0 m1 m2 m3 m4 m5:Int):
  (X3 MT MF (An (Wr MT MF)) (EW p t [I a,I b,I c,I o0,I o1,B b0,B b1,B b2,I m0,I m1,I m2,I m3,I m4,I m5])).isSome=true:=by
 rw[Zu3];obtain⟨o,h1,h2⟩:=hF a b c m0 m1 m2 m3 m4 m5;rw[h1];simp only[af];generalize wA o 0=sp at*;refine B2 (λ_=>rfl) λ_=>B2 (λ_=>rfl) λc0=> ?_;have hne:p.aF≠[]:=by
  intro e;rw[e]at c0;simp at c0
 have hT:=hT hne;refine Fm (hT _) λ_ _=>B2 (λ_=>rfl) λ_=> ?_;refine Out.is (p:=λ_=>True) ?_;refine .bind (p:=λo=>o.1=1\/o.1=2) ?_ λo g=>by rcases g with g|g<;>rw[g]<;>exact .some trivial
 refine Cb (λs:Int×Nat=>I s.1:: .view Aa sp::I (sp.length:Int)::I (s.2:Int)::EW p t [I a,I b,I c,I o0,I o1,B b0,B b1,B b2]) (λs=>s.2<=sp.length) (λs=>sp.length-s.2) _ ?_ (m0,0) (by simp);rintro⟨v,i⟩ g;dsimp only at g;rw[Zzc];rw[Ae (x:=(i:Int)+1) (by omega)];refine .cond (λc=> ?_) (λc=> ?_)
 ·have c:=A6 c;refine .cond (λ_=> ?_) λc=>by simp at c;omega
  refine .ibind (hT _) λ_ _=> .cond (λ_=> .some (.inr ⟨by simp, .inl rfl⟩)) λ_=> ?_;exact .some (.inl ⟨rfl,(_,i+1),rfl,by dsimp only;omega,by dsimp only;omega⟩)
 ·exact .some (.inr ⟨by simp, .inr rfl⟩)
theorem Zw7 {p:Pth} {x:Ax3} {t:Trk} (h:Fix p x t) (a b c o0 o1:Int) (b0 b1 b2:Bool) (m0 m1 m2 m3 m4 m5:Int):
  (Me (EW p t [I a,I b,I c,I o0,I o1,B b0,B b1,B b2,I m0,I m1,I m2,I m3,I m4,I m5])).isSome=true:=
 Z5f (λhne u=>Zy2 h hne a b c o0 o1 b0 b1 b2 u) Z1 m0 m1 m2 m3 m4 m5
theorem Zqr {a b v u q r:Nat} (hU:v<a*4294967296+b) (hu:u<4294967296) (hq:v=q*a+r) (h:4294967296<=q\/r*4294967296+u<q*b):(v*4294967296+u)/(a*4294967296+b)<q:=by
 have hy:0<a*4294967296+b:=by omega
 rw[Nat.div_lt_iff_lt_mul hy];rcases h with h|h
 ·have h1:4294967296*(a*4294967296+b)<=q*(a*4294967296+b):=be _ h;omega
 ·have e:q*(a*4294967296+b)=q*a*4294967296+q*b:=by rw[Nat.mul_add,Nat.mul_assoc]
  rw[e];clear e;generalize q*a=p at*;generalize q*b=t at*;subst hq;rw[Nat.add_mul p r 4294967296,Nat.add_assoc];exact Nat.add_lt_add_left h _
theorem Qtq {a b v u q r:Nat} (hU:v<a*4294967296+b) (hq:v=q*a+r) (h:q*b<=r*4294967296+u):q<=(v*4294967296+u)/(a*4294967296+b):=by
 have hy:0<a*4294967296+b:=by omega
 rw[Nat.le_div_iff_mul_le hy];have e:q*(a*4294967296+b)=q*a*4294967296+q*b:=by rw[Nat.mul_add,Nat.mul_assoc]
 rw[e];generalize q*a=p at*;generalize q*b=t at*;omega
theorem Qyk {a b v u:Nat} (hU:v<a*4294967296+b) (hu:u<4294967296):(v*4294967296+u)/(a*4294967296+b)<4294967296:=by
 rw[Nat.div_lt_iff_lt_mul (by omega)];omega
theorem Q12 {q b:Nat} (hq:q<4294967296) (hb:b<4294967296):q*b<=18446744065119617025:=by
 have:=dl (show q<=4294967295 by omega) (show b<=4294967295 by omega);omega
theorem Qlm {α:Type} {F G:Nat->Nat->Option α} {a b v u Q:Nat} (hQ:(v*4294967296+u)/(a*4294967296+b)=Q) (hb:b<4294967296) (ha:2147483648<=a) (ha2:a<4294967296) (hU:v<a*4294967296+b) (hu:u<4294967296) {X:α}
  (hF:∀q r:Nat,q<=4294967297->r<4294967296->F q r=if 4294967296<=q\/r*4294967296+u<q*b then(if 4294967296<=r+a then G (q-1) 0 else F (q-1) (r+a))else G q 0)
  (hG:G Q 0=some X):∀(k q r:Nat),q<=Q+k->Q<=q->v=q*a+r->r<4294967296->q<=4294967297->F q r=some X
 |k,q,r,hk,h1,h2,h3,h4=>by
  rw[hF q r h4 h3];by_cases c:4294967296<=q\/r*4294967296+u<q*b
  ·rw[aa c];have h5:=Zqr hU hu h2 c;rw[hQ]at h5;have e:v=(q-1)*a+(r+a):=by
    have:(q-1)*a+a=q*a:=by rw[<-Nat.succ_mul];congr 1;omega
    omega
   by_cases c2:4294967296<=r+a
   ·rw[aa c2];have h6:(q-1)*b<=(r+a)*4294967296+u:=by
     have:=dl (show q-1<=4294967296 by omega) (show b<=4294967296 by omega);omega
    have h7:=Qtq hU e h6;rw[hQ]at h7;rw[show q-1=Q by omega];exact hG
   ·rw[ab c2]
    match k with
    |0=>omega
    |k+1=>exact Qlm hQ hb ha ha2 hU hu hF hG k (q-1) (r+a) (by omega) (by omega) e (by omega) (by omega)
  ·rw[ab c];have h7:=Qtq (u:=u) hU h2 (by omega);rw[hQ]at h7;rw[show q=Q by omega];exact hG
theorem Q4q {a b v u:Nat} (hb:b<4294967296) (ha:2147483648<=a) (hU:v<a*4294967296+b) (hu:u<4294967296):(v*4294967296+u)/(a*4294967296+b)<=v/a/\v/a<=4294967297/\v=v/a*a+v%a/\v%a<a:=by
 have e:v=v/a*a+v%a:=by have:=Nat.div_add_mod v a;rw[Nat.mul_comm]at this;omega
 have hm:v%a<a:=Nat.mod_lt _ (by omega);refine⟨?_,?_,e,hm⟩
 ·rw[<-Nat.lt_succ_iff,Nat.div_lt_iff_lt_mul (by omega)];have e2:(v/a).succ*(a*4294967296+b)=(v/a*a+a)*4294967296+(v/a).succ*b:=by rw[Nat.mul_add,<-Nat.mul_assoc,Nat.succ_mul]
  rw[e2];omega
 ·rw[<-Nat.lt_succ_iff,Nat.div_lt_iff_lt_mul (by omega)];omega
theorem wr {x:Nat} (h:x<=18446744073709551615):wrap .u64 (x:Int)=x:=HW (by omega)
theorem Ztg {M:Fn} {y s v0:Int} {a b v u:Nat} (hb:b<4294967296) (ha:2147483648<=a) (ha2:a<4294967296) (hU:v<a*4294967296+b) (hu:u<4294967296):
  An (LK M) [U y,U s,U a,U b,U v,U u,U v0,U ((v/a:Nat):Int),U ((v%a:Nat):Int)]=some (1,[U y,U s,U a,U b,U v,U u,U v0,U (((v*4294967296+u)/(a*4294967296+b):Nat):Int)]):=by
 obtain⟨f1,f2,f3,f4⟩:=Q4q hb ha hU hu;refine Qlm (F:=λq r=>An (LK M) [U y,U s,U a,U b,U v,U u,U v0,U q,U r]) (G:=λq _=>some (1,[U y,U s,U a,U b,U v,U u,U v0,U q])) rfl hb ha ha2 hU hu ?_ rfl (v/a) _ _ (Nat.le_add_left _ _) f1 f3 (by omega) f2;intro q r hq hr;have w1:wrap .u64 ((r:Int)+(a:Int))=((r+a:Nat):Int):=by rw[<-Int.natCast_add,wr (by omega)]
 have w3:wrap .u64 (wrap .u64 (4294967296*(r:Int))+(u:Int))=((r*4294967296+u:Nat):Int):=by rw[show(4294967296:Int)*r=((r*4294967296:Nat):Int) by omega,wr (by omega),<-Int.natCast_add,wr (by omega)]
 have w4:4294967296<=q->wrap .u64 ((q:Int)-1)=((q-1:Nat):Int):=λh=>by rw[show(q:Int)-1=((q-1:Nat):Int) by omega,wr (by omega)]
 have hst:=Zy6 (DT:=M) y s a b v u v0 q r;rw[w1,w3]at hst;by_cases c1:4294967296<=q
 ·rw[DV (show(q:Int)>=4294967296 by omega),w4 c1]at hst;show _=if _ then _ else _;rw[aa (.inl c1)];by_cases c2:4294967296<=r+a
  ·rw[DV (show((r+a:Nat):Int)>=4294967296 by omega)]at hst;rw[aa c2];exact A5 hst (by simp)
  ·rw[A7 (show¬((r+a:Nat):Int)>=4294967296 by omega)]at hst;rw[ab c2];exact Bn hst
 ·have hqb:=Q12 (q:=q) (b:=b) (by omega) hb;rw[A7 (show¬(q:Int)>=4294967296 by omega),<-Int.natCast_mul,wr (bv hqb (by decide))]at hst;show _=if _ then _ else _;by_cases c3:r*4294967296+u<q*b
  ·rw[DV (show((q*b:Nat):Int)>((r*4294967296+u:Nat):Int) by omega)]at hst;rw[aa (.inr c3)];have hq0:0<q:=by
    rcases Nat.eq_zero_or_pos q with h|h
    ·rw[h]at c3;omega
    ·exact h
   rw[show(q:Int)-1=((q-1:Nat):Int) by omega,wr (by omega)]at hst;by_cases c2:4294967296<=r+a
   ·rw[DV (show((r+a:Nat):Int)>=4294967296 by omega)]at hst;rw[aa c2];exact A5 hst (by simp)
   ·rw[A7 (show¬((r+a:Nat):Int)>=4294967296 by omega)]at hst;rw[ab c2];exact Bn hst
  ·rw[A7 (show¬((q*b:Nat):Int)>((r*4294967296+u:Nat):Int) by omega)]at hst;rw[ab (λh=>h.elim c1 c3)];exact A5 hst (by simp)
theorem Zwn {M:Fn} {N:Lp} {y s q1 w:Int} {a b v u:Nat} (hb:b<4294967296) (ha:2147483648<=a) (ha2:a<4294967296) (hU:v<a*4294967296+b) (hu:u<4294967296):
  An (P1 M N) [U y,U s,U a,U b,U u,U q1,U ((v%a:Nat):Int),U w,U ((v/a:Nat):Int)]=some (1,[U y,U s,U u,U q1,U w,U (((v*4294967296+u)/(a*4294967296+b):Nat):Int)]):=by
 obtain⟨f1,f2,f3,f4⟩:=Q4q hb ha hU hu;refine Qlm (F:=λq r=>An (P1 M N) [U y,U s,U a,U b,U u,U q1,U r,U w,U q]) (G:=λq _=>some (1,[U y,U s,U u,U q1,U w,U q])) rfl hb ha ha2 hU hu ?_ rfl (v/a) _ _ (Nat.le_add_left _ _) f1 f3 (by omega) f2;intro q r hq hr;have w1:wrap .u64 ((r:Int)+(a:Int))=((r+a:Nat):Int):=by rw[<-Int.natCast_add,wr (by omega)]
 have w3:wrap .u64 (wrap .u64 (4294967296*(r:Int))+(u:Int))=((r*4294967296+u:Nat):Int):=by rw[show(4294967296:Int)*r=((r*4294967296:Nat):Int) by omega,wr (by omega),<-Int.natCast_add,wr (by omega)]
 have w4:4294967296<=q->wrap .u64 ((q:Int)-1)=((q-1:Nat):Int):=λh=>by rw[show(q:Int)-1=((q-1:Nat):Int) by omega,wr (by omega)]
 have hst:=Zfw (DT:=M) (N17:=N) y s a b u q1 r w q;rw[w1,w3]at hst;by_cases c1:4294967296<=q
 ·rw[DV (show(q:Int)>=4294967296 by omega),w4 c1]at hst;show _=if _ then _ else _;rw[aa (.inl c1)];by_cases c2:4294967296<=r+a
  ·rw[DV (show((r+a:Nat):Int)>=4294967296 by omega)]at hst;rw[aa c2];exact A5 hst (by simp)
  ·rw[A7 (show¬((r+a:Nat):Int)>=4294967296 by omega)]at hst;rw[ab c2];exact Bn hst
 ·have hqb:=Q12 (q:=q) (b:=b) (by omega) hb;rw[A7 (show¬(q:Int)>=4294967296 by omega),<-Int.natCast_mul,wr (bv hqb (by decide))]at hst;show _=if _ then _ else _;by_cases c3:r*4294967296+u<q*b
  ·rw[DV (show((q*b:Nat):Int)>((r*4294967296+u:Nat):Int) by omega)]at hst;rw[aa (.inr c3)];have hq0:0<q:=by
    rcases Nat.eq_zero_or_pos q with h|h
    ·rw[h]at c3;omega
    ·exact h
   rw[show(q:Int)-1=((q-1:Nat):Int) by omega,wr (by omega)]at hst;by_cases c2:4294967296<=r+a
   ·rw[DV (show((r+a:Nat):Int)>=4294967296 by omega)]at hst;rw[aa c2];exact A5 hst (by simp)
   ·rw[A7 (show¬((r+a:Nat):Int)>=4294967296 by omega)]at hst;rw[ab c2];exact Bn hst
  ·rw[A7 (show¬((q*b:Nat):Int)>((r*4294967296+u:Nat):Int) by omega)]at hst;rw[ab (λh=>h.elim c1 c3)];exact A5 hst (by simp)
theorem Q77 {s:Nat} (hs:s<=63):(2:Int)^min (Int.toNat (s:Int)) IntKind.u64.bits=((2^s:Nat):Int):=by
 have e:min (Int.toNat (s:Int)) IntKind.u64.bits=s:=by
  show min (Int.toNat (s:Int)) 64=s;omega
 rw[e];simp
theorem Zs8 {s:Nat} (hs:s<=63):(2:Int)^min (Int.toNat ((64-s:Nat):Int)) IntKind.u64.bits=((2^(64-s):Nat):Int):=by
 have e:min (Int.toNat ((64-s:Nat):Int)) IntKind.u64.bits=64-s:=by
  show min (Int.toNat ((64-s:Nat):Int)) 64=64-s;omega
 rw[e];simp
theorem Q6i (x y:Nat):((x:Int)).fdiv (y:Int)=((x/y:Nat):Int):=by
 rw[Int.fdiv_eq_ediv_of_nonneg _ (by omega)];rfl
theorem Qat (x y:Nat):((x:Int)).tdiv (y:Int)=((x/y:Nat):Int):=by
 rw[bc (by omega)];rfl
theorem orP {A B s:Nat} (hB:B<2^s) (h:A*2^s+B<w64):wrap .u64 (((BitVec.ofInt IntKind.u64.bits ((A*2^s:Nat):Int)|||BitVec.ofInt IntKind.u64.bits (B:Int)).toNat:Nat):Int)=((A*2^s+B:Nat):Int):=by
 rw[BN]at h;have e:(BitVec.ofInt IntKind.u64.bits ((A*2^s:Nat):Int)|||BitVec.ofInt IntKind.u64.bits (B:Int)).toNat=A*2^s+B:=by
  rw[BitVec.toNat_or];have e1:∀v:Nat,v<18446744073709551616->(BitVec.ofInt IntKind.u64.bits (v:Int)).toNat=v:=by
   intro v hv;simp only[IntKind.bits,BitVec.toNat_ofInt];omega
  have:=(Nat.two_pow_add_eq_or_of_lt hB A).symm;rw[Nat.mul_comm]at this;generalize A*2^s=X at*;rw[e1 _ (by omega),e1 _ (by omega)];exact this
 rw[e,wr (by omega)]
theorem Qw7 {v u q1 y:Nat} (hy:y<w64) (hq:q1=(v*4294967296+u)/y) (hy0:0<y):wrap .u64 (wrap .u64 (wrap .u64 ((v:Int)*4294967296)+(u:Int))-wrap .u64 ((q1:Int)*(y:Int)))=(((v*4294967296+u)%y:Nat):Int):=by
 have h1:=Nat.div_add_mod (v*4294967296+u) y;have h2:=Nat.mod_lt (v*4294967296+u) hy0;rw[<-hq,Nat.mul_comm]at h1;rw[BN]at hy;rw[Mx,Mx,Mx,Mx,<-Int.natCast_mul];generalize q1*y=p at*;generalize(v*4294967296+u)%y=r at*;omega
theorem Quc {v a:Nat} (ha:0<a) (hv:v<w64):wrap .u64 ((v:Int)-wrap .u64 (wrap .u64 ((v/a:Nat):Int)*(a:Int)))=((v%a:Nat):Int):=by
 have h1:=Nat.div_add_mod v a;have h2:=Nat.mod_lt v ha;have h3:=Nat.div_le_self v a;rw[BN]at hv;rw[wr (x:=v/a) (by omega),<-Int.natCast_mul];rw[Nat.mul_comm]at h1;generalize v/a*a=p at*;generalize v%a=r at*;rw[wr (x:=p) (by omega),show(v:Int)-(p:Int)=(r:Int) by omega,wr (by omega)]
theorem Zv3 {v u1 u0 Y:Nat} (hY:0<Y):(v*w64+(u1*4294967296+u0))/Y=(v*4294967296+u1)/Y*4294967296+((v*4294967296+u1)%Y*4294967296+u0)/Y/\
  (v*w64+(u1*4294967296+u0))%Y=((v*4294967296+u1)%Y*4294967296+u0)%Y:=by
 have e:v*w64+(u1*4294967296+u0)=((v*4294967296+u1)%Y*4294967296+u0)+(v*4294967296+u1)/Y*4294967296*Y:=by
  have h:=Nat.div_add_mod (v*4294967296+u1) Y;rw[Nat.mul_comm]at h;rw[BN];generalize(v*4294967296+u1)%Y=r at*;have e2:(v*4294967296+u1)/Y*4294967296*Y=(v*4294967296+u1)/Y*Y*4294967296:=by rw[Nat.mul_assoc,Nat.mul_comm 4294967296,<-Nat.mul_assoc]
  rw[e2];generalize(v*4294967296+u1)/Y*Y=p at*;omega
 rw[e,Nat.add_mul_div_right _ _ hY,Nat.add_mul_mod_self_right];exact⟨Nat.add_comm _ _,rfl⟩
theorem Zpy {M:Fn} {hi lo y s:Nat} (h0:0<hi) (h1:hi<y) (hyw:y<w64) (hlo:lo<w64) (hs:s<=63) (h2:9223372036854775808<=y*2^s) (h3:y*2^s<w64) (hM:M [U y]=some [I s]):
  Qog M (An (LK M)) (An (P1 M (An (LK M)))) [U hi,U lo,U y]=some [U (((hi*w64+lo)/y:Nat):Int),U (((hi*w64+lo)%y:Nat):Int)]:=by
 have hP:0<2^s:=Nat.two_pow_pos _;have hPT:2^s*2^(64-s)=w64:=by rw[BN,<-Nat.pow_add,show s+(64-s)=64 by omega]
 have hT:0<2^(64-s):=Nat.two_pow_pos _;have es:wrap .u64 (s:Int)=s:=wr (by omega);have et:wrap .u64 (64-(s:Int))=((64-s:Nat):Int):=by rw[show(64:Int)-s=((64-s:Nat):Int) by omega,wr (by omega)]
 have hB:lo/2^(64-s)<2^s:=by rw[Nat.div_lt_iff_lt_mul hT,hPT];exact hlo
 have hv:hi*2^s+lo/2^(64-s)<y*2^s:=by
  have:hi*2^s+2^s<=y*2^s:=by rw[<-Nat.succ_mul];exact be _ h1
  omega
 have hN:(hi*w64+lo)*2^s=(hi*2^s+lo/2^(64-s))*w64+lo*2^s%w64:=by
  have e1:lo*2^s/w64=lo/2^(64-s):=by
   rw[<-hPT,Nat.mul_comm lo,Nat.mul_div_mul_left _ _ hP]
  have e2:=Nat.div_add_mod (lo*2^s) w64;rw[e1]at e2;rw[Nat.add_mul,Nat.add_mul,Nat.add_assoc,Nat.mul_comm (lo/2^(64-s)),e2];congr 1;rw[Nat.mul_assoc,Nat.mul_comm w64,Nat.mul_assoc]
 have hU:lo*2^s%w64<w64:=Nat.mod_lt _ Qn;have ey:wrap .u64 ((y:Int)*((2^s:Nat):Int))=((y*2^s:Nat):Int):=by rw[<-Int.natCast_mul,wr (Nat.le_of_lt_succ (by rw[BN]at h3;exact h3))]
 have eh:wrap .u64 ((hi:Int)*((2^s:Nat):Int))=((hi*2^s:Nat):Int):=by
  rw[<-Int.natCast_mul,wr (Nat.le_of_lt_succ (by have:=Nat.mul_lt_mul_of_pos_right h1 hP;rw[BN]at h3;exact Nat.lt_trans this h3))]
 have el:wrap .u64 ((lo:Int)*((2^s:Nat):Int))=((lo*2^s%w64:Nat):Int):=by
  rw[<-Int.natCast_mul,Mx,BN];rfl
 have eo:=orP (A:=hi) (B:=lo/2^(64-s)) (s:=s) hB (by omega);have hq:(hi*w64+lo)/y=(hi*w64+lo)*2^s/(y*2^s):=(Nat.mul_div_mul_right _ _ hP).symm;have hr:(hi*w64+lo)%y=(hi*w64+lo)*2^s%(y*2^s)/2^s:=by rw[Nat.mul_mod_mul_right,Nat.mul_div_cancel _ hP]
 rw[hq,hr,hN];rw[Q3s];simp only[hM,af,H3,K1,L_,PC,PV,S3,Qay,Qd9,HA,gA,jA,wA,bA,es,et,Q77 hs,Zs8 hs,ey,eh,el,Q6i,eo];rw[Bw (by simp;omega),A7 (show¬(y:Int)<=hi by omega),Bw (by simp;omega),A7 (show¬(s:Int)<0 by omega),A7 (show¬(s:Int)<0 by omega),A7 (show¬((64-s:Nat):Int)<0 by omega),A7 (show¬(s:Int)<0 by omega)];rw[Q9e,Qq1 _ h3,Q9e,Qq1 _ hU];have hY:y*2^s=y*2^s/4294967296*4294967296+y*2^s%4294967296:=by omega
 have hW:lo*2^s%w64=lo*2^s%w64/4294967296*4294967296+lo*2^s%w64%4294967296:=by omega
 have hb:y*2^s%4294967296<4294967296:=Nat.mod_lt _ (by omega);have hu0:lo*2^s%w64%4294967296<4294967296:=Nat.mod_lt _ (by omega);have hu1:lo*2^s%w64/4294967296<4294967296:=by rw[BN]at hU⊢;omega
 have ha:2147483648<=y*2^s/4294967296:=by omega
 have ha2:y*2^s/4294967296<4294967296:=by rw[BN]at h3;omega
 clear hN hq hr eh el eo ey hB;generalize hi*2^s+lo/2^(64-s)=v at*;generalize lo*2^s%w64=w at*;generalize y*2^s=Y at*;generalize w/4294967296=u1 at*;generalize w%4294967296=u0 at*;generalize Y/4294967296=a at*;generalize Y%4294967296=b at*;subst hW;rw[A7 (show¬(a:Int)=0 by omega),Qat,Quc (by omega) (Nat.lt_trans hv h3),wr (x:=v/a) (by have:=Nat.div_le_self v a;rw[BN]at h3;omega)];have hl:=Ztg (M:=M) (y:=(Y:Int)) (s:=s) (v0:=u0) hb ha ha2 (by rw[<-hY];exact hv) hu1;rw[hl];rw[<-hY];have hY0:0<Y:=by omega
 have hr1:=Qw7 (v:=v) (u:=u1) (y:=Y) h3 rfl hY0;have hq1:(v*4294967296+u1)/Y<4294967296:=by rw[hY];exact Qyk (by rw[<-hY];exact hv) hu1
 have hm1:=Nat.mod_lt (v*4294967296+u1) hY0;obtain⟨k1,k2⟩:=Zv3 (v:=v) (u1:=u1) (u0:=u0) hY0;rw[k1,k2];clear hl k1 k2;obtain⟨q1,g1⟩:∃q1,(v*4294967296+u1)/Y=q1:=⟨_,rfl⟩;obtain⟨r1,g2⟩:∃r1,(v*4294967296+u1)%Y=r1:=⟨_,rfl⟩;rw[g1]at hr1 hq1⊢;rw[g2]at hr1 hm1⊢;simp only[af,H3,K1,L_,PC,PV,S3,Qay,Qd9,HA,hr1];rw[show Nat.beq 1 1=true from rfl,ah,A7 (show¬(a:Int)=0 by omega),Qat,Quc (by omega) (Nat.lt_trans hm1 h3),wr (x:=r1/a) (by have:=Nat.div_le_self r1 a;rw[BN]at h3;omega)];have hl2:=Zwn (M:=M) (N:=An (LK M)) (y:=(Y:Int)) (s:=s) (q1:=q1) (w:=r1) hb ha ha2 (by rw[<-hY];exact hm1) hu0;rw[hl2];rw[<-hY];have hr0:=Qw7 (v:=r1) (u:=u0) (y:=Y) h3 rfl hY0;have hq0:(r1*4294967296+u0)/Y<4294967296:=by rw[hY];exact Qyk (by rw[<-hY];exact hm1) hu0
 obtain⟨q0,g3⟩:∃q0,(r1*4294967296+u0)/Y=q0:=⟨_,rfl⟩;obtain⟨r0,g4⟩:∃r0,(r1*4294967296+u0)%Y=r0:=⟨_,rfl⟩;rw[g3]at hr0 hq0⊢;rw[g4]at hr0⊢;simp only[af,H3,K1,L_,PC,PV,S3,HA,hr0];rw[show Nat.beq 1 1=true from rfl,ah,A7 (show¬(s:Int)<0 by omega),Q77 hs,Q6i];have w1:wrap .u64 (wrap .u64 ((q1:Int)*4294967296)+(q0:Int))=((q1*4294967296+q0:Nat):Int):=by
  rw[show(q1:Int)*4294967296=((q1*4294967296:Nat):Int) by omega,wr (by omega),<-Int.natCast_add,wr (by omega)]
 rw[w1]
theorem Zt7 {y:Nat} (h0:0<y) (h:y<w64):∃s:Nat,Io [U y]=some [I s]/\s<=63/\9223372036854775808<=y*2^s/\y*2^s<w64:=by
 have hw:=BN;obtain⟨b1,b2,b3⟩:=Lib.bitLenAux_bounds 64 y (by rw[<-show w64=2^64 by rw[hw]];exact h) (by omega);have hL:Lib.bitLen y=Lib.bitLenAux 64 y:=rfl;generalize hb:Lib.bitLenAux 64 y=L at*;have hL64:L<=64:=by
  by_cases c:L<=64
  ·exact c
  ·have:=Nat.pow_le_pow_right (show 0<2 by omega) (show 64<=L-1 by omega);rw[show(2:Nat)^64=18446744073709551616 from rfl]at this;omega
 refine⟨64-L,?_,by omega,?_,?_⟩
 ·unfold Io;have e64:Fqs=18446744073709551616:=rfl;have hu:inU (y:Int)=true:=by
   simp only[inU,e64,aj,bz];omega
  simp only[H3,HA,gA,jA,wA,bA,hu,ah,ak,hL];rw[show(64:Int)-(L:Int)=((64-L:Nat):Int) by omega]
 ·have e:2^(L-1)*2^(64-L)=9223372036854775808:=by rw[<-Nat.pow_add,show L-1+(64-L)=63 by omega]
  rw[<-e];exact be _ b2
 ·have e:2^L*2^(64-L)=w64:=by rw[<-Nat.pow_add,show L+(64-L)=64 by omega,hw]
  rw[<-e];exact Nat.mul_lt_mul_of_pos_right b3 (Nat.two_pow_pos _)
theorem Q1o {hi lo y:Nat} (h1:hi<y) (hy:y<w64) (hlo:lo<w64):GE [U hi,U lo,U y]=some [U (((hi*w64+lo)/y:Nat):Int),U (((hi*w64+lo)%y:Nat):Int)]:=by
 rcases Nat.eq_zero_or_pos hi with h|h
 ·subst h;rw[Nat.zero_mul,Nat.zero_add];exact Q2t hlo h1
 ·obtain⟨s,e,e1,e2,e3⟩:=Zt7 (show 0<y by omega) hy;exact Zpy h h1 hy hlo e1 e2 e3 e
theorem Zxi {M1 M2 M3 M4 M5 M6 M7:Fn} (h1:∀x b,(M1 [U x,B b]).isSome=true) (h2:∀x y b c,(M2 [I x,I y,B b,B c]).isSome=true) (h3:∀x y,(M3 [I x,I y]).isSome=true)
  (h4:∀{hi lo y:Nat},hi<y->y<w64->lo<w64->(M4 [U hi,U lo,U y]).isSome=true) (h5:∀{x y:Nat},x<w64->y<w64->M5 [U x,U y]=some [U ((x*y/w64:Nat):Int),U ((x*y%w64:Nat):Int)])
  (h6:∀{x:Int},i64 x->M6 [I x]=some [U (x.natAbs:Int)]) (h7:∀x,(M7 [I x]).isSome=true) {a b c:Int} (ha:i64 a) (hb:i64 b) (hc:i64 c) (m:Int):
  (Tc M1 M2 M3 M4 M5 M6 M7 [I a,I b,I c,I m]).isSome=true:=by
 have hw:∀{x:Int},i64 x->x.natAbs<w64:=by
  intro x hx;unfold i64 at hx;rw[BN];omega
 rw[Q97,h6 ha,h6 hb,h6 hc];refine B2 (λ_=>rfl) λ_=>Fm (h7 _) λ_ _=>B2 (λ_=>rfl) λ_=> ?_;simp only[af,gA,wA,bA,jA,nth,Af];rw[h5 (hw ha) (hw hb)];simp only[af,gA,wA,bA,jA,nth,Af];refine B2 (λ_=>rfl) λc0=> ?_;have c0:=A2 c0;have hlo:a.natAbs*b.natAbs%w64<w64:=Nat.mod_lt _ (by rw[BN];decide);refine Fm (h4 (by omega) (hw hc) hlo) λ_ _=>Fm (h3 _ _) λ_ _=> ?_
 repeat' first|exact rfl|exact h1 _ _|exact h2 _ _ _ _|exact h3 _ _|refine B2 (λ_=> ?_) (λ_=> ?_)|refine Fm ?_ λ_ _=> ?_
theorem Z4j (x:Int) (b:Bool):(Fc [U x,B b]).isSome=true:=by
 show(Qda [U x,B b]).isSome=true;rw[Qfu]
 repeat' first|exact rfl|refine B2 (λ_=> ?_) (λ_=> ?_)
theorem Zdm (x y:Int) (b c:Bool):(HJ [I x,I y,B b,B c]).isSome=true:=by
 show(Qc5 [I x,I y,B b,B c]).isSome=true;rw[Q1m]
 repeat' first|exact rfl|refine B2 (λ_=> ?_) (λ_=> ?_)
theorem Zm8 (x y:Int):(FB [I x,I y]).isSome=true:=by
 show(Qpt [I x,I y]).isSome=true;rw[Q8y]
 repeat' first|exact rfl|refine B2 (λ_=> ?_) (λ_=> ?_)
theorem Zb2 (x:Int):(FT [I x]).isSome=true:=by
 show(Qj8 [I x]).isSome=true;rw[Qv1]
 repeat' first|exact rfl|refine B2 (λ_=> ?_) (λ_=> ?_)
theorem Qig {a b c:Int} (ha:i64 a) (hb:i64 b) (hc:i64 c) (m:Int):(Bz [I a,I b,I c,I m]).isSome=true:=
 Zxi Z4j Zdm Zm8 (λh1 h2 h3=>by rw[Q1o h1 h2 h3];rfl) (λh1 h2=>Q6c h1 h2) (λh=>Iu h) Zb2 ha hb hc m
theorem S8 (x:Int):i64 (wrap .i64 x):=Zgu x
theorem Q1i {M:Fn} {l:List AC} (h:(M l).isSome=true) {f:List AC->List AC}:((M l).bind λo=>some (f o)).isSome=true:=Fm h λ_ _=>rfl
theorem Zj5 {a b:Int} (ha:i64 a) (hb:i64 b):(QN [I a,I b]).isSome=true:=by
 show(Qf9 Bz [I a,I b]).isSome=true;have h:=Qig ha hb (show i64 4096 by unfold i64;omega) 0;generalize Bz=M at*;rw[Zy1];exact Q1i h
theorem Q4p {a:Int} (ha:i64 a):(E9 [I a]).isSome=true:=by
 show(T4 Bz [I a]).isSome=true;have h:=Qig ha (show i64 1048576 by unfold i64;omega) (show i64 60000 by unfold i64;omega) 2;generalize Bz=M at*;rw[Qxn];exact Q1i h
theorem Zcy (a b:Int):∃v,Q_ [I a,I b]=some [I v]/\i64 v:=by
 refine⟨mx (wrap .i64 (a-b)) (wrap .i64 (b-a)),?_,?_⟩
 ·show Qoq [I a,I b]=_;rw[Zzp]
 ·have h1:=S8 (a-b);have h2:=S8 (b-a)
  unfold mx;split<;>assumption
theorem Q2a (a:Int):(G1 [I a]).isSome=true:=by
 show(Zz [I a]).isSome=true;rw[Zrr]
 repeat' first|exact rfl|refine B2 (λ_=> ?_) (λ_=> ?_)
theorem Zg2 {a b:Int} (hb:b≠0):(JU [I a,I b]).isSome=true:=by
 show(Vk [I a,I b]).isSome=true;rw[Z3k];refine B2 (λc=>absurd (A6 c) hb) λ_=>B2 (λc=>absurd (A6 c) hb) λ_=>B2 (λ_=>rfl) λ_=>rfl
theorem Z5c (x0 x1 x2 x3 x4:Int) {x5:Int} (h5:i64 x5):(Mh [I x0,I x1,I x2,I x3,I x4,I x5]).isSome=true:=by
 show(Qmv E9 G1 [I x0,I x1,I x2,I x3,I x4,I x5]).isSome=true;have h:=Q4p h5;have h2:=Q2a x4;generalize E9=M at*;generalize G1=N at*;rw[Zl6]
 repeat' first|exact rfl|exact h|exact h2|refine B2 (λ_=> ?_) (λ_=> ?_)|refine Fm ?_ λ_ _=> ?_
theorem Zpf (x0 x1 x2 x3 x4:Int) {x5:Int} (h5:i64 x5):(Oj [I x0,I x1,I x2,I x3,I x4,I x5]).isSome=true:=by
 show(Vl E9 G1 [I x0,I x1,I x2,I x3,I x4,I x5]).isSome=true;have h:=Q4p h5;have h2:=Q2a x4;generalize E9=M at*;generalize G1=N at*;rw[Zfk]
 repeat' first|exact rfl|exact h|exact h2|refine B2 (λ_=> ?_) (λ_=> ?_)|refine Fm ?_ λ_ _=> ?_
structure Plan3 (a b c : Int) : Prop where
 a:1<=a/\a<=65536
 b:2<=b/\b<=65536
 c:1<=c/\c<=16777216
abbrev Es (m0 m1 m3 m4 v:Int):List AC:=[I (wrap .i64 (m0+v)),I v,I (wrap .i64 (v-m1)),I m0,I m3,I m4]
theorem Q0s (m0 m1 m2 m3 m4 m5 v:Int):IS [I m0,I m1,I m2,I m3,I m4,I m5,I v]=some (Es m0 m1 m3 m4 v):=by
 show V9 [I m0,I m1,I m2,I m3,I m4,I m5,I v]=some (Es m0 m1 m3 m4 v);rw[Zyn]
theorem CZ (a:AC) (l:List AC):nth .dead (a::l) 0=a:=rfl
theorem Em (a:AC) (l:List AC) (n:Nat):nth .dead (a::l) (n+1)=nth .dead l n:=rfl
theorem Dw (n:Int):Af (.int .i64 n)=n:=rfl
theorem Zn2 {M:Fn} {p:Pth} {x:Ax3} {t:Trk} (hM:∀u,(M (pxt p x t [I u])).isSome=true) (ht:0<=t.length/\t.length<=900000000000000) (u1 u2:Int) (hd:u2-u1<=1000000000000):
  (Uf M (An (Rz M)) (pxt p x t [I u1,I u2])).isSome=true:=by
 rw[Q39];have h1:0<=mx 0 (mn u1 t.length)/\mx 0 (mn u1 t.length)<=t.length/\mx 0 (mn u2 t.length)-mx 0 (mn u1 t.length)<=1000000000000/\mx 0 (mn u2 t.length)<=t.length:=by
  unfold mx mn
  (repeat' split)<;>omega
 obtain⟨k1,k2,k3,k4⟩:=h1;generalize mx 0 (mn u1 t.length)=f at*;generalize mx 0 (mn u2 t.length)=e at*;refine Fm (hM _) λo _=> ?_;refine Out.is (p:=λ_=>True) ?_;refine .bind (p:=λo=>o.1=1) ?_ λo g=>by rw[g];exact .some trivial
 show Out _ (An _ (.view kPt []::I e::I f::pxt p x t [I (gA o 0),I (gA o 1),I (gA o 2)]));generalize gA o 0=w0;generalize gA o 1=w1;generalize gA o 2=w2;refine Cb (λs:Rw×Int×Int×Int×Int=> .view kPt s.1::I e::I s.2.1::pxt p x t [I s.2.2.1,I s.2.2.2.1,I s.2.2.2.2]) (λs=>f<=s.2.1/\s.2.1<=t.length/\(s.1.length:Int)<=3*(s.2.1-f)) (λs=>(e-s.2.1).toNat) _ ?_ ([],f,w0,w1,w2) (by simp;omega);rintro⟨v,u,a0,a1,a2⟩ ⟨q1,q2,q3⟩;dsimp only at*;rw[Q45];try dsimp only[Mi]
 rw[Ae (x:=u+1) (by omega)];refine .cond (λc=> ?_) (λ_=> .some (.inr ⟨by simp,rfl⟩));have c:=A6 c;refine .ibind (hM _) λo _=> ?_
 repeat' first
  |(refine .cond (λ_=> ?_) λc=>by rw[CK (by simp;omega)]at c;cases c)
  |refine .cond (λ_=> ?_) (λ_=> ?_)
 all_goals refine Out.some (Or.inl ⟨rfl,(_,u+1,_,_,_),rfl,by simp;omega,by show(e-(u+1)).toNat<(e-u).toNat;omega⟩)
theorem Z0n {p:Pth} {x:Ax3} {t:Trk} (h:Fix p x t) (u1 u2:Int) (hd:u2-u1<=1000000000000):(IZ (pxt p x t [I u1,I u2])).isSome=true:=
 Zn2 (λu=>by rw[Ki h u];rfl) h.t.q.len u1 u2 hd
def BO (k b:Int):Int:=if b<=0 then 0 else(b-1)/k*b-k*((b-1)/k*((b-1)/k+1)/2)
def CE (j k v a:Int):Prop:= -j<=a/\a<=j/\BO k (-a)<=v/\v<=16777216-BO k a/\(v=0->a<=k)
instance (j k v a:Int):Decidable (CE j k v a):=by unfold CE;infer_instance
theorem Qs3 {k b:Int} (hk:2<=k/\k<=65536) (hb:0<b/\b<=1048576):
  0<=(b-1)/k/\(b-1)/k<=524288/\k*((b-1)/k)<=b-1/\0<=(b-1)/k*b/\(b-1)/k*b<=549755813888/\0<=(b-1)/k*((b-1)/k+1)/\(b-1)/k*((b-1)/k+1)<=274878431232:=by
 have h0:0<=(b-1)/k:=Int.ediv_nonneg (by omega) (by omega);have h1:k*((b-1)/k)<=b-1:=Int.mul_ediv_self_le (by omega);have h2:2*((b-1)/k)<=k*((b-1)/k):=Int.mul_le_mul_of_nonneg_right hk.1 h0;have h3:(b-1)/k<=524288:=by omega
 have h4:(b-1)/k*b<=524288*1048576:=dm h3 hb.2 (by omega) (by omega);have h5:(b-1)/k*((b-1)/k+1)<=524288*524289:=dm h3 (by omega) (by omega) (by omega);exact⟨h0,h3,h1,Int.mul_nonneg h0 (by omega),by omega,Int.mul_nonneg h0 (by omega),by omega⟩
theorem J4 {k b:Int} (h:b<=0):BO k b=0:=by simp[BO,h]
theorem Q1n {k b:Int} (h:b<=k):BO k b=0:=by
 unfold BO;split
 ·rfl
 ·rw[Int.ediv_eq_zero_of_lt (by omega) (by omega)];simp
theorem Z0i (m:Int):m*(m+1)/2=(m-1)*m/2+m:=by
 have:m*(m+1)=(m-1)*m+m*2:=by
  rw[Int.sub_mul,Int.mul_add,Int.mul_one,Int.one_mul];omega
 rw[this,Int.add_mul_ediv_right _ _ (by omega)]
theorem Qfm {k b:Int} (hk:0<k) (h:k<b):BO k b=(b-k)+BO k (b-k):=by
 have e1:(b-1)/k=(b-k-1)/k+1:=by
  have:b-1=(b-k-1)+k*1:=by omega
  rw[this,Int.add_mul_ediv_left _ _ (by omega)]
 unfold BO;rw[ab (by omega),ab (by omega),e1];generalize(b-k-1)/k=m;rw[Z0i (m+1)];have e2:m+1-1=m:=by omega
 rw[e2,Int.mul_add k,Int.add_mul m 1 b,Int.mul_sub m b k,Int.mul_add k m 1,Int.mul_comm k m];omega
theorem Qz7 {k:Int} (hk:0<k):∀(n:Nat) (b:Int),b<=n->0<=BO k b
 |0,b,h=>by rw[J4 (by omega)];omega
 |n+1,b,h=>by
  by_cases hb:b<=k
  ·rw[Q1n hb];omega
  ·rw[Qfm hk (by omega)];have:=Qz7 hk n (b-k) (by omega);omega
theorem LV {k b:Int} (hk:0<k):0<=BO k b:=Qz7 hk b.toNat b (by omega)
theorem Q0u {k b:Int} (hk:2<=k/\k<=65536) (hb:b<=1048576):BO k b<=549755813888:=by
 unfold BO;split
 ·omega
 ·have p:=Qs3 (k:=k) (b:=b) hk ⟨by omega,hb⟩;generalize(b-1)/k=m at p⊢;obtain⟨p1,p2,p3,p4,p5,p6,p7⟩:=p;have q1:0<=k*(m*(m+1)/2):=Int.mul_nonneg (by omega) (by omega);omega
def bs (k v:Int):Nat->Int->Int->Int
 |0,low,_=>low
 |n+1,low,high=>if low<high then
   if BO k (high-(high-low)/2)<=v-(high-(high-low)/2)then bs k v n (high-(high-low)/2) high else bs k v n low (high-(high-low)/2-1)
  else low
def AI (j k v a:Int):Int:= -(bs k v 20 (-a-k) (min (k-a) j))
theorem Qal (k v:Int):∀(n:Nat) (low high:Int),low<=bs k v n low high/\bs k v n low high<=max low high
 |0,low,high=>by simp only[bs];omega
 |n+1,low,high=>by
  unfold bs;split
  ·split
   ·have:=Qal k v n (high-(high-low)/2) high;omega
   ·have:=Qal k v n low (high-(high-low)/2-1);omega
  ·omega
theorem XQ (k v:Int):∀(n:Nat) (low high:Int),low<=high->high-low<2^n->BO k low<=v-low->
  BO k (bs k v n low high)<=v-bs k v n low high/\low<=bs k v n low high/\bs k v n low high<=high/\(bs k v n low high=high\/v-(bs k v n low high+1)<BO k (bs k v n low high+1))
 |0,low,high,h1,h2,h3=>by
  simp only[bs];have:high-low<1:=by simpa using h2
  exact⟨h3,by omega,h1, .inl (by omega)⟩
 |n+1,low,high,h1,h2,h3=>by
  have hp:(2:Int)^(n+1)=2*2^n:=by rw[Int.pow_succ];omega
  unfold bs;by_cases hlt:low<high
  ·rw[aa hlt];by_cases hc:BO k (high-(high-low)/2)<=v-(high-(high-low)/2)
   ·rw[aa hc];obtain⟨a,b,c,d⟩:=XQ k v n (high-(high-low)/2) high (by omega) (by omega) hc;exact⟨a,by omega,c,d⟩
   ·rw[ab hc];obtain⟨a,b,c,d⟩:=XQ k v n low (high-(high-low)/2-1) (by omega) (by omega) h3;refine⟨a,b,by omega, .inr ?_⟩;rcases d with d|d
    ·have e:bs k v n low (high-(high-low)/2-1)+1=high-(high-low)/2:=by omega
     rw[e];omega
    ·exact d
  ·rw[ab hlt];exact⟨h3,by omega,h1, .inl (by omega)⟩
theorem Q0f {j k r v a:Int} (hp:Plan3 j k r) (hr:CE j k v a) {B:Int} (hB:B=bs k v 20 (-a-k) (min (k-a) j)):
  BO k B<=v-B/\ -a-k<=B/\B<=k-a/\B<=j/\(B=min (k-a) j\/v-(B+1)<BO k (B+1))/\0<=v:=by
 obtain⟨⟨p1,p2⟩,⟨p3,p4⟩,p5,p6⟩:=hp;obtain⟨h1,h2,h3,h4,h5⟩:=hr;have hk:0<k:=by omega
 have l0:=LV (b:= -a) hk;have hlow:BO k (-a-k)<=v-(-a-k):=by
  by_cases hc:k< -a
  ·rw[Qfm hk hc]at h3;omega
  ·rw[J4 (by omega)];omega
 obtain⟨q1,q2,q3,q4⟩:=XQ k v 20 (-a-k) (min (k-a) j) (by omega) (by simp;omega) hlow;rw[<-hB]at q1 q2 q3 q4;exact⟨q1,q2,by omega,by omega,q4,by omega⟩
theorem closed {j k r v a:Int} (hp:Plan3 j k r) (hr:CE j k v a):
  CE j k (v+AI j k v a) (AI j k v a)/\AI j k v a-a<=k/\a-AI j k v a<=k/\(0<a\/(v=0/\AI j k v a=0)\/AI j k v a<0):=by
 obtain⟨B,hB⟩:∃B,B=bs k v 20 (-a-k) (min (k-a) j):=⟨_,rfl⟩;have hb:AI j k v a= -B:=by unfold AI;rw[hB]
 obtain⟨q1,q2,q3,q4,q5,q6⟩:=Q0f hp hr hB;rw[hb];obtain⟨⟨p1,p2⟩,⟨p3,p4⟩,p5,p6⟩:=hp;obtain⟨h1,h2,h3,h4,h5⟩:=hr;have hk:0<k:=by omega
 have top:B+1<=0->B=min (k-a) j:=by
  intro h;rcases q5 with q5|q5
  ·exact q5
  ·rw[J4 h]at q5;omega
 have hB0: -a<=B\/0<=B:=by
  by_cases hn:B+1<=0
  ·have:=top hn;omega
  ·right;omega
 have hneg:a<=0->0<=B:=λha=>by
  by_cases hn:B+1<=0
  ·have:=top hn;omega
  ·omega
 have la:=LV (b:=a) hk;have hjB: -j<=B:=by
  by_cases hn:B+1<=0
  ·have:=top hn;omega
  ·omega
 have e1: -(-B)=B:=by omega
 refine⟨⟨by omega,by omega,by rw[e1];omega,?_,?_⟩,by omega,by omega,?_⟩
 ·by_cases hn:0<=B
  ·rw[J4 (b:= -B) (by omega)];omega
  ·have ht:=top (by omega);have hka:B=k-a:=by omega
   have e2: -B=a-k:=by omega
   have hs:=Qfm (k:=k) (b:=a) hk (by omega);rw[e2];omega
 ·intro hv;omega
 ·by_cases ha:0<a
  ·exact .inl ha
  ·right;have hB1:=hneg (by omega);by_cases hv:v=0
   ·left;have:=LV (b:=B) hk;exact⟨hv,by omega⟩
   ·right;by_cases hz:B=0
    ·rcases q5 with q5|q5
     ·omega
     ·rw[hz,Q1n (k:=k) (b:=0+1) (by omega)]at q5;omega
    ·omega
def BF (j k:Int):Nat->Int->Int->List Int×Bool
 |0,v,_=>([],decide (v<=0))
 |n+1,v,a=>if v<=0 then([],true)else((v+AI j k v a)::(BF j k n (v+AI j k v a) (AI j k v a)).1,(BF j k n (v+AI j k v a) (AI j k v a)).2)
theorem Qz8 (j k:Int):∀(n:Nat) (v a:Int),(BF j k n v a).2=true->BF j k (n+1) v a=BF j k n v a
 |0,v,a,h=>by
  have h:v<=0:=of_decide_eq_true h;unfold BF;rw[aa h];show([],true)=([],decide (v<=0));rw[al h]
 |n+1,v,a,h=>by
  unfold BF at h⊢;by_cases c:v<=0
  ·rw[aa c,aa c]
  ·rw[ab c]at h;rw[ab c,ab c,Qz8 j k n _ _ h]
theorem Ix {j k r v a:Int} (hp:Plan3 j k r) (hr:CE j k v a): -65536<=a/\a<=65536/\0<=v/\v<=16777216:=by
 obtain⟨h1,h2,h3,h4,-⟩:=hr;have p1:=hp.a;have p2:=hp.b
 have q1:=LV (k:=k) (b:=a) (by omega);have q2:=LV (k:=k) (b:= -a) (by omega);omega
end Go.Bm
noncomputable section
namespace Go.Bm
theorem Qri {a k c:Int} (hk:2<=k/\k<=65536) {d:Int} (hd:d<=1048576):G9 [I a,I k,I c,I d]=some [I (BO k d)]:=by
  show TE _=_;rw[YR];by_cases h:d<=0
  · rw[BH (al h),J4 h]
  · rw[Bw (am h),Bw (am (by omega)),Bw (am (by omega))]
    obtain⟨p1,p2,p3,p4,p5,p6,p7⟩:=Qs3 hk (show 0<d/\d<=1048576 by omega);rw[Ae (x:=d-1) (by omega),bc (show 0<=d-1 by omega)];unfold BO;rw[ab h];have hm:0<=k*((d-1)/k*((d-1)/k+1)/2):=Int.mul_nonneg (by omega) (by omega);have hm2:k*((d-1)/k*((d-1)/k+1)/2)<=65536*274878431232:=dm hk.2 (by omega) (by omega) (by omega);generalize hq:(d-1)/k=q at*;rw[Ae (x:=q) (by omega),Ae (x:=q*d) (by omega),Ae (x:=q+1) (by omega),Ae (x:=q*(q+1)) (by omega),bc p6];generalize q*(q+1)=y at*;generalize q*d=z at*;rw[Ae (x:=y/2) (by omega),Ae (x:=k*(y/2)) (by omega),Ae (by omega)]
theorem Z00 {M:Fn} {a k c:Int} (hp:Plan3 a k c) (hM:∀{d:Int},d<=1048576->M [I a,I k,I c,I d]=some [I (BO k d)]) (v x:Int):QR M [I a,I k,I c,I v,I x]=some [B (decide (CE a k v x))]:=by
  have ha:=hp.a;have hk:=hp.b
  rw[Qbx,Ae (x:=0-a) (by omega)];refine eC (λh=> ?_) λh=> ?_
  · have h:x<0-a:=A6 h
    rw[am (λq=>by have:=q.1;omega)]
  have h: ¬x<0-a:=A2 h;refine eC (λh2=> ?_) λh2=> ?_
  · have h2:x>a:=A6 h2
    rw[am (λq=>by have:=q.2.1;omega)]
  have h2: ¬x>a:=A2 h2;have l1:=Q0u (b:= -x) hk (by omega);have l2:=Q0u (b:=x) hk (by omega);have l3:=LV (k:=k) (b:=x) (by omega);have fin: ¬(v=0/\x>k)->((M [I a,I k,I c,I (wrap .i64 (0-x))]).bind λo=>bif decide (v>=gA o 0)then(M [I a,I k,I c,I x]).bind λo2=>some [B (decide (v<=wrap .i64 (16777216-gA o2 0)))]else some [B false])=some [B (decide (CE a k v x))]:=λhz=>by
    rw[Ae (x:=0-x) (by omega),show(0:Int)-x= -x by omega];refine eB (hM (by omega)) (eC (λq=> ?_) λq=> ?_)
    · have q:v>=BO k (-x):=A6 q
      refine eB (hM (by omega)) ?_;show some [B (decide (v<=wrap .i64 (16777216-BO k x)))]=_;rw[Ae (by omega)];have e:(v<=16777216-BO k x)↔CE a k v x:=⟨λe=>⟨by omega,by omega,q,e,λz=>by omega⟩,λe=>e.2.2.2.1⟩;rw[decide_eq_decide.2 e]
    · have q: ¬v>=BO k (-x):=A2 q
      rw[am (λw=>q w.2.2.1)]
  refine eC (λh0=>eC (λh1=> ?_) λh1=> ?_) λh0=> ?_
  · have h0:v=0:=eq_of_beq h0
    have h1:x>k:=A6 h1;rw[am (λq=>by have:=q.2.2.2.2 h0;omega)]
  · exact fin λw=>A2 h1 w.2
  · exact fin λw=>by rw[beT w.1]at h0;cases h0
theorem Zye {a k c:Int} (hp:Plan3 a k c) (v x:Int):Hd [I a,I k,I c,I v,I x]=some [B (decide (CE a k v x))]:=Z00 hp (λhd=>Qri hp.b hd) v x
theorem Zwb {k v:Int}:∀(n:Nat) {low high:Int},¬low<high->bs k v n low high=low
  |0,_,_,_=>rfl
  |n+1,_,_,h=>by unfold bs;rw[ab h]
theorem Zgz {M MV:Fn} {a k c v:Int} (hM:∀{d:Int},d<=1048576->M [I a,I k,I c,I d]=some [I (BO k d)]) (hv: -1099511627776<=v/\v<=1099511627776):∀(n:Nat) (low high:Int),high-low<2^n-> -262144<=low->high<=262144->low<=262144-> -262145<=high->
    An (Lw M MV) [I v,I low,I high,I a,I k,I c]=some (1,[I (bs k v n low high)]):=by
  have endd:∀(n:Nat) {low high:Int},¬low<high->An (Lw M MV) [I v,I low,I high,I a,I k,I c]=some (1,[I (bs k v n low high)]):=λn low high h=>by
    rw[Zwb n h];refine A5 ?_ (by simp);rw[Qqf,Bw (am h)]
  intro n;induction n with
  | zero => intro low high h _ _ _ _; exact endd 0 (by have h : high - low < 1 := by simpa using h
                                                       omega)
  |succ n ih=>
    intro low high h h1 h2 h3 h4;have hp:(2:Int)^(n+1)=2*2^n:=by rw[Int.pow_succ];omega
    rw[hp]at h;by_cases cc:low<high
    · have e1:wrap .i64 (high-wrap .i64 ((wrap .i64 (high-low)).tdiv 2))=high-(high-low)/2:=by
        rw[Ae (x:=high-low) (by omega),bc (show 0<=high-low by omega),Ae (x:=(high-low)/2) (by omega),Ae (by omega)]
      have e2:wrap .i64 (v-(high-(high-low)/2))=v-(high-(high-low)/2):=Ae (by omega);have e3:wrap .i64 (high-(high-low)/2-1)=high-(high-low)/2-1:=Ae (by omega);have hs:=Qqf M MV v low high a k c;rw[BH (al cc),e1,e2,e3,hM (by omega)]at hs;unfold bs;rw[aa cc];by_cases q:BO k (high-(high-low)/2)<=v-(high-(high-low)/2)
      · rw[aa q]
        rw[Bn (hs.trans (eB rfl (eT (al (show v-(high-(high-low)/2)>=BO k (high-(high-low)/2)from q)) rfl)))];exact ih _ _ (by omega) (by omega) (by omega) (by omega) (by omega)
      · rw[ab q]
        rw[Bn (hs.trans (eB rfl (eF (am (show¬v-(high-(high-low)/2)>=BO k (high-(high-low)/2)from q)) rfl)))];exact ih _ _ (by omega) (by omega) (by omega) (by omega) (by omega)
    · exact endd (n+1) cc
theorem Zvn {M MV:Fn} {a k c v x:Int} (hp:Plan3 a k c) (hr:CE a k v x) (hM:∀{d:Int},d<=1048576->M [I a,I k,I c,I d]=some [I (BO k d)]) (hV:MV [I a,I k,I c]=some [B true]):
    Un M MV (An (Lw M MV)) [I a,I k,I c,I v,I x]=some [I (AI a k v x)]:=by
  have hrg:=Ix hp hr;have ha:=hp.a;have hk:=hp.b
  rw[Zas];have m1:mx x v=max x v:=by unfold mx;split<;>omega
  have m2:mn x v=min x v:=by unfold mn;split<;>omega
  rw[m1,m2];refine eB hV (eF rfl (eF (am (by omega)) (eF (am (by omega)) ?_)));have m3:mn (wrap .i64 (k-x)) a=min (k-x) a:=by rw[Ae (x:=k-x) (by omega)];unfold mn;split<;>omega
  rw[m3,Ae (x:=0-x) (by omega),Ae (x:=0-x-k) (by omega),show(0:Int)-x-k= -x-k by omega];refine eB (Zgz (MV:=MV) hM (by omega) 20 (-x-k) (min (k-x) a) (by simp;omega) (by omega) (by omega) (by omega) (by omega)) (eT rfl ?_);have hb:=Qal k v 20 (-x-k) (min (k-x) a);show some [I (wrap .i64 (0-bs k v 20 (-x-k) (min (k-x) a)))]=_;unfold AI;rw[Ae (by omega),Int.zero_sub]
theorem Q22 {a k c:Int} (hp:Plan3 a k c):EY [I a,I k,I c]=some [B true]:=by
  rw[PO,al];exact⟨hp.a.1,hp.a.2,hp.b.1,hp.b.2,hp.c.1,hp.c.2⟩
theorem Q02 {a k c v x:Int} (hp:Plan3 a k c) (hr:CE a k v x):Fw [I a,I k,I c,I v,I x]=some [I (AI a k v x)]:=
  Zvn hp hr (λhd=>Qri hp.b hd) (Q22 hp)
def Bo (a k v x:Int):List Int×Bool:=if CE a k v x/\(BF a k 4096 v x).2=true then((BF a k 4096 v x).1,true)else([],false)
theorem Z6l {MB MR MV:Fn} {a k c:Int} (hp:Plan3 a k c) (hB:∀{v x:Int},CE a k v x->MB [I a,I k,I c,I v,I x]=some [I (AI a k v x)]):∀(n:Nat) (pre:List Int) (v x:Int),pre.length+n=4096->CE a k v x->
  An (IA MB MR MV) [.view Aa (pre.map As),I v,I x,I a,I k,I c]=if(BF a k n v x).2=true then some (2,[.view Aa ((pre++(BF a k n v x).1).map As)])else some (1,[B false]):=by
 have fin:∀(n:Nat) (pre:List Int) (v x:Int),v<=0->An (IA MB MR MV) [.view Aa (pre.map As),I v,I x,I a,I k,I c]=if(BF a k n v x).2=true then some (2,[.view Aa ((pre++(BF a k n v x).1).map As)])else some (1,[B false]):=λn pre v x h=>by
  have e:BF a k n v x=([],true):=by
   cases n with
   |zero=>show([],decide (v<=0))=([],true);rw[al h]
   |succ n=>unfold BF;rw[aa h]
  rw[e,aa rfl];refine A5 ?_ (by simp);rw[Qg,Bw (am (by omega)),List.append_nil]
 intro n;induction n with
 |zero=>
  intro pre v x hl hr;by_cases h:v<=0
  ·exact fin 0 pre v x h
  ·have e:BF a k 0 v x=([],false):=by show([],decide (v<=0))=([],false);rw[am h]
   rw[e,ab (by simp)];refine A5 ?_ (by simp);rw[Qg,BH (al (by omega)),BH (beT (by rw[ag];omega))]
 |succ n ih=>
  intro pre v x hl hr;by_cases h:v<=0
  ·exact fin (n+1) pre v x h
  ·have hc:=closed hp hr;have hrg:=Ix hp hr;have hrg2:=Ix hp hc.1;have hs:=Qg MB MR MV (pre.map As) v x a k c;rw[BH (al (by omega)),Bw (beF (by rw[ag];omega)),hB hr]at hs;have hw:wrap .i64 (v+AI a k v x)=v+AI a k v x:=Ae (by omega);have hs2:IA MB MR MV [.view Aa (pre.map As),I v,I x,I a,I k,I c]=some (0,[.view Aa ((pre++[v+AI a k v x]).map As),I (v+AI a k v x),I (AI a k v x),I a,I k,I c]):=by
    refine hs.trans (eB rfl ?_);show cond ((List.length (pre.map As++[[I (wrap .i64 (v+AI a k v x))]])*8).ble 140737488355328) (some (0,[AC.view Aa (pre.map As++[[I (wrap .i64 (v+AI a k v x))]]),I (wrap .i64 (v+AI a k v x)),I (AI a k v x),I a,I k,I c])) none=_;rw[hw,CK (by simp;omega),bt];rfl
   rw[Bn hs2,ih (pre++[v+AI a k v x]) _ _ (by simp;omega) hc.1];have e:BF a k (n+1) v x=((v+AI a k v x)::(BF a k n (v+AI a k v x) (AI a k v x)).1,(BF a k n (v+AI a k v x) (AI a k v x)).2):=by
    show(if v<=0 then _ else _)=_;rw[ab h]
   rw[e];simp only[List.append_assoc,ay,av]
theorem Z4v {MB MR MV:Fn} {a k c:Int} (hp:Plan3 a k c) (hB:∀{v x:Int},CE a k v x->MB [I a,I k,I c,I v,I x]=some [I (AI a k v x)]) (hV:MV [I a,I k,I c]=some [B true])
  (hR:∀v x,MR [I a,I k,I c,I v,I x]=some [B (decide (CE a k v x))]) (v x:Int):
  Q0 MB MR MV (An (IA MB MR MV)) [I a,I k,I c,I v,I x]=some [.view Aa ((Bo a k v x).1.map As),B (Bo a k v x).2]:=by
 rw[Vc];refine eB hV (eF rfl (eB (hR v x) ?_));unfold Bo;refine eC (λh=> ?_) λh=> ?_
 ·have h: ¬CE a k v x:=by
   intro q;have h:(!decide (CE a k v x))=true:=h;rw[al q]at h;cases h
  rw[ab (λw=>h w.1)];rfl
 ·have h:CE a k v x:=by
   have h:(!decide (CE a k v x))=false:=h;by_cases q:CE a k v x
   ·exact q
   ·rw[am q]at h;cases h
  have hl:=Z6l (MR:=MR) (MV:=MV) hp hB 4096 [] v x (by simp) h;by_cases q:(BF a k 4096 v x).2=true
  ·rw[aa q]at hl;rw[aa ⟨h,q⟩];exact eB hl rfl
  ·rw[ab q]at hl;rw[ab (λw=>q w.2)];exact eB hl rfl
theorem Zvo {a k c:Int} (hp:Plan3 a k c) (v x:Int):KJ [I a,I k,I c,I v,I x]=some [.view Aa ((Bo a k v x).1.map As),B (Bo a k v x).2]:=
 Z4v hp (λhr=>Q02 hp hr) (Q22 hp) (Zye hp) v x
theorem Qw5 {a k c:Int} (hp:Plan3 a k c):∀(n:Nat) (v x:Int),CE a k v x->(BF a k n v x).1.length<=n/\∀w∈(BF a k n v x).1,0<=w/\w<=16777216
 |0,v,x,_=>⟨by simp[BF],λw h=>by simp[BF]at h⟩
 |n+1,v,x,h=>by
  have hc:=closed hp h;have h2:=Ix hp hc.1;have ih:=Qw5 hp n _ _ hc.1;unfold BF;by_cases q:v<=0
  ·rw[aa q];exact⟨by simp,λw h=>by cases h⟩
  ·rw[ab q];refine⟨by simp only[bh];omega,λw hw=> ?_⟩;rcases aq.1 hw with rfl|hw
   ·omega
   ·exact ih.2 w hw
theorem Zga {a k c:Int} (hp:Plan3 a k c) (v x:Int):(Bo a k v x).1.length<=4096/\∀w∈(Bo a k v x).1,0<=w/\w<=16777216:=by
 unfold Bo;split
 ·rename_i h;exact Qw5 hp 4096 v x h.1
 ·exact⟨by simp,λw h=>by cases h⟩
end Go.Bm
