/- laid together -/
import Derived.Test.YtommijghjlikkaaGreatPrTc
import Derived.Test.YtommijghjlikkaaGreatMx3
import Derived.Lib.ItoaNum
set_option linter.unusedVariables false
set_option linter.unusedSimpArgs false
set_option maxRecDepth 100000
open Go.IntKind (wrap)
namespace Go.Bm
open Classical
theorem Zev {l:List Pce} (h:l≠[]):nth [] (l.map AL) (l.length-1)=AL (AX l):=by
 have hp:0<l.length:=by cases l with
  |nil=>exact absurd rfl h
  |cons _ _=>simp
 unfold AX;have hlt:l.length-1<l.length:=by omega
 rw[Je _ _ _ _ hlt,List.getD_eq_getElem?_getD,ai hlt,Option.getD_some]
theorem Q9h {a b:Pt}:a=b↔a.x=b.x/\a.y=b.y/\a.z=b.z:=DZ
theorem Zni {t:Trk} {c:Pce} {n m k:Int} (h:TB t n m) (hn:n<=10000000) (hm:m<=1000000000000000000) (hk:k<=1000000000000000000) (hc:0<=c.units/\c.units<=k):
  Qah [.view At (t.aD.map AL),I c.at_,I c.units,I c.s,I c.move,I c.was.x,I c.was.y,I c.was.z,I c.dirs.x,I c.dirs.y,I c.dirs.z,I t.length,I t.start,I t.dirs.x,I t.dirs.y,I t.dirs.z]=some (A_ (D9 t c)):=by
 obtain⟨h1,h2,h3⟩:=h;have hw:wrap .i64 (t.length+c.units)=t.length+c.units:=Ae (by omega);have hble:((t.aD.map AL++[[I t.length,I c.units,I c.s,I c.move,I c.was.x,I c.was.y,I c.was.z,I c.dirs.x,I c.dirs.y,I c.dirs.z]]).length*80).ble 140737488355328=true:=by
  rw[Nat.ble_eq,ao,ag];simp only[bf,cq];omega
 have hble':(t.aD.map AL++[[I t.length,I c.units,I c.s,I c.move,I c.was.x,I c.was.y,I c.was.z,I c.dirs.x,I c.dirs.y,I c.dirs.z]]).length*80<=140737488355328:=ba hble;have happ:some [AC.view At (t.aD.map AL++[[I t.length,I c.units,I c.s,I c.move,I c.was.x,I c.was.y,I c.was.z,I c.dirs.x,I c.dirs.y,I c.dirs.z]]),I (t.length+c.units),I t.start,I t.dirs.x,I t.dirs.y,I t.dirs.z]=
   some (A_ {t with aD:=t.aD++[{c with at_:=t.length}],length:=t.length+c.units}):=by
  simp only[A_,bt,bh,dk]
 by_cases c1:t.aD=[]
 ·have hg: ¬(t.aD≠[]/\c.move≠0/\(AX t.aD).move=c.move/\(AX t.aD).dirs=c.dirs):=λg=>g.1 c1;unfold D9;rw[ab hg,<-happ];rw[Q60,ag,A3 (by rw[c1];simp),Bx hble,hw]
 ·have hp:0<t.aD.length:=by
   cases hh:t.aD with
   |nil=>exact absurd hh c1
   |cons _ _=>simp
  have e1:wrap .i64 ((t.aD.length:Int)-1)=((t.aD.length-1:Nat):Int):=by rw[Ae (by omega)];omega
  have hin:(0:Int)<=((t.aD.length-1:Nat):Int)/\((t.aD.length-1:Nat):Int)<(t.aD.length:Int):=by omega
  have hl:=h3 _ (Q7l c1);have hw2:wrap .i64 ((AX t.aD).units+c.units)=(AX t.aD).units+c.units:=Ae (by omega);have hset:some [AC.view At ((t.aD.map AL).set (t.aD.length-1) [I (AX t.aD).at_,I ((AX t.aD).units+c.units),I (AX t.aD).s,I (AX t.aD).move,I (AX t.aD).was.x,I (AX t.aD).was.y,I (AX t.aD).was.z,I (AX t.aD).dirs.x,I (AX t.aD).dirs.y,I (AX t.aD).dirs.z]),I (t.length+c.units),I t.start,I t.dirs.x,I t.dirs.y,I t.dirs.z]=
   some (A_ {t with aD:=t.aD.set (t.aD.length-1) {AX t.aD with units:=(AX t.aD).units+c.units},length:=t.length+c.units}):=by
   simp only[A_,List.map_set]
  have hr:=Zev c1;have main : ∀ R, R = (if c.move ≠ 0 then if (AX t.aD).move = c.move then if (AX t.aD).dirs.x = c.dirs.x /\ (AX t.aD).dirs.y = c.dirs.y /\ (AX t.aD).dirs.z = c.dirs.z then
    some (A_ {t with aD:=t.aD.set (t.aD.length-1) {AX t.aD with units:=(AX t.aD).units+c.units},length:=t.length+c.units})
    else some (A_ {t with aD:=t.aD++[{c with at_:=t.length}],length:=t.length+c.units})else some (A_ {t with aD:=t.aD++[{c with at_:=t.length}],length:=t.length+c.units})else some (A_ {t with aD:=t.aD++[{c with at_:=t.length}],length:=t.length+c.units}))->R=some (A_ (D9 t c)):=by
   intro R hR;rw[hR];unfold D9;by_cases g1:c.move≠0
   ·by_cases g2:(AX t.aD).move=c.move
    ·by_cases g3:(AX t.aD).dirs.x=c.dirs.x/\(AX t.aD).dirs.y=c.dirs.y/\(AX t.aD).dirs.z=c.dirs.z
     ·rw[aa g1,aa g2,aa g3,aa ⟨c1,g1,g2,Q9h.2 g3⟩]
     ·rw[aa g1,aa g2,ab g3,ab λg=>g3 (Q9h.1 g.2.2.2)]
    ·rw[aa g1,ab g2,ab λg=>g2 g.2.2.1]
   ·rw[ab g1,ab λg=>g1 g.2.1]
  refine main _ ?_;rw[<-happ,<-hset];rw[Q60,ag,e1,aj,hr];simp only[go_sem,hw,hw2,aa hin,aa hble'];rw[aa (by omega)];simp only[and_true]
theorem Zrz (x:Ax3) (w d:Pt):OI (AI x++[I w.x,I w.y,I w.z,I d.x,I d.y,I d.z])=some [I (CQ x w d)]:=by
 have he:=Zir x.a.step x.a.speed x.a.accel x.a.jerk x.a.low x.a.high x.a.back x.a.origin x.a.spacing (x.a.pitch.map Aq) x.b.step x.b.speed x.b.accel x.b.jerk x.b.low x.b.high x.b.back x.b.origin x.b.spacing (x.b.pitch.map Aq) x.c.step x.c.speed x.c.accel x.c.jerk x.c.low x.c.high x.c.back x.c.origin x.c.spacing (x.c.pitch.map Aq) w.x w.y w.z d.x d.y d.z;unfold OI;refine Eq.trans he ?_;unfold CQ slk;simp only[go_sem,NX]
 (repeat' split)<;>first|rfl|(exfalso;omega)
theorem Z0i (n a b:Pt) {mv:Int} (hm:mv=1\/mv= -1):OT [I n.x,I n.y,I n.z,I a.x,I a.y,I a.z,I b.x,I b.y,I b.z,I mv]=some (ptR (Dt n a b mv)):=by
 unfold OT;rw[Z15];have e:wrap .i64 (0-mv)= -mv:=by rw[Ae (by omega)];omega
 unfold Dt T5;simp only[go_sem,e]
 (repeat' split)<;>first|rfl|(exfalso;omega)
theorem XR {n hi:Int}:Gy [I n,I hi]=some [I (A5 n hi)]:=by
 unfold Gy;rw[Z0y];simp only[Kj,NX];rfl
theorem Zn3 {MU MT MA:Fn} {x:Ax3} {mv:Int} {a b:Pt} {s units:Int} {t:Trk} {now:Pt} {n m k:Int} (hx:Ax3OK x) (h:TB t n m) (hn:n<=9000000) (hm:m<=900000000000000000) (hk:k<=900000000000000000) (hu:0<=units/\units<=k)
  (hT:MT [I now.x,I now.y,I now.z,I a.x,I a.y,I a.z,I b.x,I b.y,I b.z,I mv]=some (ptR (Dt now a b mv))) (hU:∀w d:Pt,MU (AI x++[I w.x,I w.y,I w.z,I d.x,I d.y,I d.z])=some [I (CQ x w d)])
  (hA : ∀ {t : Trk} {c : Pce} {n m k : Int}, TB t n m -> n <= 10000000 -> m <= 1000000000000000000 -> k <= 1000000000000000000 -> (0 <= c.units /\ c.units <= k) ->
   MA [.view At (t.aD.map AL),I c.at_,I c.units,I c.s,I c.move,I c.was.x,I c.was.y,I c.was.z,I c.dirs.x,I c.dirs.y,I c.dirs.z,I t.length,I t.start,I t.dirs.x,I t.dirs.y,I t.dirs.z]=some (A_ (D9 t c))):
  Qea MU MT MA (.view At (t.aD.map AL)::I a.x::I a.y::I a.z::I b.x::I b.y::I b.z::I s::I units::I now.x::I now.y::I now.z::I mv::(AI x++[I t.length,I t.start,I t.dirs.x,I t.dirs.y,I t.dirs.z]))=
   some (.view At ((B4 x mv a b s units (t, now)).1.aD.map AL) :: I (B4 x mv a b s units (t, now)).2.x :: I (B4 x mv a b s units (t, now)).2.y :: I (B4 x mv a b s units (t, now)).2.z :: I mv :: (AI x ++
    [I (B4 x mv a b s units (t,now)).1.length,I (B4 x mv a b s units (t,now)).1.start,I (B4 x mv a b s units (t,now)).1.dirs.x,I (B4 x mv a b s units (t,now)).1.dirs.y,I (B4 x mv a b s units (t,now)).1.dirs.z])):=by
 have he:=Zbj MU MT MA (t.aD.map AL) a.x a.y a.z b.x b.y b.z s units now.x now.y now.z mv x.a.step x.a.speed x.a.accel x.a.jerk x.a.low x.a.high x.a.back x.a.origin x.a.spacing (x.a.pitch.map Aq) x.b.step x.b.speed x.b.accel x.b.jerk x.b.low x.b.high x.b.back x.b.origin x.b.spacing (x.b.pitch.map Aq) x.c.step x.c.speed x.c.accel x.c.jerk x.c.low x.c.high x.c.back x.c.origin x.c.spacing (x.c.pitch.map Aq) t.length t.start t.dirs.x t.dirs.y t.dirs.z;refine Eq.trans he ?_;have hs:=T_ hx now (Dt now a b mv);have hU':=hU now (Dt now a b mv);simp only[AI,ax,az]at hU'⊢;unfold B4;simp only;generalize Dt now a b mv=nx at*;simp only[hT,go_sem,hU'];by_cases c:CQ x now nx>0
 ·have h1:=hA (c:=⟨0,CQ x now nx,s,0,now,nx⟩) h (by omega) (by omega) (k:=1000) (by omega) (by simp only;omega);have hb:=Qhv (k:=1000) h (c:=⟨0,CQ x now nx,s,0,now,nx⟩) (by simp only;omega);have h2:=hA (c:=⟨0,units,s,mv,nx,nx⟩) hb (by omega) (by omega) (k:=k) (by omega) hu;simp only at h1 h2;rw[aa c,aa c];simp only[h1,A_,go_sem,h2]
 ·have h2:=hA (c:=⟨0,units,s,mv,nx,nx⟩) h (by omega) (by omega) (k:=k) (by omega) hu;simp only at h2;rw[ab c,ab c];simp only[h2,A_,go_sem]
theorem Zwy {x:Ax3} {mv:Int} {a b:Pt} {s units:Int} {t:Trk} {now:Pt} {n m k:Int} (hv:mv=1\/mv= -1) (hx:Ax3OK x) (h:TB t n m) (hn:n<=9000000) (hm:m<=900000000000000000) (hk:k<=900000000000000000) (hu:0<=units/\units<=k):
  FR (.view At (t.aD.map AL)::I a.x::I a.y::I a.z::I b.x::I b.y::I b.z::I s::I units::I now.x::I now.y::I now.z::I mv::(AI x++[I t.length,I t.start,I t.dirs.x,I t.dirs.y,I t.dirs.z]))=
   some (.view At ((B4 x mv a b s units (t, now)).1.aD.map AL) :: I (B4 x mv a b s units (t, now)).2.x :: I (B4 x mv a b s units (t, now)).2.y :: I (B4 x mv a b s units (t, now)).2.z :: I mv :: (AI x ++
    [I (B4 x mv a b s units (t,now)).1.length,I (B4 x mv a b s units (t,now)).1.start,I (B4 x mv a b s units (t,now)).1.dirs.x,I (B4 x mv a b s units (t,now)).1.dirs.y,I (B4 x mv a b s units (t,now)).1.dirs.z])):=
 Zn3 hx h hn hm hk hu (Z0i now a b hv) (Zrz x) λh1 h2 h3 h4 h5=>Zni h1 h2 h3 h4 h5
def FE (l:List Sgm) (j:Nat):Rw:=(List.range j).map λi=>[I (Av l i)]
theorem SE (l:List Sgm) (j:Nat):(FE l j).length=j:=by simp[FE]
theorem Zau (l:List Sgm) (j:Nat):FE l (j+1)=FE l j++[[I (Av l j)]]:=by unfold FE;rw[List.range_succ,bt];rfl
theorem Ztg {l:List Sgm} {n i:Nat} (h:i<n):nth [] (FE l n) i=[I (Av l i)]:=by
 have hlt:i<(FE l n).length:=by rw[SE];exact h
 rw[Gz [] _ i hlt];simp[FE]
abbrev QJ (p:Pth) (x:Ax3) (lo hi mv:Int) (t:Trk) (now:Pt) (at_:Int) (bl:Rw) (j:Nat):List AC:=
 [.view Aa bl, .view At (t.aD.map AL),I lo,I hi,I mv,I at_, .view Ai (p.aE.map AB),I p.aE.length,I j,I p.start.x,I p.start.y,I p.start.z, .view Ai (p.aE.map AB), .view AH (p.aC.map Au),I now.x,I now.y,I now.z,I mv,I x.a.step,I x.a.speed,I x.a.accel,I x.a.jerk,I x.a.low,I x.a.high,I x.a.back,I x.a.origin,I x.a.spacing, .view Aa (x.a.pitch.map Aq),I x.b.step,I x.b.speed,I x.b.accel,I x.b.jerk,I x.b.low,I x.b.high,I x.b.back,I x.b.origin,I x.b.spacing, .view Aa (x.b.pitch.map Aq),I x.c.step,I x.c.speed,I x.c.accel,I x.c.jerk,I x.c.low,I x.c.high,I x.c.back,I x.c.origin,I x.c.spacing, .view Aa (x.c.pitch.map Aq),I t.length,I t.start,I t.dirs.x,I t.dirs.y,I t.dirs.z]
theorem Qs0 {M:Fn} {p:Pth} {x:Ax3} {lo hi mv:Int} {t:Trk} {now:Pt} (h:SegOK p.aE):∀(k j:Nat),j+k=p.aE.length->
  Am (Sa M) (QJ p x lo hi mv t now (Av p.aE j) (FE p.aE j) j)=some (1,[.view Aa (FE p.aE p.aE.length), .view At (t.aD.map AL),I lo,I hi,I mv,I p.start.x,I p.start.y,I p.start.z, .view Ai (p.aE.map AB), .view AH (p.aC.map Au),I now.x,I now.y,I now.z,I mv,I x.a.step,I x.a.speed,I x.a.accel,I x.a.jerk,I x.a.low,I x.a.high,I x.a.back,I x.a.origin,I x.a.spacing, .view Aa (x.a.pitch.map Aq),I x.b.step,I x.b.speed,I x.b.accel,I x.b.jerk,I x.b.low,I x.b.high,I x.b.back,I x.b.origin,I x.b.spacing, .view Aa (x.b.pitch.map Aq),I x.c.step,I x.c.speed,I x.c.accel,I x.c.jerk,I x.c.low,I x.c.high,I x.c.back,I x.c.origin,I x.c.spacing, .view Aa (x.c.pitch.map Aq),I t.length,I t.start,I t.dirs.x,I t.dirs.y,I t.dirs.z])
 |0,j,hj=>by
  have hj':j=p.aE.length:=by omega
  refine Bf (o:=(1,_)) ?_ (by simp);rw[Qp1,A3 (by omega),hj']
 |k+1,j,hj=>by
  have hlt:j<p.aE.length:=by omega
  have hcnt:=h.count;have hpos:=Qj2 h j (by omega);have hg:=h.seg _ (GL hlt);have hst:Sa M (QJ p x lo hi mv t now (Av p.aE j) (FE p.aE j) j)=some (0,QJ p x lo hi mv t now (Av p.aE (j+1)) (FE p.aE (j+1)) (j+1)):=by
   have hle:(FE p.aE j++[[I (Av p.aE j)]]).length*8<=140737488355328:=by rw[ao,SE];simp only[bf,cq];omega
   have e1:wrap .i64 ((j:Int)+1)=((j+1:Nat):Int):=by rw[Ae (by omega)];omega
   rw[Qp1];simp only[go_sem,ag,aj,L2 hlt,aa hle,e1,Zau];rw[aa (by omega),aa (by omega),Ae (x:=Av p.aE j+(sgA p.aE j).len) (by omega),Nl hlt]
  rw[BC hst];exact Qs0 h k (j+1) (by omega)
abbrev QG (p:Pth) (x:Ax3) (lo hi mv:Int) (t:Trk) (now:Pt) (j:Nat):List AC:=
 [.view Aa (FE p.aE p.aE.length), .view At (t.aD.map AL),I lo,I hi,I mv,I p.aE.length,I j,I p.start.x,I p.start.y,I p.start.z, .view Ai (p.aE.map AB), .view AH (p.aC.map Au),I now.x,I now.y,I now.z,I mv,I x.a.step,I x.a.speed,I x.a.accel,I x.a.jerk,I x.a.low,I x.a.high,I x.a.back,I x.a.origin,I x.a.spacing, .view Aa (x.a.pitch.map Aq),I x.b.step,I x.b.speed,I x.b.accel,I x.b.jerk,I x.b.low,I x.b.high,I x.b.back,I x.b.origin,I x.b.spacing, .view Aa (x.b.pitch.map Aq),I x.c.step,I x.c.speed,I x.c.accel,I x.c.jerk,I x.c.low,I x.c.high,I x.c.back,I x.c.origin,I x.c.spacing, .view Aa (x.c.pitch.map Aq),I t.length,I t.start,I t.dirs.x,I t.dirs.y,I t.dirs.z]
abbrev F9 (x:Ax3) (mv:Int) (t:Trk) (now:Pt):List AC:=[.view At (t.aD.map AL),I now.x,I now.y,I now.z,I mv,I x.a.step,I x.a.speed,I x.a.accel,I x.a.jerk,I x.a.low,I x.a.high,I x.a.back,I x.a.origin,I x.a.spacing, .view Aa (x.a.pitch.map Aq),I x.b.step,I x.b.speed,I x.b.accel,I x.b.jerk,I x.b.low,I x.b.high,I x.b.back,I x.b.origin,I x.b.spacing, .view Aa (x.b.pitch.map Aq),I x.c.step,I x.c.speed,I x.c.accel,I x.c.jerk,I x.c.low,I x.c.high,I x.c.back,I x.c.origin,I x.c.spacing, .view Aa (x.c.pitch.map Aq),I t.length,I t.start,I t.dirs.x,I t.dirs.y,I t.dirs.z]
theorem Zcq {MV:Fn} {N:Lp} {p:Pth} {x:Ax3} {lo hi mv:Int} {t:Trk} {now:Pt} {n m:Int} {j:Nat} (hv:mv=1\/mv= -1) (hp:GoodPath p) (hx:Ax3OK x) (h:TB t n m) (hn:n<=9000000) (hm:m<=900000000000000000)
  (hj:j<p.aE.length)
  (hV:∀{a b:Pt} {s units:Int},(0<=units/\units<=268435456)->MV [.view At (t.aD.map AL),I a.x,I a.y,I a.z,I b.x,I b.y,I b.z,I s,I units,I now.x,I now.y,I now.z,I mv,I x.a.step,I x.a.speed,I x.a.accel,I x.a.jerk,I x.a.low,I x.a.high,I x.a.back,I x.a.origin,I x.a.spacing, .view Aa (x.a.pitch.map Aq),I x.b.step,I x.b.speed,I x.b.accel,I x.b.jerk,I x.b.low,I x.b.high,I x.b.back,I x.b.origin,I x.b.spacing, .view Aa (x.b.pitch.map Aq),I x.c.step,I x.c.speed,I x.c.accel,I x.c.jerk,I x.c.low,I x.c.high,I x.c.back,I x.c.origin,I x.c.spacing, .view Aa (x.c.pitch.map Aq),I t.length,I t.start,I t.dirs.x,I t.dirs.y,I t.dirs.z]=some (F9 x mv (B4 x mv a b s units (t,now)).1 (B4 x mv a b s units (t,now)).2)):
  RX MV N (QG p x lo hi mv t now j)=some (0,QG p x lo hi mv (Ct p x mv lo hi (C5 p.aE.length mv j) (t,now)).1 (Ct p x mv lo hi (C5 p.aE.length mv j) (t,now)).2 (j+1)):=by
 have hok:=hp.ok;have hcnt:=hok.count;have hil0:=SK mv hj;have hcase:(mv=1/\C5 p.aE.length mv j=j)\/(mv= -1/\C5 p.aE.length mv j=p.aE.length-1-j):=by
  unfold C5;rcases hv with rfl|rfl
  ·exact .inl ⟨rfl,ab (by omega)⟩
  ·exact .inr ⟨rfl,aa (by omega)⟩
 obtain⟨i,hix⟩:∃i,C5 p.aE.length mv j=i:=⟨_,rfl⟩;rw[hix]at hil0 hcase⊢;have hil:i<p.aE.length:=hil0;have hg:=hok.seg _ (GL hil);have hr:=L2 hil;have hb:=Ztg (l:=p.aE) hil;have hpos:=Qj2 hok i (by omega);have hsucc:=Nl hil;have hin:(0:Int)<=(i:Nat)/\(i:Int)<(p.aE.length:Int):=by omega
 have hin0:(j:Int)<(p.aE.length:Int):=by omega
 have e1:wrap .i64 ((j:Int)+1)=((j+1:Nat):Int):=by rw[Ae (by omega)];omega
 have hI:wrap .i64 (wrap .i64 ((p.aE.length:Int)-1)-(j:Int))=((p.aE.length-1-j:Nat):Int):=by rw[Ae (x:=(p.aE.length:Int)-1) (by omega),Ae (by omega)];omega
 have hw:wrap .i64 (Av p.aE i+(sgA p.aE i).len)=Av p.aE (i+1):=by rw[hsucc,Ae (by omega)]
 have hwd:max (Av p.aE i) lo<min (Av p.aE (i+1)) hi->wrap .i64 (min (Av p.aE (i+1)) hi-max (Av p.aE i) lo)=min (Av p.aE (i+1)) hi-max (Av p.aE i) lo:=λ_=>Ae (by omega);have hd:max (Av p.aE i) lo<min (Av p.aE (i+1)) hi->0<=min (Av p.aE (i+1)) hi-max (Av p.aE i) lo/\min (Av p.aE (i+1)) hi-max (Av p.aE i) lo<=268435456:=λ_=>by omega
 have hI1:i≠0->wrap .i64 ((i:Int)-1)=((i-1:Nat):Int)/\((0:Int)<=((i-1:Nat):Int)/\((i-1:Nat):Int)<(p.aE.length:Int))/\nth [] (p.aE.map AB) (i-1)=AB (sgA p.aE (i-1))/\Ef p.start p.aE i=(sgA p.aE (i-1)).to:=by
  intro h0;refine⟨by rw[Ae (by omega)];omega,by omega,L2 (by omega),?_⟩;obtain⟨q,rfl⟩:∃q,i=q+1:=⟨i-1,by omega⟩;exact T4 (by omega)
 unfold Ct;rw[Q3m];rcases hcase with⟨rfl,rfl⟩|⟨rfl,ei⟩
 ·simp only[go_sem,ag,SE,aj,hr,hb,aa hin,aa hin0,NX,Kj,hw,e1];rw[ab (by omega)];by_cases c:max (Av p.aE i) lo<min (Av p.aE (i+1)) hi
  ·rw[ab (by omega),aa c,hwd c];by_cases c0:i=0
   ·rw[ab (by omega)];have hV':=hV (a:=p.start) (b:=(sgA p.aE i).to) (s:=max (Av p.aE i) lo) (hd c);subst c0;rw[JK];rw[ab (by omega),hV'];simp only[F9,go_sem];rfl
   ·obtain⟨k1,k2,k3,k4⟩:=hI1 c0;rw[aa (by omega),k1];have hV':=hV (a:=(sgA p.aE (i-1)).to) (b:=(sgA p.aE i).to) (s:=max (Av p.aE i) lo) (hd c);rw[k4];simp only[aj,k3,go_sem,aa k2];rw[ab (by omega),hV'];simp only[F9,go_sem];rfl
  ·rw[aa (by omega),ab c]
 ·rw[<-ei]at hI;simp only[go_sem,ag,SE,hI,aj,hr,hb,aa hin,aa hin0,NX,Kj,hw,e1];rw[aa (by omega)];by_cases c:max (Av p.aE i) lo<min (Av p.aE (i+1)) hi
  ·rw[ab (by omega),aa c,hwd c];by_cases c0:i=0
   ·rw[ab (by omega)];have hV':=hV (a:=p.start) (b:=(sgA p.aE i).to) (s:=min (Av p.aE (i+1)) hi) (hd c);subst c0;rw[JK];rw[aa (by omega),hV'];simp only[F9,go_sem];rfl
   ·obtain⟨k1,k2,k3,k4⟩:=hI1 c0;rw[aa (by omega),k1];have hV':=hV (a:=(sgA p.aE (i-1)).to) (b:=(sgA p.aE i).to) (s:=min (Av p.aE (i+1)) hi) (hd c);rw[k4];simp only[aj,k3,go_sem,aa k2];rw[aa (by omega),hV'];simp only[F9,go_sem];rfl
  ·rw[aa (by omega),ab c]
def pcA (l:List Pce) (i:Nat):Pce:=l.getD i pc0
def eI (l:List Pce) (i:Nat):Int:=(pcA l i).at_+(pcA l i).units
def fI:List Pce->Int->Nat
 |[],_=>0
 |c::l,u=>if u<=c.at_+c.units then 0 else fI l u+1
theorem Hr (c:Pce) (l:List Pce) (i:Nat):pcA (c::l) (i+1)=pcA l i:=by unfold pcA;simp
theorem JN (c:Pce) (l:List Pce):pcA (c::l) 0=c:=by unfold pcA;simp
theorem R1 {l:List Pce} {i:Nat} (h:i<l.length):nth [] (l.map AL) i=AL (pcA l i):=by
 have e:pcA l i=l[i]:=by unfold pcA;simp[h]
 rw[e];exact Je _ _ _ _ h
theorem Ra:∀{l:List Pce} {u:Int} {j:Nat},j<l.length->u<=eI l j->fI l u<=j
 |c::l,u,0,_,h=>by
  unfold eI at h;rw[JN]at h;unfold fI;rw[aa h];exact bz _
 |c::l,u,j+1,hj,h=>by
  unfold fI;by_cases c0:u<=c.at_+c.units
  ·rw[aa c0];omega
  ·rw[ab c0];have:fI l u<=j:=Ra (by simpa using hj) (by unfold eI at h⊢;rw[Hr]at h;exact h);omega
theorem Qr4:∀{l:List Pce} {u:Int},fI l u<l.length->u<=eI l (fI l u)
 |[],_,h=>by simp at h
 |c::l,u,h=>by
  unfold fI at h⊢;by_cases c0:u<=c.at_+c.units
  ·rw[aa c0];unfold eI;rw[JN];exact c0
  ·rw[ab c0]at h⊢;have:=Qr4 (l:=l) (u:=u) (by simpa using h);unfold eI at this⊢;rw[Hr];exact this
structure TQ (t : Trk) : Prop where
 count:t.aD.length<=10000000
 len:0<=t.length/\t.length<=900000000000000
 pos:∀i,i<t.aD.length->0<=(pcA t.aD i).at_/\1<=(pcA t.aD i).units/\eI t.aD i<=t.length
 mono:∀i j,i<=j->j<t.aD.length->eI t.aD i<=eI t.aD j
 last:t.aD≠[]->eI t.aD (t.aD.length-1)=t.length
 start:0<=t.start/\t.start<=263886834032640
 s:∀i,i<t.aD.length-> -900000000000000<=(pcA t.aD i).s/\(pcA t.aD i).s<=2000000000000000
 move:∀i,i<t.aD.length->(pcA t.aD i).move=0\/(pcA t.aD i).move=1\/(pcA t.aD i).move= -1
def clT (t:Trk) (u:Int):Int:=A5 u t.length
theorem OE {t:Trk} (h:TQ t) (u:Int):0<=clT t u/\clT t u<=t.length:=by have:=h.len;unfold clT A5;omega
def iT (t:Trk) (u:Int):Nat:=fI t.aD (clT t u)
theorem Mi {t:Trk} (h:TQ t) (u:Int) (hne:t.aD≠[]):iT t u<t.aD.length:=by
 have hp:0<t.aD.length:=by
  cases hh:t.aD with
  |nil=>exact absurd hh hne
  |cons _ _=>simp
 have:=Ra (l:=t.aD) (u:=clT t u) (j:=t.aD.length-1) (by omega) (by rw[h.last hne];exact(OE h u).2);unfold iT;omega
def AK (t:Trk) (u:Int):Int:=if t.aD=[]then t.start else(pcA t.aD (iT t u)).s+(pcA t.aD (iT t u)).move*(clT t u-(pcA t.aD (iT t u)).at_)
theorem UZ {t:Trk} (h:TQ t) {u:Int} (hi:fI t.aD u<t.aD.length):∀(k lo hi:Nat),hi-lo<=k->lo<=fI t.aD u->fI t.aD u<=hi->hi<t.aD.length->
  Am Re [I u,I lo,I hi, .view At (t.aD.map AL),I t.length,I t.start,I t.dirs.x,I t.dirs.y,I t.dirs.z]=some (1,[I (fI t.aD u)])
 |k,lo,hi,hk,h1,h2,h3=>by
  have hcnt:=h.count;have hl:=h.len;by_cases c:lo<hi
  ·have em:wrap .i64 ((wrap .i64 ((lo:Int)+hi)).tdiv 2)=(((lo+hi)/2:Nat):Int):=by
    rw[Ae (x:=(lo:Int)+hi) (by omega),bj (by omega),Ae (by omega)];omega
   have hm1:lo<=(lo+hi)/2/\(lo+hi)/2<hi:=by omega
   generalize(lo+hi)/2=m at*;have hlt:m<t.aD.length:=by omega
   have hpos:=h.pos m hlt;have hin:(0:Int)<=(m:Int)/\(m:Int)<(t.aD.length:Int):=by omega
   have hw:wrap .i64 ((pcA t.aD m).at_+(pcA t.aD m).units)=eI t.aD m:=by unfold eI at hpos⊢;exact Ae (by omega)
   have hst:Re [I u,I lo,I hi, .view At (t.aD.map AL),I t.length,I t.start,I t.dirs.x,I t.dirs.y,I t.dirs.z]=if u<=eI t.aD m then some (0,[I u,I lo,I m, .view At (t.aD.map AL),I t.length,I t.start,I t.dirs.x,I t.dirs.y,I t.dirs.z])else some (0,[I u,I (m+1:Nat),I hi, .view At (t.aD.map AL),I t.length,I t.start,I t.dirs.x,I t.dirs.y,I t.dirs.z]):=by
    rw[Qoq,em];simp only[go_sem,ag,aj,R1 hlt,aa hin,hw,Ae (x:=(m:Int)+1) (by omega)];rw[aa (by omega)];rfl
   by_cases c2:u<=eI t.aD m
   ·rw[aa c2]at hst;rw[BC hst];cases k with
    |zero=>omega
    |succ k=>exact UZ h (by omega) k lo m (by omega) h1 (Ra hlt c2) hlt
   ·rw[ab c2]at hst;rw[BC hst];have hgt:m<fI t.aD u:=by
     by_cases c3:fI t.aD u<=m
     ·exact absurd (Int.le_trans (Qr4 (by omega)) (h.mono _ _ c3 hlt)) c2
     ·omega
    cases k with
    |zero=>omega
    |succ k=>exact UZ h (by omega) k (m+1) hi (by omega) (by omega) h2 h3
  ·refine Bf (o:=(1,_)) ?_ (by simp);rw[Qoq,A3 (by omega),show fI t.aD u=hi by omega]
theorem Q9e {t:Trk} (h:TQ t) (u:Int):Jf (A_ t++[I (clT t u)])=some [I (if t.aD=[]then-1 else(iT t u:Int))]:=by
 have he:=Zme K2 (t.aD.map AL) t.length t.start t.dirs.x t.dirs.y t.dirs.z (clT t u);unfold Jf;refine Eq.trans he ?_;rw[ag];have hcnt:=h.count;by_cases c:t.aD=[]
 ·have hl:K2 [I (clT t u),I 0,I (-1), .view At (t.aD.map AL),I t.length,I t.start,I t.dirs.x,I t.dirs.y,I t.dirs.z]=some (1,[I (-1)]):=by
   refine Bf (o:=(1,_)) ?_ (by simp);rw[Qoq,A3 (by omega)]
  have e1:wrap .i64 ((t.aD.length:Int)-1)= -1:=by rw[c];rfl
  rw[aa c,e1];generalize K2=N at*;simp only[hl,go_sem]
 ·have hp:0<t.aD.length:=by
   cases hh:t.aD with
   |nil=>exact absurd hh c
   |cons _ _=>simp
  have hi:=Mi h u c;have hl:=UZ h (u:=clT t u) hi t.aD.length 0 (t.aD.length-1) (by omega) (by omega) (by unfold iT at hi;omega) (by omega);have hl':K2 [I (clT t u),I 0,I (t.aD.length-1:Nat), .view At (t.aD.map AL),I t.length,I t.start,I t.dirs.x,I t.dirs.y,I t.dirs.z]=some (1,[I (iT t u:Int)]):=hl;have e1:wrap .i64 ((t.aD.length:Int)-1)=((t.aD.length-1:Nat):Int):=by rw[Ae (by omega)];omega
  rw[ab c,e1];generalize K2=N at*;simp only[hl',go_sem]
theorem Ztc {t:Trk} (h:TQ t) (u:Int) (hne:t.aD≠[]):
  wrap .i64 ((pcA t.aD (iT t u)).s+wrap .i64 ((pcA t.aD (iT t u)).move*wrap .i64 (clT t u-(pcA t.aD (iT t u)).at_)))=AK t u:=by
 have hi:=Mi h u hne;have h1:=h.pos _ hi;have h2:=h.s _ hi;have h3:=h.move _ hi;have h4:=OE h u;have h5:=h.len;unfold AK eI at*;rw[ab hne,Ae (x:=clT t u-_) (by omega)];generalize pcA t.aD (iT t u)=c at*;have hb:(-900000000000000<=c.move*(clT t u-c.at_)/\c.move*(clT t u-c.at_)<=900000000000000):=by
  rcases h3 with h3|h3|h3<;>rw[h3]<;>omega
 rw[Ae (x:=c.move*_) (by omega),Ae (by omega)]
theorem Z0u {MF MC:Fn} {t:Trk} (h:TQ t) {u:Int} (hC:MC [I u,I t.length]=some [I (clT t u)]) (hM:MF (A_ t++[I (clT t u)])=some [I (if t.aD=[]then-1 else(iT t u:Int))]):WM MF MC (A_ t++[I u])=some [I (AK t u)]:=by
 have he:=Zbu MF MC (t.aD.map AL) t.length t.start t.dirs.x t.dirs.y t.dirs.z u;refine Eq.trans he ?_;simp only[A_,ax,az]at hM;by_cases c:t.aD=[]
 ·rw[aa c]at hM;simp only[hC,hM,go_sem];rw[aa (by omega)];unfold AK;rw[aa c]
 ·have hi:=Mi h u c;have hcnt:=h.count;have hin:(0:Int)<=(iT t u:Int)/\(iT t u:Int)<(t.aD.length:Int):=by omega
  rw[ab c]at hM;simp only[hC,hM,go_sem,ag,aa hin,aj,R1 hi,Ztc h u c];rw[ab (by omega)]
theorem OH {t:Trk} (h:TQ t) (u:Int):Dr (A_ t++[I u])=some [I (AK t u)]:=Z0u h XR (Q9e h u)
def Ib (sp:Int) (l:List Int):Prop:=(∀v∈l,-4096<=v/\v<=4096)/\∀i,i+1<l.length-> -sp<=4*(l.getD (i+1) 0-l.getD i 0)/\4*(l.getD (i+1) 0-l.getD i 0)<=sp
structure AxOK (a : Axs) : Prop where
 step:4<=a.step/\a.step<=64
 back:0<=a.back/\a.back<=6
 origin: -200<=a.origin/\a.origin<=200
 spacing:a.pitch≠[]->4<=a.spacing/\a.spacing<=123
 pitch:Ib a.spacing a.pitch
 count:a.pitch.length<=4
 lim:1<=a.speed/\a.speed<=1000/\2<=a.accel/\a.accel<=1000/\4<=a.jerk/\a.jerk<=1000/\a.low= -16777216/\a.high=16777216
theorem TA {l m:List Int} {i:Nat} (h:i<l.length):(l++m).getD i 0=l.getD i 0:=by simp[List.getD_eq_getElem?_getD,List.getElem?_append_left h]
theorem Zks (l m:List Int) (v:Int):(l++v::m).getD l.length 0=v:=by simp[List.getD_eq_getElem?_getD]
theorem Zhj {sp v w:Int} {l:List Int} (h:Ib sp (l++[v])) (hw: -4096<=w/\w<=4096) (hd: -sp<=4*(w-v)/\4*(w-v)<=sp):Ib sp (l++[v]++[w]):=by
 refine⟨?_,?_⟩
 ·intro x hx;rcases bm.1 hx with hx|hx
  ·exact h.1 x hx
  ·rw[dm]at hx;subst hx;exact hw
 ·intro i hi;simp only[ao,bf,cq]at hi;by_cases c:i+1<(l++[v]).length
  ·have:=h.2 i c;have c':i<(l++[v]).length:=by omega
   rw[TA c,TA c'];exact this
  ·simp only[ao,bf,cq]at c;have e:i=l.length:=by omega
   subst e;have g1:(l++[v]++[w]).getD (l.length+1) 0=w:=by
    simp
   have g2:(l++[v]++[w]).getD l.length 0=v:=by
    rw[dh];exact Zks l ([]++[w]) v
   rw[g1,g2];exact hd
theorem Zwf {sp v:Int} {l:List Int} (h:Ib sp (l++[v])):Ib sp l:=by
 refine⟨λx hx=>h.1 x (by simp[hx]),λi hi=> ?_⟩;have:=h.2 i (by simp;omega);rw[TA hi,TA (by omega)]at this;exact this
theorem Zg7 {sp v:Int} (hv: -4096<=v/\v<=4096):Ib sp ([]++[v]):=⟨λx hx=>by simp at hx;subst hx;exact hv,λi hi=>by simp at hi⟩
theorem Zfr {v:Int} (h:0<=v/\v<6):∃x,Ag (nth .dead (nth [] [[I 8],[I 4],[I 5],[I 16],[I 23],[I 64]] v.toNat) 0)=x/\4<=x/\x<=64:=by
 have hc:v=0\/v=1\/v=2\/v=3\/v=4\/v=5:=by omega
 rcases hc with rfl|rfl|rfl|rfl|rfl|rfl<;>exact⟨_,rfl,by decide⟩
theorem Qgy {v:Int} (h:0<=v/\v<5):∃x y z,Ag (nth .dead (nth [] [[I 40],[I 1],[I 3],[I 9],[I 1000]] v.toNat) 0)=x/\Ag (nth .dead (nth [] [[I 20],[I 2],[I 3],[I 5],[I 1000]] v.toNat) 0)=y/\Ag (nth .dead (nth [] [[I 30],[I 4],[I 5],[I 8],[I 1000]] v.toNat) 0)=z/\1<=x/\x<=1000/\2<=y/\y<=1000/\4<=z/\z<=1000:=by
 have hc:v=0\/v=1\/v=2\/v=3\/v=4:=by omega
 rcases hc with rfl|rfl|rfl|rfl|rfl<;>exact⟨_,_,_,rfl,rfl,rfl,by decide⟩
theorem Zqm {v:Int} (h:0<=v/\v<4):∃x,Ag (nth .dead (nth [] [[I 0],[I 1],[I 3],[I 6]] v.toNat) 0)=x/\0<=x/\x<=6:=by
 have hc:v=0\/v=1\/v=2\/v=3:=by omega
 rcases hc with rfl|rfl|rfl|rfl<;>exact⟨_,rfl,by decide⟩
abbrev axS (l:Rw) (pit:List Int) (n v:Int) (j:Nat) (a:Axs) (k:Nat):List AC:=
 [.view Aa [], .view Aa (pit.map Aq),I n,I v,I j,I 0,I 0,I 0,I 0,I 0,I 0,I 0,I 0,I 0,I a.step,I a.speed,I a.accel,I a.jerk,I a.low,I a.high,I a.back,I a.origin,I a.spacing, .view Aa l,I k]
theorem Qxl {MN:Fn} {l:Rw} (hN:Hj l MN) {a:Axs} (hsp:4<=a.spacing/\a.spacing<=123):∀(r j:Nat) (pit:List Int) (v:Int) (k:Nat),j+r<=4->pit.length=j->Ib a.spacing (pit++[v])->
  ∃(pit':List Int) (k':Nat),Am (Rh MN) (axS l pit (j+r:Nat) v j a k)=some (1,[.view Aa [], .view Aa (pit'.map Aq),I 0,I 0,I 0,I 0,I 0,I 0,I 0,I 0,I 0,I a.step,I a.speed,I a.accel,I a.jerk,I a.low,I a.high,I a.back,I a.origin,I a.spacing, .view Aa l,I k'])/\pit'.length=j+r/\Ib a.spacing pit'
 |0,j,pit,v,k,_,hl,h=>by
  refine⟨pit,k,Bf (o:=(1,_)) ?_ (by simp),by omega,Zwf h⟩;rw[Q13,A3 (by omega)]
 |r+1,j,pit,v,k,hj,hl,h=>by
  have hv:=h.1 v (by simp);have e4:wrap .i64 (a.spacing.tdiv 4)=a.spacing/4:=by rw[bj (by omega),Ae (by omega)]
  have e5:wrap .i64 (wrap .i64 (2*(a.spacing/4))+1)=2*(a.spacing/4)+1:=by rw[Ae (x:=2*(a.spacing/4)) (by omega),Ae (by omega)]
  obtain⟨w,k1,hw,w0,w1,-⟩:=hN k (n:=2*(a.spacing/4)+1) (by omega);have e6:wrap .i64 (wrap .i64 (v+w)-a.spacing/4)=v+w-a.spacing/4:=by rw[Ae (x:=v+w) (by omega),Ae (by omega)]
  have hle:(pit.map Aq++[[I v]]).length*8<=140737488355328:=by rw[ao,ag];simp only[bf,cq];omega
  have hst:Rh MN (axS l pit (j+(r+1):Nat) v j a k)=some (0,axS l (pit++[v]) (j+1+r:Nat) (min (max (v+w-a.spacing/4) (-4096)) 4096) (j+1) a k1):=by
   rw[Q13];simp only[go_sem,aa hle,e4,e5,hw,e6,Kj,NX];rw[aa (by omega),Ae (x:=(j:Int)+1) (by omega),show j+(r+1)=j+1+r by omega];simp only[axS,bt,bh,dk,Aq,Int.natCast_add,Int.cast_ofNat_Int]
  rw[BC hst];obtain⟨p',k',h1,h2,h3⟩:=Qxl hN hsp r (j+1) (pit++[v]) (min (max (v+w-a.spacing/4) (-4096)) 4096) k1 (by omega) (by simp[hl]) (Zhj h (by omega) (by omega));exact⟨p',k',h1,by omega,h3⟩
theorem Znj {MN:Fn} {N:Lp} {l:Rw} (hN:Hj l MN)
  (hL:∀{a:Axs} {n:Nat} {v:Int} {k:Nat},(4<=a.spacing/\a.spacing<=123)->n<=4->Ib a.spacing ([]++[v])->∃(pit':List Int) (k':Nat),N (axS l [] n v 0 a k)=some (1,[.view Aa [], .view Aa (pit'.map Aq),I 0,I 0,I 0,I 0,I 0,I 0,I 0,I 0,I 0,I a.step,I a.speed,I a.accel,I a.jerk,I a.low,I a.high,I a.back,I a.origin,I a.spacing, .view Aa l,I k'])/\pit'.length=n/\Ib a.spacing pit') (k:Nat):
  ∃(a:Axs) (k':Nat),Qce MN N [.view Aa l,I k]=some (Br a++[.view Aa l,I k'])/\AxOK a:=by
 obtain⟨v1,k1,h1,a1,b1,-⟩:=hN k (n:=6) (by omega);obtain⟨v2,k2,h2,a2,b2,-⟩:=hN k1 (n:=4) (by omega);obtain⟨v3,k3,h3,a3,b3,-⟩:=hN k2 (n:=5) (by omega);obtain⟨v4,k4,h4,a4,b4,-⟩:=hN k3 (n:=5) (by omega);obtain⟨v5,k5,h5,a5,b5,-⟩:=hN k4 (n:=5) (by omega);obtain⟨v6,k6,h6,a6,b6,-⟩:=hN k5 (n:=5) (by omega);obtain⟨v7,k7,h7,a7,b7,-⟩:=hN k6 (n:=400) (by omega);obtain⟨v8,k8,h8,a8,b8,-⟩:=hN k7 (n:=120) (by omega);obtain⟨v9,k9,h9,a9,b9,-⟩:=hN k8 (n:=9) (by omega);obtain⟨x1,e1,s1⟩:=Zfr ⟨a1,b1⟩;obtain⟨x2,e2,s2⟩:=Zqm ⟨a2,b2⟩;have i1:(0:Int)<=v1/\v1<(([[I 8],[I 4],[I 5],[I 16],[I 23],[I 64]]:Rw).length:Int):=⟨a1,by simp;omega⟩;have i2:(0:Int)<=v2/\v2<(([[I 0],[I 1],[I 3],[I 6]]:Rw).length:Int):=⟨a2,by simp;omega⟩;have i3:(0:Int)<=v3/\v3<(([[I 40],[I 1],[I 3],[I 9],[I 1000]]:Rw).length:Int):=⟨a3,by simp;omega⟩;have i4:(0:Int)<=v4/\v4<(([[I 20],[I 2],[I 3],[I 5],[I 1000]]:Rw).length:Int):=⟨a4,by simp;omega⟩;have i5:(0:Int)<=v5/\v5<(([[I 30],[I 4],[I 5],[I 8],[I 1000]]:Rw).length:Int):=⟨a5,by simp;omega⟩;obtain⟨x3,_,_,hx3,-,-,s3,t3,-⟩:=Qgy ⟨a3,b3⟩;obtain⟨_,x4,_,-,hx4,-,-,-,s4,t4,-⟩:=Qgy ⟨a4,b4⟩;obtain⟨_,_,x5,-,-,hx5,-,-,-,-,s5,t5⟩:=Qgy ⟨a5,b5⟩;have main : ∀ R, R = (if v6 = 0 then some [I x1, I x3, I x4, I x5, I (-16777216), I 16777216, I x2, I 0, I 0, .view Aa [], .view Aa l, I k6] else
   (N (axS l [] v6.toNat (v9-4) 0 ⟨x1,x3,x4,x5,-16777216,16777216,x2,v7-200,4+v8,[]⟩ k9)).bind λo=>if o.1=1 then some [I (Ag (nth .dead o.2 11)),I (Ag (nth .dead o.2 12)),I (Ag (nth .dead o.2 13)),I (Ag (nth .dead o.2 14)),I (Ag (nth .dead o.2 15)),I (Ag (nth .dead o.2 16)),I (Ag (nth .dead o.2 17)),I (Ag (nth .dead o.2 18)),I (Ag (nth .dead o.2 19)), .view Aa (BV (nth .dead o.2 1)), .view Aa (BV (nth .dead o.2 20)),I (Ag (nth .dead o.2 21))]else none)->
   ∃(a:Axs) (k':Nat),R=some (Br a++[.view Aa l,I k'])/\AxOK a:=by
  intro R hR;by_cases c:v6=0
  ·rw[aa c]at hR;refine⟨⟨x1,x3,x4,x5,-16777216,16777216,x2,0,0,[]⟩,k6,hR,?_⟩;exact⟨s1,s2,by simp,λh=>absurd rfl h,⟨by simp,by simp⟩,by simp,⟨s3,t3,s4,t4,s5,t5,rfl,rfl⟩⟩
  ·rw[ab c]at hR;obtain⟨pit,k',g1,g2,g3⟩:=hL (a:=⟨x1,x3,x4,x5,-16777216,16777216,x2,v7-200,4+v8,[]⟩) (n:=v6.toNat) (v:=v9-4) (k:=k9) (by simp only;omega) (by omega) (Zg7 (by omega));rw[g1]at hR;refine⟨⟨x1,x3,x4,x5,-16777216,16777216,x2,v7-200,4+v8,pit⟩,k',?_,?_⟩
   ·rw[hR];simp only[go_sem];try rfl
   ·exact⟨s1,s2,by simp only;omega,λ_=>by simp only;omega,g3,by simp only;omega,⟨s3,t3,s4,t4,s5,t5,rfl,rfl⟩⟩
 refine main _ ?_;rw[Zud];simp only[go_sem,h1,h2,h3,h4,h5,h6,aa i1,aa i2,aa i3,aa i4,aa i5,e1,e2,hx3,hx4,hx5];by_cases c:v6=0
 ·rw[aa c,aa c]
 ·rw[ab c,ab c];simp only[h7,h8,h9,go_sem,Ae (x:=v9-4) (by omega),Ae (x:=v7-200) (by omega),Ae (x:=4+v8) (by omega)];have e:((v6.toNat:Nat):Int)=v6:=by omega
  simp only[axS,e,dk];rfl
theorem VR {l:Rw} (hl:Src l) (k:Nat):∃(a:Axs) (k':Nat),Oi [.view Aa l,I k]=some (Br a++[.view Aa l,I k'])/\AxOK a:=by
 refine Znj (N:=Y8) (HV hl) (fun{a n v k} hs hn hv=> ?_) k;obtain⟨p,k',h1,h2,h3⟩:=Qxl (MN:=BJ) (HV hl) hs n 0 [] v k (by omega) rfl hv;rw[Nat.zero_add]at h1 h2;exact⟨p,k',h1,h2,h3⟩
structure Ax3M (x : Ax3) : Prop where
 a:AxOK x.a
 b:AxOK x.b
 c:AxOK x.c
theorem Ax3M.ok {x:Ax3} (h:Ax3M x):Ax3OK x:=⟨by have:=h.a.back;omega,by have:=h.b.back;omega,by have:=h.c.back;omega⟩
theorem Z0a {l:Rw} (hl:Src l):∃x:Ax3,NW [.view Aa l]=some (AI x)/\Ax3M x:=by
 obtain⟨a,k1,h1,g1⟩:=VR hl 0;obtain⟨b,k2,h2,g2⟩:=VR hl k1;obtain⟨c,k3,h3,g3⟩:=VR hl k2;refine⟨⟨a,b,c⟩,?_,g1,g2,g3⟩;have hf:=Q2 l;unfold NW;generalize Oi=MA at*;generalize CO=MF at*;rw[Z0z];have h1':MA [.view Aa l,I 0]=some (Br a++[.view Aa l,I k1]):=h1;simp only[Br,ax,az]at h1' h2 h3;simp only[go_sem,hf,h1',h2,h3]
theorem Z2z {p:Pth} {x:Ax3} {mv lo hi f:Int} {d:Pt} (j:Nat):(Bi p x mv lo hi (⟨[],0,f,d⟩,d) j).1.start=f/\(Bi p x mv lo hi (⟨[],0,f,d⟩,d) j).1.dirs=d:=by
 induction j with
 |zero=>exact⟨rfl,rfl⟩
 |succ j ih=>rw[Bi,(Q66 _).1,(Q66 _).2];exact ih
theorem Q7c {p:Pth} {x:Ax3} {lo hi mv f:Int} {d:Pt} (hv:mv=1\/mv= -1) (hp:GoodPath p) (hx:Ax3OK x):∀(k j:Nat),j+k=p.aE.length->∀w,w=Bi p x mv lo hi (⟨[],0,f,d⟩,d) j->
  Am (RX FR O1) (QG p x lo hi mv w.1 w.2 j)=some (1,F9 x mv (Bi p x mv lo hi (⟨[],0,f,d⟩,d) p.aE.length).1 (Bi p x mv lo hi (⟨[],0,f,d⟩,d) p.aE.length).2)
 |0,j,hj,w,hw=>by
  have hj':j=p.aE.length:=by omega
  refine Bf (o:=(1,_)) ?_ (by simp);rw[Q3m,A3 (by omega),hw,hj']
 |k+1,j,hj,w,hw=>by
  have hcnt:=hp.count;have hb:=Qh4 (mv:=mv) (lo:=lo) (hi:=hi) (f:=f) (d:=d) hx hp.ok j (by omega);rw[<-hw]at hb;have hst:=Zcq (MV:=FR) (N:=O1) (lo:=lo) (hi:=hi) (now:=w.2) (j:=j) hv hp hx hb (by omega) (by omega) (by omega) (fun{a b s units} hu=>Zwy hv hx hb (by omega) (by omega) (k:=268435456) (by omega) hu);rw[BC hst];exact Q7c hv hp hx k (j+1) (by omega) _ (by rw[Bi,<-hw])
theorem Zyy {MV:Fn} {N4 N10:Lp} {p:Pth} {x:Ax3} {lo hi mv f:Int} {d:Pt}
  (h4:N4 (QJ p x lo hi mv ⟨[],0,f,d⟩ d 0 [] 0)=some (1,[.view Aa (FE p.aE p.aE.length), .view At [],I lo,I hi,I mv,I p.start.x,I p.start.y,I p.start.z, .view Ai (p.aE.map AB), .view AH (p.aC.map Au),I d.x,I d.y,I d.z,I mv,I x.a.step,I x.a.speed,I x.a.accel,I x.a.jerk,I x.a.low,I x.a.high,I x.a.back,I x.a.origin,I x.a.spacing, .view Aa (x.a.pitch.map Aq),I x.b.step,I x.b.speed,I x.b.accel,I x.b.jerk,I x.b.low,I x.b.high,I x.b.back,I x.b.origin,I x.b.spacing, .view Aa (x.b.pitch.map Aq),I x.c.step,I x.c.speed,I x.c.accel,I x.c.jerk,I x.c.low,I x.c.high,I x.c.back,I x.c.origin,I x.c.spacing, .view Aa (x.c.pitch.map Aq),I 0,I f,I d.x,I d.y,I d.z]))
  (h10:N10 (QG p x lo hi mv ⟨[],0,f,d⟩ d 0)=some (1,F9 x mv (Bi p x mv lo hi (⟨[],0,f,d⟩,d) p.aE.length).1 (Bi p x mv lo hi (⟨[],0,f,d⟩,d) p.aE.length).2)):
  Qdk MV N4 N10 [.view At [],I p.start.x,I p.start.y,I p.start.z, .view Ai (p.aE.map AB), .view AH (p.aC.map Au),I lo,I hi,I mv,I d.x,I d.y,I d.z,I mv,I x.a.step,I x.a.speed,I x.a.accel,I x.a.jerk,I x.a.low,I x.a.high,I x.a.back,I x.a.origin,I x.a.spacing, .view Aa (x.a.pitch.map Aq),I x.b.step,I x.b.speed,I x.b.accel,I x.b.jerk,I x.b.low,I x.b.high,I x.b.back,I x.b.origin,I x.b.spacing, .view Aa (x.b.pitch.map Aq),I x.c.step,I x.c.speed,I x.c.accel,I x.c.jerk,I x.c.low,I x.c.high,I x.c.back,I x.c.origin,I x.c.spacing, .view Aa (x.c.pitch.map Aq),I 0,I f,I d.x,I d.y,I d.z]=some (F9 x mv (Bi p x mv lo hi (⟨[],0,f,d⟩,d) p.aE.length).1 (Bi p x mv lo hi (⟨[],0,f,d⟩,d) p.aE.length).2):=by
 rw[Zht];simp only[QJ,dk,Int.cast_ofNat_Int]at h4;simp only[QG,F9,dk,Int.cast_ofNat_Int]at h10;simp only[go_sem,ag,h4,h10]
theorem Za0 {p:Pth} {x:Ax3} {lo hi mv f:Int} {d:Pt} (hv:mv=1\/mv= -1) (hp:GoodPath p) (hx:Ax3OK x):
  Q0 [.view At [],I p.start.x,I p.start.y,I p.start.z, .view Ai (p.aE.map AB), .view AH (p.aC.map Au),I lo,I hi,I mv,I d.x,I d.y,I d.z,I mv,I x.a.step,I x.a.speed,I x.a.accel,I x.a.jerk,I x.a.low,I x.a.high,I x.a.back,I x.a.origin,I x.a.spacing, .view Aa (x.a.pitch.map Aq),I x.b.step,I x.b.speed,I x.b.accel,I x.b.jerk,I x.b.low,I x.b.high,I x.b.back,I x.b.origin,I x.b.spacing, .view Aa (x.b.pitch.map Aq),I x.c.step,I x.c.speed,I x.c.accel,I x.c.jerk,I x.c.low,I x.c.high,I x.c.back,I x.c.origin,I x.c.spacing, .view Aa (x.c.pitch.map Aq),I 0,I f,I d.x,I d.y,I d.z]=some (F9 x mv (Bi p x mv lo hi (⟨[],0,f,d⟩,d) p.aE.length).1 (Bi p x mv lo hi (⟨[],0,f,d⟩,d) p.aE.length).2):=by
 refine Zyy (MV:=FR) (N4:=O1) (N10:=Qk4) ?_ (Q7c hv hp hx p.aE.length 0 (by omega) _ rfl);have h:=Qs0 (M:=FR) (x:=x) (lo:=lo) (hi:=hi) (mv:=mv) (t:=⟨[],0,f,d⟩) (now:=d) hp.ok p.aE.length 0 (by omega);rw[Rp]at h;exact h
theorem Zoa {ME M2 M1 MC ML:Fn} {p:Pth} {x:Ax3} {d:Pt} {from_ to:Int} (hL:ML (Bn p)=some [I (Aw p.aE)]) (hC:∀n h:Int,MC [I n,I h]=some [I (A5 n h)])
  (hE:∀{lo hi mv f:Int},(mv=1\/mv= -1)->ME [.view At [],I p.start.x,I p.start.y,I p.start.z, .view Ai (p.aE.map AB), .view AH (p.aC.map Au),I lo,I hi,I mv,I d.x,I d.y,I d.z,I mv,I x.a.step,I x.a.speed,I x.a.accel,I x.a.jerk,I x.a.low,I x.a.high,I x.a.back,I x.a.origin,I x.a.spacing, .view Aa (x.a.pitch.map Aq),I x.b.step,I x.b.speed,I x.b.accel,I x.b.jerk,I x.b.low,I x.b.high,I x.b.back,I x.b.origin,I x.b.spacing, .view Aa (x.b.pitch.map Aq),I x.c.step,I x.c.speed,I x.c.accel,I x.c.jerk,I x.c.low,I x.c.high,I x.c.back,I x.c.origin,I x.c.spacing, .view Aa (x.c.pitch.map Aq),I 0,I f,I d.x,I d.y,I d.z]=some (F9 x mv (Bi p x mv lo hi (⟨[],0,f,d⟩,d) p.aE.length).1 (Bi p x mv lo hi (⟨[],0,f,d⟩,d) p.aE.length).2)):
  VJ ME M2 M1 MC ML (Bn p++AI x++[I d.x,I d.y,I d.z,I from_,I to])=some (A_ (Bb p x d from_ to)):=by
 have he:=Zd4 ME M2 M1 MC ML p.start.x p.start.y p.start.z (p.aE.map AB) (p.aC.map Au) x.a.step x.a.speed x.a.accel x.a.jerk x.a.low x.a.high x.a.back x.a.origin x.a.spacing (x.a.pitch.map Aq) x.b.step x.b.speed x.b.accel x.b.jerk x.b.low x.b.high x.b.back x.b.origin x.b.spacing (x.b.pitch.map Aq) x.c.step x.c.speed x.c.accel x.c.jerk x.c.low x.c.high x.c.back x.c.origin x.c.spacing (x.c.pitch.map Aq) d.x d.y d.z from_ to;refine Eq.trans he ?_;unfold Bb;simp only[Bn]at hL;simp only[hL,hC,go_sem,Kj,NX];generalize A5 from_ (Aw p.aE)=f at*;generalize A5 to (Aw p.aE)=t at*;by_cases c:t<f
 ·have h:=hE (lo:=min f t) (hi:=max f t) (mv:= -1) (f:=f) (.inr rfl);simp only[F9]at h;simp only[h,go_sem,c,if_true]
 ·have h:=hE (lo:=min f t) (hi:=max f t) (mv:=1) (f:=f) (.inl rfl);simp only[F9]at h;simp only[h,go_sem,c,if_false]
theorem Qve {p:Pth} {x:Ax3} {d:Pt} {from_ to:Int} (hp:GoodPath p) (hx:Ax3OK x):Kg (Bn p++AI x++[I d.x,I d.y,I d.z,I from_,I to])=some (A_ (Bb p x d from_ to)):=
 Zoa (Qcq hp.ok) (λ_ _=>XR) λhv=>Za0 hv hp hx
theorem Zcf {p:Pth} {x:Ax3} (d:Pt) (a b:Int) (hp:GoodPath p) (hx:Ax3OK x):(Bb p x d a b).aD.length<=10000000/\0<=(Bb p x d a b).length/\(Bb p x d a b).length<=900000000000000:=by
 have hc:=hp.count;have h:=Qh4 (mv:=if A5 a (Aw p.aE)>A5 b (Aw p.aE)then-1 else 1) (lo:=min (A5 a (Aw p.aE)) (A5 b (Aw p.aE))) (hi:=max (A5 a (Aw p.aE)) (A5 b (Aw p.aE))) (f:=A5 a (Aw p.aE)) (d:=d) hx hp.ok p.aE.length (bz _);obtain⟨h1,h2,-⟩:=h;unfold Bb;simp only;refine⟨by omega,by omega,by omega⟩
theorem Qv {x:Ax3} {mv:Int} {Q:Int->Pt->Prop}:∀{a s:Int} {d:Pt} {l:List Pce},Dv x mv Q a s d l->a<=BO a l
 |a,_,_,[],_=>cg _
 |a,s,d,c::l,h=>by
  obtain⟨-,-,h3,-,h5⟩:=h;have:=Qv h5;unfold BO;omega
theorem O5 {x:Ax3} {mv:Int} {Q:Int->Pt->Prop} (hv:mv=1\/mv= -1):∀{a s:Int} {d:Pt} {l:List Pce},Dv x mv Q a s d l->∀i,i<l.length->
  a<=(pcA l i).at_/\1<=(pcA l i).units/\eI l i<=BO a l/\(s-((pcA l i).at_-a)<=(pcA l i).s/\(pcA l i).s<=s+((pcA l i).at_-a))/\((pcA l i).move=0\/(pcA l i).move=mv)
 |a,s,d,c::l,h,0,_=>by
  obtain⟨h1,h2,h3,h4,h5⟩:=h;have:=Qv h5;unfold eI;rw[JN];refine⟨by omega,h3,by unfold BO;omega,by omega,?_⟩;rcases h4 with h4|h4
  ·exact .inr h4.1
  ·exact .inl h4.1
 |a,s,d,c::l,h,i+1,hi=>by
  obtain⟨h1,h2,h3,h4,h5⟩:=h;have ih:=O5 hv h5 i (by simpa using hi);unfold eI at ih⊢;rw[Hr];obtain⟨g1,g2,g3,g4,g5⟩:=ih;have hm:c.move*c.units=0\/c.move*c.units=c.units\/c.move*c.units= -c.units:=by
   rcases h4 with h4|h4
   ·rw[h4.1];rcases hv with rfl|rfl<;>omega
   ·rw[h4.1];omega
  refine⟨by omega,g2,by unfold BO;exact g3,by omega,g5⟩
theorem Qvf {x:Ax3} {mv:Int} {Q:Int->Pt->Prop} (hv:mv=1\/mv= -1):∀{a s:Int} {d:Pt} {l:List Pce},Dv x mv Q a s d l->∀i j,i<=j->j<l.length->eI l i<=eI l j
 |a,s,d,c::l,h,0,0,_,_=>cg _
 |a,s,d,c::l,h,0,j+1,_,hj=>by
  obtain⟨h1,h2,h3,h4,h5⟩:=h;have:=O5 hv h5 j (by simpa using hj);unfold eI at*;rw[JN,Hr];omega
 |a,s,d,c::l,h,i+1,0,hij,_=>by omega
 |a,s,d,c::l,h,i+1,j+1,hij,hj=>by
  obtain⟨h1,h2,h3,h4,h5⟩:=h;have:=Qvf hv h5 i j (by omega) (by simpa using hj);unfold eI at*;rw[Hr,Hr];exact this
theorem Q0g {x:Ax3} {mv:Int} {Q:Int->Pt->Prop}:∀{a s:Int} {d:Pt} {l:List Pce},Dv x mv Q a s d l->l≠[]->eI l (l.length-1)=BO a l
 |a,s,d,[c],h,_=>by
  obtain⟨h1,-⟩:=h;show eI [c] 0=BO a [c];unfold eI;rw[JN];simp only[BO];omega
 |a,s,d,c::e::l,h,_=>by
  obtain⟨-,-,-,-,h5⟩:=h;have:=Q0g h5 (by simp);have e1:(c::e::l).length-1=((e::l).length-1)+1:=by simp
  rw[e1];unfold eI at*;rw[Hr,this];rfl
def mvP (p:Pth) (a b:Int):Int:=if A5 a (Aw p.aE)>A5 b (Aw p.aE)then-1 else 1
theorem Zui (p:Pth) (a b:Int):mvP p a b=1\/mvP p a b= -1:=by unfold mvP;split<;>simp
theorem NI {p:Pth} {x:Ax3} {d:Pt} {a b:Int} {Q:Int->Pt->Prop} (hx:Ax3OK x) (hp:GoodPath p) (hQ:Qur p (mvP p a b) Q):
  ∃d',TC x (mvP p a b) Q (Bb p x d a b) (A5 b (Aw p.aE)) d'/\(Bb p x d a b).start=A5 a (Aw p.aE)/\(Bb p x d a b).dirs=d:=by
 have hn:=O7 hp;have ha:0<=A5 a (Aw p.aE)/\A5 a (Aw p.aE)<=Aw p.aE:=by unfold A5;omega
 have hb:0<=A5 b (Aw p.aE)/\A5 b (Aw p.aE)<=Aw p.aE:=by unfold A5;omega
 have hk:=λmv lo hi f=>Z2z (p:=p) (x:=x) (mv:=mv) (lo:=lo) (hi:=hi) (f:=f) (d:=d) p.aE.length;unfold Bb mvP at*;simp only;generalize A5 a (Aw p.aE)=f at*;generalize A5 b (Aw p.aE)=t at*;have h:=Q5t (p:=p) (x:=x) (mv:=if f>t then-1 else 1) (lo:=min f t) (hi:=max f t) (f:=f) (d:=d) (Q:=Q) (by split<;>simp) hx hp.ok (by omega) (by split<;>omega) hQ p.aE.length (bz _);have hs:Ku p.aE (if f>t then-1 else 1) (min f t) (max f t) p.aE.length=t:=by
  unfold Ku;rw[Nat.sub_self,Rp,Q4q];by_cases c:f>t
  ·rw[aa c,aa (by omega)];omega
  ·rw[ab c,ab (by omega)];omega
 rw[hs]at h;exact⟨_,h,(hk _ _ _ _).1,(hk _ _ _ _).2⟩
theorem Zw4 {x:Ax3} {mv:Int} {Q:Int->Pt->Prop} {t:Trk} {s:Int} {d:Pt} (hv:mv=1\/mv= -1) (h:TC x mv Q t s d) (hb:t.aD.length<=10000000/\0<=t.length/\t.length<=900000000000000) (hs:0<=t.start/\t.start<=263886834032640):TQ t:=by
 obtain⟨h1,h2,-,-⟩:=h;refine⟨hb.1,hb.2,λi hi=> ?_,Qvf hv h1,λhne=>by rw[Q0g h1 hne,h2],hs,λi hi=> ?_,λi hi=> ?_⟩
 ·have:=O5 hv h1 i hi;rw[h2]at this;exact⟨this.1,this.2.1,this.2.2.1⟩
 ·have:=O5 hv h1 i hi;rw[h2]at this;unfold eI at this;omega
 ·have:=(O5 hv h1 i hi).2.2.2.2;rcases hv with rfl|rfl
  ·rcases this with h|h
   ·exact .inl h
   ·exact .inr (.inl h)
  ·rcases this with h|h
   ·exact .inl h
   ·exact .inr (.inr h)
theorem RT {p:Pth} {x:Ax3} (d:Pt) (a b:Int) (hx:Ax3OK x) (hp:GoodPath p):TQ (Bb p x d a b):=by
 have hn:=O7 hp;obtain⟨d',h1,h2,-⟩:=NI (d:=d) (a:=a) (b:=b) (Q:=λ_ _=>True) hx hp (λ_ _ _ _ _ _ _ _=>trivial);exact Zw4 (Zui p a b) h1 (Zcf d a b hp hx) (by rw[h2];unfold A5;omega)
def Ck (a:Axs) (i:Nat):Int:=a.pitch.getD i 0
def JV (a:Axs) (p:Int):Int:=
 if a.pitch=[]then 0
 else if p<=a.origin then Ck a 0
 else if(p-a.origin)/a.spacing>=a.pitch.length-1 then Ck a (a.pitch.length-1)
 else Ck a ((p-a.origin)/a.spacing).toNat+Bo ((Ck a (((p-a.origin)/a.spacing).toNat+1)-Ck a ((p-a.origin)/a.spacing).toNat)*(p-a.origin-(p-a.origin)/a.spacing*a.spacing)) a.spacing
def HQ (a:Axs) (p:Int):Int:=Bo (p+JV a p) a.step
def okB (p:Int):Prop:= -1000000000<=p/\p<=1000000000
theorem Q6v {l:List Int} (h:l≠[]):0<l.length:=by
 cases l with
 |nil=>exact absurd rfl h
 |cons _ _=>simp
theorem Pk {a:Axs} (h:AxOK a) {i:Nat} (hi:i<a.pitch.length): -4096<=Ck a i/\Ck a i<=4096:=by
 have e:Ck a i=a.pitch[i]:=by unfold Ck;simp[hi]
 rw[e];exact h.pitch.1 _ (bn _)
theorem Tb {a:Axs} {i:Nat} (hi:i<a.pitch.length):nth [] (a.pitch.map Aq) i=[I (Ck a i)]:=by
 have e:Ck a i=a.pitch[i]:=by unfold Ck;simp[hi]
 rw[e];exact Je _ _ _ _ hi
theorem Q14 {a:Axs} (h:AxOK a) (hne:a.pitch≠[]) {p:Int} (h1: ¬p<=a.origin) (h2: ¬(p-a.origin)/a.spacing>=a.pitch.length-1):
  ∃(i:Nat) (r:Int),((p-a.origin)/a.spacing=i)/\i+1<a.pitch.length/\0<=r/\r<a.spacing/\p-a.origin=i*a.spacing+r/\p-a.origin-(p-a.origin)/a.spacing*a.spacing=r:=by
 have hs:=h.spacing hne;have e0:=Int.mul_ediv_add_emod (p-a.origin) a.spacing;have e1:=Int.emod_nonneg (p-a.origin) (show a.spacing≠0 by omega);have e2:=Int.emod_lt_of_pos (p-a.origin) (show 0<a.spacing by omega);have e3:0<=(p-a.origin)/a.spacing:=Int.ediv_nonneg (by omega) (by omega);refine⟨((p-a.origin)/a.spacing).toNat,(p-a.origin)%a.spacing,by omega,by omega,e1,e2,?_,?_⟩
 ·rw[Int.toNat_of_nonneg e3,Int.mul_comm];omega
 ·rw[Int.mul_comm ((p-a.origin)/a.spacing)];omega
theorem Q1g {a:Axs} (h:AxOK a) (hne:a.pitch≠[]) {i:Nat} (hi:i+1<a.pitch.length) {r:Int} (hr:0<=r/\r<=a.spacing):
  (-30<=Ck a (i+1)-Ck a i/\Ck a (i+1)-Ck a i<=30)/\(Bo ((Ck a (i+1)-Ck a i)*r) a.spacing).natAbs<=31:=by
 have hs:=h.spacing hne;have hp:=h.pitch.2 i hi;have hd: -30<=Ck a (i+1)-Ck a i/\Ck a (i+1)-Ck a i<=30:=by unfold Ck;omega
 refine⟨hd,Zo (by omega) ?_⟩;have m1:(Ck a (i+1)-Ck a i)*r<=31*r:=Int.mul_le_mul_of_nonneg_right (by omega) hr.1;have m2: -31*r<=(Ck a (i+1)-Ck a i)*r:=Int.mul_le_mul_of_nonneg_right (by omega) hr.1;have e:((31:Nat):Int)=31:=rfl;rw[e];omega
theorem Q7b {a:Axs} (h:AxOK a) (p:Int): -5000<=JV a p/\JV a p<=5000:=by
 unfold JV;by_cases c:a.pitch=[]
 ·rw[aa c];omega
 ·have hl:=Q6v c;rw[ab c];by_cases c1:p<=a.origin
  ·rw[aa c1];have:=Pk h (show 0<a.pitch.length from hl);omega
  ·rw[ab c1];by_cases c2:(p-a.origin)/a.spacing>=a.pitch.length-1
   ·rw[aa c2];have:=Pk h (show a.pitch.length-1<a.pitch.length by omega);omega
   ·rw[ab c2];obtain⟨i,r,e1,e2,e3,e4,e5,e6⟩:=Q14 h c c1 c2;rw[e6,e1,aj];have b1:=Pk h (show i<a.pitch.length by omega);have b2:=(Q1g h c e2 (r:=r) (by omega)).2;omega
theorem Z1e {a:Axs} (h:AxOK a) {v:Int} (hv:v.natAbs<=1000010000):KK (Br a++[I v])=some [I (Bo v a.step)]:=by
 have hs:=h.step;have he:=Zds a.step a.speed a.accel a.jerk a.low a.high a.back a.origin a.spacing (a.pitch.map Aq) v;unfold KK;refine Eq.trans he ?_;rw[Ae (x:=2*v) (by omega),Ae (x:=2*v+a.step) (by omega),Ae (x:=2*a.step) (by omega)];have hm:=Int.tmod_add_mul_tdiv (2*v+a.step) (2*a.step);have h1:=Int.tmod_lt_of_pos (2*v+a.step) (show 0<2*a.step by omega);have h2:=Int.lt_tmod_of_pos (2*v+a.step) (show 0<2*a.step by omega);have hq:((2*v+a.step).tdiv (2*a.step)).natAbs<=(2*v+a.step).natAbs:=by rw[Int.natAbs_tdiv];exact Nat.div_le_self _ _
 generalize(2*v+a.step).tdiv (2*a.step)=q at*;generalize(2*v+a.step).tmod (2*a.step)=r at*;have e1:2*a.step*q=q*(2*a.step):=Int.mul_comm _ _;rw[A3 (by omega),A3 (by omega),A3 (by omega),A3 (by omega),Ae (x:=q) (by omega)];by_cases h:r<0
 ·rw[DI h,Ae (by omega),LM (k:=q-1) (by omega)]
  ·rw[Int.sub_mul];omega
  ·rw[Int.sub_add_cancel];omega
 ·rw[A3 h,LM (k:=q) (by omega)]
  ·omega
  ·rw[Int.add_mul];omega
theorem Zp3 {a:Axs} (h:AxOK a) {p:Int} (hp:okB p):Ks (Br a++[I p])=some [I (JV a p)]:=by
 unfold okB at hp;have ho:=h.origin;have hc:=h.count;have he:=Zh5 Bz a.step a.speed a.accel a.jerk a.low a.high a.back a.origin a.spacing (a.pitch.map Aq) p;unfold Ks;have hF:=fun{x y:Int} (hx:x.natAbs<=30) (hy:y.natAbs<=123) (hs:4<=a.spacing/\a.spacing<=123)=>Quk (a:=x) (b:=y) (c:=a.spacing) (by omega) (by omega) (by omega);generalize Bz=M at*;refine Eq.trans he ?_;unfold JV;rw[ag];by_cases c:a.pitch=[]
 ·rw[aa c,c];rfl
 ·have hl:=Q6v c;have hs:=h.spacing c;have e1:wrap .i64 ((a.pitch.length:Int)-1)=((a.pitch.length-1:Nat):Int):=by rw[Ae (by omega)];omega
  have e2:wrap .i64 (p-a.origin)=p-a.origin:=Ae (by omega);rw[ab c,e2,e1];by_cases c1:p<=a.origin
  ·rw[aa c1];simp only[go_sem,Tb hl];rw[ab (by omega),aa (by omega),aa (by omega)]
  ·have e3:wrap .i64 ((p-a.origin).tdiv a.spacing)=(p-a.origin)/a.spacing:=by
    rw[bj (by omega)];have:=Int.ediv_nonneg (show 0<=p-a.origin by omega) (show 0<=a.spacing by omega);have:=Int.ediv_le_self a.spacing (show 0<=p-a.origin by omega);exact Ae (by omega)
   rw[ab c1,e3];by_cases c2:(p-a.origin)/a.spacing>=(a.pitch.length:Int)-1
   ·rw[aa c2];simp only[go_sem,aj,Tb (show a.pitch.length-1<a.pitch.length by omega)];rw[ab (by omega),ab (by omega),ab (by omega),ab (by omega),aa (by omega),aa (by omega)]
   ·rw[ab c2];obtain⟨i,r,g1,g2,g3,g4,g5,g6⟩:=Q14 h c c1 c2;obtain⟨n1,n2⟩:=Q1g h c g2 (r:=r) (by omega);have b1:=Pk h (show i<a.pitch.length by omega);rw[g6,g1]at*;rw[aj];have w1:wrap .i64 ((i:Int)+1)=((i+1:Nat):Int):=by rw[Ae (by omega)];omega
    have hmul:(i:Int)*a.spacing=p-a.origin-r:=by omega
    have w2:wrap .i64 (p-a.origin-wrap .i64 ((i:Int)*a.spacing))=r:=by rw[hmul,Ae (x:=p-a.origin-r) (by omega),Ae (by omega)];omega
    have hin1:(0:Int)<=(i:Int)/\(i:Int)<(a.pitch.length:Int):=by omega
    have hin2:(0:Int)<=((i+1:Nat):Int)/\((i+1:Nat):Int)<(a.pitch.length:Int):=by omega
    simp only[go_sem,w1,w2,aj,Tb (show i<a.pitch.length by omega),Tb g2,aa hin1,aa hin2];have b2:=Pk h g2;generalize Ck a (i+1)=y at*;generalize Ck a i=z at*;rw[ab (by omega),ab (by omega),ab (by omega),ab (by omega),ab (by omega),Ae (x:=y-z) (by omega),hF (by omega) (by omega) hs];simp only[go_sem];rw[Ae (by omega)]
theorem Zi7 {a:Axs} (h:AxOK a) {p:Int} (hp:okB p):NF (Br a++[I p])=some [I (HQ a p)]:=by
 have hb:=Q7b h p;have h1:=Zp3 h hp;unfold okB at hp;have h2:=Z1e h (v:=p+JV a p) (by omega);have he:=Zl2 KK Ks a.step a.speed a.accel a.jerk a.low a.high a.back a.origin a.spacing (a.pitch.map Aq) p;unfold NF;generalize KK=M1 at*;generalize Ks=M2 at*;refine Eq.trans he ?_;simp only[Br,ax,az]at h1 h2;simp only[h1,go_sem,Ae (x:=p+JV a p) (by omega),h2];rfl
def Ic (a:Axs) (d:Int):Int:=if d= -1 then-a.back else 0
def FU (a:Axs) (move at_ was dirs u:Int):Int:=if move≠0\/was=dirs then Ic a dirs else if dirs= -1 then-min (u-at_) a.back else min (u-at_) a.back-a.back
theorem Tu {a:Axs} (hb:0<=a.back/\a.back<=1000) (v:Int):Jq (Br a++[I v])=some [I (Ic a v)]:=by
 have he:=Zuw a.step a.speed a.accel a.jerk a.low a.high a.back a.origin a.spacing (a.pitch.map Aq) v;unfold Jq;refine Eq.trans he ?_;unfold Ic;by_cases c:v= -1
 ·rw[Bx (by simp[c]),aa c,Ae (by omega)];congr 3;omega
 ·rw[Bk (by simp[c]),ab c]
theorem Zf0 {M:Fn} {a:Axs} {c:Pce} {u:Int} (hM:∀v:Int,M (Br a++[I v])=some [I (Ic a v)]) (hb:0<=a.back/\a.back<=1000) (hu:0<=u-c.at_/\u-c.at_<=2000000000000000):
  Po M (Br a++AL c++[I 0,I u])=some [I (FU a c.move c.at_ c.was.x c.dirs.x u)]:=by
 have he:=VT M a.step a.speed a.accel a.jerk a.low a.high a.back a.origin a.spacing (a.pitch.map Aq) c.at_ c.units c.s c.move c.was.x c.was.y c.was.z c.dirs.x c.dirs.y c.dirs.z 0 u;refine Eq.trans he ?_;have hm0:=hM c.dirs.x;simp only[Br,ax,az]at hm0;have e1:wrap .i64 (0+1)=1:=rfl;have e2:wrap .i64 (1+1)=2:=rfl;have w1:wrap .i64 (u-c.at_)=u-c.at_:=Ae (by omega);have w2:wrap .i64 (0-min (u-c.at_) a.back)= -min (u-c.at_) a.back:=by rw[Ae (by omega)];omega
 have w3:wrap .i64 (min (u-c.at_) a.back-a.back)=min (u-c.at_) a.back-a.back:=Ae (by omega);unfold FU;simp only[go_sem,e1,e2,Kj,w1,w2,w3,Nat.reduceAdd,Int.cast_ofNat_Int,Int.natCast_zero,Int.natCast_one,Int.reduceEq,hm0];by_cases c1:c.move=0
 ·by_cases c2:c.was.x=c.dirs.x
  ·simp[c1,c2]
  ·by_cases c3:c.dirs.x= -1
   ·simp[c1,c3,show c.was.x≠-1 from λe=>c2 (by rw[e,c3])]
   ·simp[c1,c2,c3]
 ·simp[c1]
theorem Z5n {M:Fn} {a:Axs} {c:Pce} {u:Int} (hM:∀v:Int,M (Br a++[I v])=some [I (Ic a v)]) (hb:0<=a.back/\a.back<=1000) (hu:0<=u-c.at_/\u-c.at_<=2000000000000000):
  Po M (Br a++AL c++[I (wrap .i64 (0+1)),I u])=some [I (FU a c.move c.at_ c.was.y c.dirs.y u)]:=by
 have he:=VT M a.step a.speed a.accel a.jerk a.low a.high a.back a.origin a.spacing (a.pitch.map Aq) c.at_ c.units c.s c.move c.was.x c.was.y c.was.z c.dirs.x c.dirs.y c.dirs.z (wrap .i64 (0+1)) u;refine Eq.trans he ?_;have hm0:=hM c.dirs.y;simp only[Br,ax,az]at hm0;have e1:wrap .i64 (0+1)=1:=rfl;have e2:wrap .i64 (1+1)=2:=rfl;have w1:wrap .i64 (u-c.at_)=u-c.at_:=Ae (by omega);have w2:wrap .i64 (0-min (u-c.at_) a.back)= -min (u-c.at_) a.back:=by rw[Ae (by omega)];omega
 have w3:wrap .i64 (min (u-c.at_) a.back-a.back)=min (u-c.at_) a.back-a.back:=Ae (by omega);unfold FU;simp only[go_sem,e1,e2,Kj,w1,w2,w3,Nat.reduceAdd,Int.cast_ofNat_Int,Int.natCast_zero,Int.natCast_one,Int.reduceEq,hm0];by_cases c1:c.move=0
 ·by_cases c2:c.was.y=c.dirs.y
  ·simp[c1,c2]
  ·by_cases c3:c.dirs.y= -1
   ·simp[c1,c3,show c.was.y≠-1 from λe=>c2 (by rw[e,c3])]
   ·simp[c1,c2,c3]
 ·simp[c1]
theorem Zl5 {M:Fn} {a:Axs} {c:Pce} {u:Int} (hM:∀v:Int,M (Br a++[I v])=some [I (Ic a v)]) (hb:0<=a.back/\a.back<=1000) (hu:0<=u-c.at_/\u-c.at_<=2000000000000000):
  Po M (Br a++AL c++[I (wrap .i64 (wrap .i64 (0+1)+1)),I u])=some [I (FU a c.move c.at_ c.was.z c.dirs.z u)]:=by
 have he:=VT M a.step a.speed a.accel a.jerk a.low a.high a.back a.origin a.spacing (a.pitch.map Aq) c.at_ c.units c.s c.move c.was.x c.was.y c.was.z c.dirs.x c.dirs.y c.dirs.z (wrap .i64 (wrap .i64 (0+1)+1)) u;refine Eq.trans he ?_;have hm0:=hM c.dirs.z;simp only[Br,ax,az]at hm0;have e1:wrap .i64 (0+1)=1:=rfl;have e2:wrap .i64 (1+1)=2:=rfl;have w1:wrap .i64 (u-c.at_)=u-c.at_:=Ae (by omega);have w2:wrap .i64 (0-min (u-c.at_) a.back)= -min (u-c.at_) a.back:=by rw[Ae (by omega)];omega
 have w3:wrap .i64 (min (u-c.at_) a.back-a.back)=min (u-c.at_) a.back-a.back:=Ae (by omega);unfold FU;simp only[go_sem,e1,e2,Kj,w1,w2,w3,Nat.reduceAdd,Int.cast_ofNat_Int,Int.natCast_zero,Int.natCast_one,Int.reduceEq,hm0];by_cases c1:c.move=0
 ·by_cases c2:c.was.z=c.dirs.z
  ·simp[c1,c2]
  ·by_cases c3:c.dirs.z= -1
   ·simp[c1,c3,show c.was.z≠-1 from λe=>c2 (by rw[e,c3])]
   ·simp[c1,c2,c3]
 ·simp[c1]
theorem Zrc {a:Axs} (hb:0<=a.back/\a.back<=1000) {move at_ was dirs u:Int} (hu:0<=u-at_): -1000<=FU a move at_ was dirs u/\FU a move at_ was dirs u<=1000:=by
 unfold FU Ic
 (repeat' split)<;>omega
theorem Zgu {a:Pt} {g:Sgm} {d:Int} (ha:bd B26 a) (hg:1<=g.len/\g.len<=268435456/\bd B26 g.to) (hd:0<=d/\d<=g.len):bd 201326592 (Nu a g d):=by
 have key:∀u v:Int,u.natAbs<=B26->v.natAbs<=B26->(v+Bo ((u-v)*d) g.len).natAbs<=201326592:=by
  intro u v hu hv;have h1:=Im hu hv;have h2:=Qu1 (D:=u-v) (L:=g.len) (d:=d) (by omega) (cd h1 (by decide)) hd;have h3:v.natAbs<=67108864:=hv;omega
 exact⟨key _ _ hg.2.2.1 ha.1,key _ _ hg.2.2.2.1 ha.2.1,key _ _ hg.2.2.2.2 ha.2.2⟩
theorem Zzm {p:Pth} (h:GoodPath p) (s:Int):bd 201326592 (atP p s):=by
 unfold atP;by_cases c:p.aE=[]
 ·rw[c];exact AZ h.start (by decide)
 ·have hok:=h.ok;obtain⟨f1,f2,f3,f4⟩:=Qok (l:=p.aE) (a:=p.start) (s:=max s 0) c (λg hg=>(hok.seg g hg).1) (by omega);rw[f4];exact Zgu (Q4r h.start hok f1) (hok.seg _ (GL f1)) ⟨f2,f3⟩
theorem UU {a:Axs} (h:AxOK a) {p:Int} (hp:okB p):(HQ a p).natAbs<=2000000000:=by
 have hb:=Q7b h p;have hs:=h.step;unfold okB at hp;unfold HQ;refine Zo (by omega) ?_;have e:((2000000000:Nat):Int)=2000000000:=rfl;rw[e];omega
def shT (a:Axs) (t:Trk) (u:Int) (f:Pt->Int):Int:=if t.aD=[]then Ic a (f t.dirs)else FU a (pcA t.aD (iT t u)).move (pcA t.aD (iT t u)).at_ (f (pcA t.aD (iT t u)).was) (f (pcA t.aD (iT t u)).dirs) (clT t u)
def Rg (p:Pth) (x:Ax3) (s:Int):Pt:=⟨HQ x.a (atP p s).x,HQ x.b (atP p s).y,HQ x.c (atP p s).z⟩
def JE (p:Pth) (x:Ax3) (t:Trk) (u:Int):Pt:=
 ⟨(Rg p x (AK t u)).x+shT x.a t u Pt.x,(Rg p x (AK t u)).y+shT x.b t u Pt.y,(Rg p x (AK t u)).z+shT x.c t u Pt.z⟩
theorem Qy3 {t:Trk} (h:TQ t) (hch:∀i,i+1<t.aD.length->(pcA t.aD (i+1)).at_=eI t.aD i) (h0:t.aD≠[]->(pcA t.aD 0).at_=0) (u:Int) (hne:t.aD≠[]):(pcA t.aD (iT t u)).at_<=clT t u/\(0<iT t u->(pcA t.aD (iT t u)).at_<clT t u):=by
 have hi:=Mi h u hne;have hc:=OE h u;by_cases c:iT t u=0
 ·rw[c,h0 hne];exact⟨hc.1,λg=>absurd g (by omega)⟩
 ·obtain⟨j,hj⟩:∃j,iT t u=j+1:=⟨iT t u-1,by omega⟩;rw[hj]at hi⊢;rw[hch j hi];have: ¬clT t u<=eI t.aD j:=by
   intro g;have:=Ra (show j<t.aD.length by omega) g;unfold iT at hj;omega
  exact⟨by omega,λ_=>by omega⟩
theorem Zkt {t:Trk} (h:TQ t) (u:Int):clT t (clT t u)=clT t u:=by have:=h.len;unfold clT A5;omega
theorem Zcy {t:Trk} (h:TQ t) (u:Int):AK t (clT t u)=AK t u:=by unfold AK iT;rw[Zkt h]
theorem Q3g {t:Trk} (h:TQ t) (u:Int): -3000000000000000<=AK t u/\AK t u<=3000000000000000:=by
 unfold AK;by_cases c:t.aD=[]
 ·rw[aa c];have:=h.start;omega
 ·have hi:=Mi h u c;have h1:=h.pos _ hi;have h2:=h.s _ hi;have h3:=h.move _ hi;have h4:=OE h u;have h5:=h.len;rw[ab c];unfold eI at h1;rcases h3 with h3|h3|h3<;>rw[h3]<;>omega
theorem Zi0 {p:Pth} (h:GoodPath p) (s:Int):okB (atP p s).x/\okB (atP p s).y/\okB (atP p s).z:=by
 obtain⟨h1,h2,h3⟩:=Zzm h s;unfold okB;omega
structure TH (t : Trk) : Prop where
 q:TQ t
 at0:t.aD≠[]->(pcA t.aD 0).at_=0
 at1:∀i,i+1<t.aD.length->(pcA t.aD (i+1)).at_=eI t.aD i
theorem Qe2 {a:Axs} (hb:0<=a.back/\a.back<=1000) {t:Trk} (h:TH t) (u:Int) (f:Pt->Int): -1000<=shT a t u f/\shT a t u f<=1000:=by
 unfold shT;by_cases c:t.aD=[]
 ·rw[aa c];unfold Ic;split<;>omega
 ·rw[ab c];exact Zrc hb (by have:=(Qy3 h.q h.at1 h.at0 u c).1;omega)
theorem Zxb {MS MD MM MF MA ML MC:Fn} {p:Pth} {x:Ax3} {t:Trk} {u:Int} (hp:GoodPath p) (hx:Ax3M x) (ht:TH t) (hC:MC [I u,I t.length]=some [I (clT t u)]) (hL:ML (A_ t++[I (clT t u)])=some [I (AK t u)]) (hA:MA (Bn p++[I (AK t u)])=some (ptR (atP p (AK t u))))
  (hF:MF (A_ t++[I (clT t u)])=some [I (if t.aD=[]then-1 else(iT t u:Int))]) (hM:∀{a:Axs} {q:Int},AxOK a->okB q->MM (Br a++[I q])=some [I (HQ a q)]) (hD:∀{a:Axs} (v:Int),(0<=a.back/\a.back<=1000)->MD (Br a++[I v])=some [I (Ic a v)])
  (h0:∀{a:Axs} {c:Pce} {u:Int},(0<=a.back/\a.back<=1000)->(0<=u-c.at_/\u-c.at_<=2000000000000000)->MS (Br a++AL c++[I 0,I u])=some [I (FU a c.move c.at_ c.was.x c.dirs.x u)])
  (h1:∀{a:Axs} {c:Pce} {u:Int},(0<=a.back/\a.back<=1000)->(0<=u-c.at_/\u-c.at_<=2000000000000000)->MS (Br a++AL c++[I (wrap .i64 (0+1)),I u])=some [I (FU a c.move c.at_ c.was.y c.dirs.y u)])
  (h2:∀{a:Axs} {c:Pce} {u:Int},(0<=a.back/\a.back<=1000)->(0<=u-c.at_/\u-c.at_<=2000000000000000)->MS (Br a++AL c++[I (wrap .i64 (wrap .i64 (0+1)+1)),I u])=some [I (FU a c.move c.at_ c.was.z c.dirs.z u)]):
  Qbx MS MD MM MF MA ML MC (Bn p++AI x++A_ t++[I u])=some (ptR (JE p x t u)):=by
 have he:=Z0r MS MD MM MF MA ML MC u p x t;refine Eq.trans he ?_;obtain⟨o1,o2,o3⟩:=Zi0 hp (AK t u);have m1:=hM hx.a o1;have m2:=hM hx.b o2;have m3:=hM hx.c o3;have b1:=UU hx.a o1;have b2:=UU hx.b o2;have b3:=UU hx.c o3;have s1:=Qe2 hx.ok.a ht u Pt.x;have s2:=Qe2 hx.ok.b ht u Pt.y;have s3:=Qe2 hx.ok.c ht u Pt.z;unfold JE Rg;generalize HQ x.a (atP p (AK t u)).x=q1 at*;generalize HQ x.b (atP p (AK t u)).y=q2 at*;generalize HQ x.c (atP p (AK t u)).z=q3 at*;have w1:wrap .i64 (q1+shT x.a t u Pt.x)=q1+shT x.a t u Pt.x:=Ae (by omega);have w2:wrap .i64 (q2+shT x.b t u Pt.y)=q2+shT x.b t u Pt.y:=Ae (by omega);have w3:wrap .i64 (q3+shT x.c t u Pt.z)=q3+shT x.c t u Pt.z:=Ae (by omega);by_cases c:t.aD=[]
 ·have d1:=hD t.dirs.x hx.ok.a;have d2:=hD t.dirs.y hx.ok.b;have d3:=hD t.dirs.z hx.ok.c;unfold shT at*;rw[aa c]at hF;simp only[aa c]at w1 w2 w3⊢;simp only[Bn,A_,Br,ax,az]at hL hA hF d1 d2 d3 m1 m2 m3;simp only[hC,hL,hA,hF,go_sem,m1,m2,m3,d1,d2,d3,w1,w2,w3];rw[aa (by omega),aa (by omega),aa (by omega)]
 ·have hi:=Mi ht.q u c;have hcnt:=ht.q.count;have hat:=(Qy3 ht.q ht.at1 ht.at0 u c).1;have hcl:=OE ht.q u;have hlen:=ht.q.len;have hpos:=ht.q.pos _ hi;have hin:(0:Int)<=(iT t u:Int)/\(iT t u:Int)<(t.aD.length:Int):=by omega
  have hneg: ¬((iT t u:Int)<0):=by omega
  have d1:=h0 (c:=pcA t.aD (iT t u)) (u:=clT t u) hx.ok.a (by omega);have d2:=h1 (c:=pcA t.aD (iT t u)) (u:=clT t u) hx.ok.b (by omega);have d3:=h2 (c:=pcA t.aD (iT t u)) (u:=clT t u) hx.ok.c (by omega);unfold shT at*;rw[ab c]at hF;simp only[ab c]at w1 w2 w3⊢;simp only[Bn,A_,Br,AL,ax,az]at hL hA hF d1 d2 d3 m1 m2 m3;simp only[hC,hL,hA,hF,go_sem,m1,m2,m3,ag,aa hin,aj,R1 hi,ab hneg,d1,d2,d3,w1,w2,w3]
theorem Zr4 {p:Pth} {x:Ax3} {t:Trk} (hp:GoodPath p) (hx:Ax3M x) (ht:TH t) (u:Int):FG (Bn p++AI x++A_ t++[I u])=some (ptR (JE p x t u)):=by
 have hs:=Q3g ht.q u;have hpl:=OH ht.q (clT t u);rw[Zcy ht.q]at hpl;exact Zxb hp hx ht XR hpl (Zxf hp (by unfold i64;omega)) (Q9e ht.q u) (λh1 h2=>Zi7 h1 h2) (λv hb=>Tu hb v) (λhb hu=>Zf0 (Tu hb) hb hu) (λhb hu=>Z5n (Tu hb) hb hu) (λhb hu=>Zl5 (Tu hb) hb hu)
theorem Q63 {x:Ax3} {mv:Int} {Q:Int->Pt->Prop} {a s:Int} {d:Pt} {l:List Pce} (h:Dv x mv Q a s d l) (hne:l≠[]):(pcA l 0).at_=a:=by
 cases l with
 |nil=>exact absurd rfl hne
 |cons c l=>rw[JN];exact h.1
theorem Qs7 {x:Ax3} {mv:Int} {Q:Int->Pt->Prop}:∀{a s:Int} {d:Pt} {l:List Pce},Dv x mv Q a s d l->∀i,i+1<l.length->(pcA l (i+1)).at_=eI l i
 |a,s,d,[],h,i,hi=>by simp at hi
 |a,s,d,c::l,h,0,hi=>by
  obtain⟨h1,h2,h3,h4,h5⟩:=h;unfold eI;rw[Hr,JN,Q63 h5 (λe=>by rw[e]at hi;simp at hi),h1]
 |a,s,d,c::l,h,i+1,hi=>by
  obtain⟨h1,h2,h3,h4,h5⟩:=h;have:=Qs7 h5 i (by simpa using hi);unfold eI at*;rw[Hr,Hr];exact this
theorem Zpk {p:Pth} {x:Ax3} (d:Pt) (a b:Int) (hx:Ax3OK x) (hp:GoodPath p):TH (Bb p x d a b):=by
 obtain⟨d',h1,h2,-⟩:=NI (d:=d) (a:=a) (b:=b) (Q:=λ_ _=>True) hx hp (λ_ _ _ _ _ _ _ _=>trivial);exact⟨RT d a b hx hp,Q63 h1.ch,Qs7 h1.ch⟩
def Qvk (a:Axs) (g:Int->Int) (f:Pt->Int) (c:Pce) (u:Int):Int:=HQ a (g (c.s+c.move*(u-c.at_)))+FU a c.move c.at_ (f c.was) (f c.dirs) u
def PA (a:Axs) (g:Int->Int) (f:Pt->Int):List Pce->Int->Int
 |[],_=>0
 |c::l,u=>if u<=c.at_+c.units then Qvk a g f c u else PA a g f l u
def wF (z:Int):List Pce->Int
 |[]=> -1
 |c::l=>if c.move≠0/\0<=(z-c.s)*c.move/\(z-c.s)*c.move<=c.units then c.at_+(z-c.s)*c.move else wF z l
def A9 (t:Trk) (z:Int):Int:=if z=t.start then 0 else wF z t.aD
def plL:List Pce->Int->Int
 |[],_=>0
 |c::l,u=>if u<=c.at_+c.units then c.s+c.move*(u-c.at_)else plL l u
theorem Qrh:∀{l:List Pce} {u:Int},fI l u<l.length->plL l u=(pcA l (fI l u)).s+(pcA l (fI l u)).move*(u-(pcA l (fI l u)).at_)
 |[],_,h=>by simp at h
 |c::l,u,h=>by
  unfold fI at h⊢;unfold plL;by_cases c0:u<=c.at_+c.units
  ·rw[aa c0,aa c0,JN]
  ·rw[ab c0]at h⊢;rw[ab c0,Hr];exact Qrh (by simpa using h)
theorem I6 {t:Trk} (h:TQ t) (u:Int) (hne:t.aD≠[]):AK t u=plL t.aD (clT t u):=by
 have hi:=Mi h u hne;unfold AK;rw[ab hne];exact(Qrh hi).symm
theorem Qmy {x:Ax3} {mv:Int} {Q:Int->Pt->Prop} (hv:mv=1\/mv= -1):∀{a s:Int} {d:Pt} {l:List Pce},Dv x mv Q a s d l->0<=mv*(C4 s l-s)
 |a,s,d,[],_=>by simp[C4]
 |a,s,d,c::l,h=>by
  obtain⟨h1,h2,h3,h4,h5⟩:=h;have ih:=Qmy hv h5;unfold C4;generalize C4 (s+c.move*c.units) l=E at*;have hm:c.move=mv\/c.move=0:=by rcases h4 with h4|h4<;>simp[h4.1]
  rcases hm with hm|hm<;>rw[hm]at ih<;>rcases hv with rfl|rfl<;>omega
theorem Qp7 {x:Ax3} {mv:Int} {Q:Int->Pt->Prop} (hv:mv=1\/mv= -1) (z:Int):∀{a s:Int} {d:Pt} {l:List Pce},Dv x mv Q a s d l->
  (mv*(z-s)<0->wF z l= -1)/\(0<mv*(z-C4 s l)->wF z l= -1)/\
  (0<mv*(z-s)->mv*(z-C4 s l)<=0->a<wF z l/\wF z l<=BO a l/\plL l (wF z l)=z/\∀v,a<=v->v<wF z l->mv*(plL l v-z)<0)
 |a,s,d,[],_=>by
  simp only[C4,wF];exact⟨λ_=>trivial,λ_=>trivial,λh1 h2=>absurd h1 (by omega)⟩
 |a,s,d,c::l,h=>by
  obtain⟨h1,h2,h3,h4,h5⟩:=h;obtain⟨i1,i2,i3⟩:=Qp7 hv z h5;have hend:=Qmy hv h5;have hge:=Qv h5;have hm:c.move=mv\/c.move=0:=by rcases h4 with h4|h4<;>simp[h4.1]
  simp only[C4,BO];generalize C4 (s+c.move*c.units) l=E at*;generalize BO (a+c.units) l=A at*;have key : (0 < mv * (z - (s + c.move * c.units)) -> mv * (z - E) <= 0 -> wF z (c :: l) = wF z l -> (∀ v, a <= v -> v <= a + c.units -> mv * (s + c.move * (v - a) - z) < 0) ->
    a<wF z (c::l)/\wF z (c::l)<=A/\plL (c::l) (wF z (c::l))=z/\∀v,a<=v->v<wF z (c::l)->mv*(plL (c::l) v-z)<0):=by
   intro g1 g2 g3 g4;obtain⟨k1,k2,k3,k4⟩:=i3 g1 g2;rw[g3];refine⟨by omega,k2,?_,?_⟩
   ·unfold plL;rw[ab (by omega)];exact k3
   ·intro v w1 w2;unfold plL;by_cases w3:v<=c.at_+c.units
    ·rw[aa w3,h1,h2];exact g4 v w1 (by omega)
    ·rw[ab w3];exact k4 v (by omega) w2
  rcases hm with hm|hm
  ·
   have hmne:c.move≠0:=by rcases hv with rfl|rfl<;>omega
   rw[hm]at i1 i3 key;by_cases c0:0<=(z-s)*mv/\(z-s)*mv<=c.units
   ·have hw:wF z (c::l)=a+(z-s)*mv:=by unfold wF;rw[h2,hm,h1,aa ⟨by omega,c0.1,c0.2⟩]
    rw[hw];refine⟨λg=> ?_,λg=> ?_,λg1 g2=>⟨?_,?_,?_,?_⟩⟩
    ·rcases hv with rfl|rfl<;>omega
    ·rw[hm]at hend;rcases hv with rfl|rfl<;>omega
    ·rcases hv with rfl|rfl<;>omega
    ·omega
    ·unfold plL;rw[aa (by omega),h1,h2,hm];rcases hv with rfl|rfl<;>omega
    ·intro v w1 w2;unfold plL;rw[aa (by omega),h1,h2,hm];rcases hv with rfl|rfl<;>omega
   ·have hw:wF z (c::l)=wF z l:=by
     show(if _ then _ else _)=_;rw[h2,hm,ab λg=>c0 g.2]
    refine⟨λg=> ?_,λg=> ?_,λg1 g2=> ?_⟩
    ·rw[hw];exact i1 (by rcases hv with rfl|rfl<;>omega)
    ·rw[hw];exact i2 g
    ·refine key (by rcases hv with rfl|rfl<;>omega) g2 hw ?_;intro v w1 w2;rcases hv with rfl|rfl<;>omega
  ·have hw:wF z (c::l)=wF z l:=by
    show(if _ then _ else _)=_;rw[ab λg=>g.1 hm]
   rw[hm]at i1 i3 key;simp only[Int.zero_mul,Int.add_zero]at i1 i3 key;refine⟨λg=> ?_,λg=> ?_,λg1 g2=> ?_⟩
   ·rw[hw];exact i1 g
   ·rw[hw];exact i2 g
   ·refine key g1 g2 hw ?_;intro v w1 w2;rcases hv with rfl|rfl<;>omega
theorem Q1l {t:Trk} (h:TQ t) {z:Int} (hz:i64 z):∀(k j:Nat),j+k=t.aD.length->wF z (t.aD.drop j)= -1/\Am Pj [I z, .view At (t.aD.map AL),I t.aD.length,I j]=some (2,[])\/
  Am Pj [I z, .view At (t.aD.map AL),I t.aD.length,I j]=some (1,[I (wF z (t.aD.drop j))])
 |0,j,hj=>by
  left;rw[List.drop_of_length_le (by omega)];refine⟨rfl,Bf (o:=(2,_)) ?_ (by simp)⟩;rw[Quj,A3 (by omega)]
 |k+1,j,hj=>by
  have hlt:j<t.aD.length:=by omega
  have hcnt:=h.count;have hin:(0:Int)<=(j:Int)/\(j:Int)<(t.aD.length:Int):=by omega
  have hpos:=h.pos j hlt;have hl:=h.len;have hs:=h.s j hlt;have hmv:=h.move j hlt;have e:t.aD.drop j=pcA t.aD j::t.aD.drop (j+1):=by
   have e1:pcA t.aD j=t.aD[j]:=by unfold pcA;simp[hlt]
   rw[e1];exact OY _ _ hlt
  have hst:Pj [I z, .view At (t.aD.map AL),I t.aD.length,I j]=if(pcA t.aD j).move≠0/\0<=(z-(pcA t.aD j).s)*(pcA t.aD j).move/\(z-(pcA t.aD j).s)*(pcA t.aD j).move<=(pcA t.aD j).units then
    some (1,[I ((pcA t.aD j).at_+(z-(pcA t.aD j).s)*(pcA t.aD j).move)])else some (0,[I z, .view At (t.aD.map AL),I t.aD.length,I (j+1:Nat)]):=by
   rw[Quj];simp only[go_sem,ag,aj,R1 hlt,aa hin,Ae (x:=(j:Int)+1) (by omega)];rw[aa (by omega)];unfold eI at hpos;unfold i64 at hz;generalize pcA t.aD j=c at*;have wrap2:∀y:Int,-9223372036854775808-2000000000000000<=y->y<=9223372036854775807+2000000000000000->(wrap .i64 y=y/\ -9223372036854775808<=y/\y<=9223372036854775807)\/(wrap .i64 y=y+18446744073709551616/\y< -9223372036854775808)\/(wrap .i64 y=y-18446744073709551616/\y>9223372036854775807):=by
    intro y y1 y2;have hw:=Zye y;unfold i64 at hw;by_cases c1: -9223372036854775808<=y/\y<=9223372036854775807
    ·exact .inl ⟨Ae c1,c1⟩
    ·have:=Qib y;omega
   by_cases c0:c.move=0
   ·have hP: ¬(c.move≠0/\0<=(z-c.s)*c.move/\(z-c.s)*c.move<=c.units):=λg=>g.1 c0;rw[ab (by omega),ab hP];rfl
   ·rw[aa c0];have hm:c.move=1\/c.move= -1:=by omega
    have a1:=wrap2 (z-c.s) (by omega) (by omega);have hw2:wrap .i64 (wrap .i64 (z-c.s)*c.move)=(z-c.s)*c.move\/((wrap .i64 (wrap .i64 (z-c.s)*c.move)<0\/wrap .i64 (wrap .i64 (z-c.s)*c.move)>1000000000000000)/\((z-c.s)*c.move<0\/(z-c.s)*c.move>1000000000000000)):=by
     generalize wrap .i64 (z-c.s)=y at*;have a2:=wrap2 (y*c.move) (by rcases hm with hm|hm<;>rw[hm]<;>omega) (by rcases hm with hm|hm<;>rw[hm]<;>omega);rcases hm with hm|hm<;>rw[hm]at a2⊢<;>omega
    generalize wrap .i64 (wrap .i64 (z-c.s)*c.move)=n at*;by_cases c1:0<=(z-c.s)*c.move/\(z-c.s)*c.move<=c.units
    ·have en:n=(z-c.s)*c.move:=by omega
     have hP:c.move≠0/\0<=(z-c.s)*c.move/\(z-c.s)*c.move<=c.units:=⟨c0,c1⟩;rw[aa hP,en,aa c1.1,aa c1.2,Ae (by omega)]
    ·have hP: ¬(c.move≠0/\0<=(z-c.s)*c.move/\(z-c.s)*c.move<=c.units):=λg=>c1 g.2;rw[ab hP];by_cases c2:0<=n
     ·rw[aa c2,ab (by omega)];rfl
     ·rw[ab c2];rfl
  rw[e];by_cases c:(pcA t.aD j).move≠0/\0<=(z-(pcA t.aD j).s)*(pcA t.aD j).move/\(z-(pcA t.aD j).s)*(pcA t.aD j).move<=(pcA t.aD j).units
  ·rw[aa c]at hst;right;rw[Bf hst (by simp)];unfold wF;rw[aa c]
  ·rw[ab c]at hst;rw[BC hst];unfold wF;rw[ab c];exact Q1l h hz k (j+1) (by omega)
theorem Zyq {t:Trk} (h:TQ t) {z:Int} (hz:i64 z):Om (A_ t++[I z])=some [I (A9 t z)]:=by
 have he:=Ziz K4 (t.aD.map AL) t.length t.start t.dirs.x t.dirs.y t.dirs.z z;unfold Om;refine Eq.trans he ?_;unfold A9;rw[ag];by_cases c:z=t.start
 ·rw[aa c,Bx (by simp[c])]
 ·rw[ab c,Bk (by simp[c])];rcases Q1l h hz t.aD.length 0 (by omega)with⟨h1,h2⟩|h2
  ·rw[List.drop_zero]at h1;have h2':K4 [I z, .view At (t.aD.map AL),I t.aD.length,I 0]=some (2,[]):=h2;generalize K4=N at*;rw[h1];simp only[h2',go_sem];rfl
  ·rw[List.drop_zero]at h2;have h2':K4 [I z, .view At (t.aD.map AL),I t.aD.length,I 0]=some (1,[I (wF z t.aD)]):=h2;generalize K4=N at*;simp only[h2',go_sem]
def PF:List Pce->List Pce->Prop
 |[],_=>True
 |_::_,[]=>False
 |[c],c'::_=>c'.at_=c.at_/\c'.s=c.s/\c'.move=c.move/\c'.was=c.was/\c'.dirs=c.dirs/\c.units<=c'.units
 |c::d::l,c'::l'=>c'=c/\PF (d::l) l'
def NA:List Pce->Int->List Pce
 |[],_=>[]
 |[c],k=>[{c with units:=c.units+k}]
 |c::d::l,k=>c::NA (d::l) k
theorem Qg:∀l,PF l l
 |[]=>trivial
 |[c]=>⟨rfl,rfl,rfl,rfl,rfl,cg _⟩
 |c::d::l=>⟨rfl,Qg (d::l)⟩
theorem Quq {m:List Pce}:∀{s t:List Pce},PF s t->PF s (t++m)
 |[],_,_=>trivial
 |_::_,[],h=>absurd h (by simp[PF])
 |[c],c'::t,h=>h
 |c::d::l,c'::t,h=>⟨h.1,Quq (m:=m) h.2⟩
theorem Qxh {k:Int} (hk:0<=k):∀{s t:List Pce},PF s t->PF s (NA t k)
 |[],_,_=>trivial
 |_::_,[],h=>absurd h (by simp[PF])
 |[c],[c'],h=>⟨h.1,h.2.1,h.2.2.1,h.2.2.2.1,h.2.2.2.2.1,by have:=h.2.2.2.2.2;simp only;omega⟩
 |[c],c'::d'::t,h=>h
 |c::d::l,[c'],h=>absurd h.2 (by simp[PF])
 |c::d::l,c'::d'::t,h=>⟨h.1,Qxh hk (s:=d::l) (t:=d'::t) h.2⟩
theorem Qsc {k1 k2:Int} (hk:k1<=k2):∀l,PF (NA l k1) (NA l k2)
 |[]=>trivial
 |[c]=>⟨rfl,rfl,rfl,rfl,rfl,by simp only;omega⟩
 |c::d::l=>by
  have ih:=Qsc hk (d::l);cases l with
  |nil=>exact⟨rfl,ih⟩
  |cons e l=>exact⟨rfl,ih⟩
theorem Q6w {c1 c2:Pce} (h:PF [c1] [c2]):∀l,PF (l++[c1]) (l++[c2])
 |[]=>h
 |[c]=>⟨rfl,h⟩
 |c::d::l=>⟨rfl,Q6w h (d::l)⟩
theorem Qvy:∀{l:List Pce} (_:l≠[]) (k:Int),l.set (l.length-1) {AX l with units:=(AX l).units+k}=NA l k
 |[],h,_=>absurd rfl h
 |[c],_,k=>rfl
 |c::d::l,_,k=>by
  have ih:=Qvy (l:=d::l) (by simp) k;have e:AX (c::d::l)=AX (d::l):=by unfold AX;simp
  have e2:(c::d::l).length-1=((d::l).length-1)+1:=by simp
  rw[e,e2,List.set_cons_succ,ih];rfl
theorem Qbe (t:Trk) (c:Pce):(D9 t c).aD=if t.aD≠[]/\c.move≠0/\(AX t.aD).move=c.move/\(AX t.aD).dirs=c.dirs then NA t.aD c.units else t.aD++[{c with at_:=t.length}]:=by
 unfold D9;by_cases g:t.aD≠[]/\c.move≠0/\(AX t.aD).move=c.move/\(AX t.aD).dirs=c.dirs
 ·rw[aa g,aa g];exact Qvy g.1 _
 ·rw[ab g,ab g]
theorem Qsu {s:List Pce} {t:Trk} {c:Pce} (h:PF s t.aD) (hu:0<=c.units):PF s (D9 t c).aD:=by
 rw[Qbe];split
 ·exact Qxh hu h
 ·exact Quq h
theorem Zqz {t:Trk} {c:Pce} {u1 u2:Int} (hu:u1<=u2):PF (D9 t {c with units:=u1}).aD (D9 t {c with units:=u2}).aD:=by
 rw[Qbe,Qbe];by_cases g:t.aD≠[]/\c.move≠0/\(AX t.aD).move=c.move/\(AX t.aD).dirs=c.dirs
 ·rw[aa g,aa g];exact Qsc hu _
 ·rw[ab g,ab g];refine Q6w ?_ _;exact⟨rfl,rfl,rfl,rfl,rfl,hu⟩
theorem Q5y {x:Ax3} {mv:Int} {a b:Pt} {s u1 u2:Int} {st:Trk×Pt} (hu:u1<=u2):PF (B4 x mv a b s u1 st).1.aD (B4 x mv a b s u2 st).1.aD:=by
 unfold B4;exact Zqz (c:=⟨0,0,s,mv,Dt st.2 a b mv,Dt st.2 a b mv⟩) hu
theorem Z2v {x:Ax3} {mv:Int} {a b:Pt} {s u:Int} {st:Trk×Pt} {l:List Pce} (h:PF l st.1.aD) (hu:0<=u):PF l (B4 x mv a b s u st).1.aD:=by
 unfold B4;refine Qsu ?_ hu;by_cases c:CQ x st.2 (Dt st.2 a b mv)>0
 ·rw[aa c];exact Qsu h (by simp only;omega)
 ·rw[ab c];exact h
theorem TD {p:Pth} {x:Ax3} {mv lo hi:Int} {i:Nat} {st:Trk×Pt} {l:List Pce} (h:PF l st.1.aD):PF l (Ct p x mv lo hi i st).1.aD:=by
 unfold Ct;split
 ·exact Z2v h (by omega)
 ·exact h
theorem Q9u {x:Ax3} {mv:Int} {Q:Int->Pt->Prop} {mv':Int} {Q':Int->Pt->Prop}:∀{a s:Int} {d:Pt} {l m:List Pce} {s':Int} {d':Pt},Dv x mv Q a s d l->Dv x mv' Q' a s' d' m->PF l m->BO a l<=BO a m
 |a,s,d,[],m,_,_,_,h2,_=>Qv h2
 |a,s,d,_::_,[],_,_,_,_,h=>absurd h (by simp[PF])
 |a,s,d,[c],c'::m,_,_,h1,h2,h=>by
  have:=Qv h2.2.2.2.2;have:=h.2.2.2.2.2;simp only[BO]at*;omega
 |a,s,d,c::e::l,c'::m,_,_,h1,h2,h=>by
  obtain⟨rfl,h'⟩:=h;show BO (a+c'.units) (e::l)<=BO (a+c'.units) m;exact Q9u h1.2.2.2.2 h2.2.2.2.2 h'
theorem Q7g {x:Ax3} {mv:Int} {Q:Int->Pt->Prop} (A:Axs) (g:Int->Int) (f:Pt->Int):∀{a s:Int} {d:Pt} {l m:List Pce} {u:Int},Dv x mv Q a s d l->PF l m->l≠[]->u<=BO a l->plL l u=plL m u/\PA A g f l u=PA A g f m u
 |_,_,_,[],_,_,_,_,h,_=>absurd rfl h
 |_,_,_,_::_,[],_,_,h,_,_=>absurd h (by simp[PF])
 |a,s,d,[c],c'::m,u,h1,h,_,hu=>by
  obtain⟨k1,k2,k3,k4,k5,k6⟩:=h;have ha:=h1.1;simp only[BO]at hu;unfold plL PA Qvk;rw[aa (show u<=c.at_+c.units by omega),aa (show u<=c.at_+c.units by omega),aa (show u<=c'.at_+c'.units by omega),aa (show u<=c'.at_+c'.units by omega),k1,k2,k3,k4,k5];exact⟨rfl,rfl⟩
 |a,s,d,c::e::l,c'::m,u,h1,h,_,hu=>by
  obtain⟨rfl,h'⟩:=h;unfold plL PA;by_cases c0:u<=c'.at_+c'.units
  ·rw[aa c0,aa c0,aa c0,aa c0];exact⟨rfl,rfl⟩
  ·rw[ab c0,ab c0,ab c0,ab c0];exact Q7g A g f h1.2.2.2.2 h' (by simp) hu
theorem Yj {p:Pth} {x:Ax3} {mv lo hi c f:Int} {d:Pt} (hv:mv=1\/mv= -1) (hp:SegOK p.aE) (hlo:0<=lo/\lo<=c/\c<=hi/\hi<=Aw p.aE):∀j,j<=p.aE.length->
  (Bi p x mv (if mv<0 then c else lo) (if mv<0 then hi else c) (⟨[],0,f,d⟩,d) j=Bi p x mv lo hi (⟨[],0,f,d⟩,d) j)\/
  (PF (Bi p x mv (if mv<0 then c else lo) (if mv<0 then hi else c) (⟨[],0,f,d⟩,d) j).1.aD (Bi p x mv lo hi (⟨[],0,f,d⟩,d) j).1.aD/\(if mv<0 then Av p.aE (p.aE.length-j)<=c else c<=Av p.aE j))
 |0,_=> .inl rfl
 |j+1,hj=>by
  have hil:=SK mv (show j<p.aE.length by omega);have hg:=hp.seg _ (GL hil);have hsucc:=Nl hil;have ih:=Yj hv hp hlo (f:=f) (d:=d) (x:=x) j (by omega);rw[Bi,Bi];have hcase:(mv=1/\C5 p.aE.length mv j=j)\/(mv= -1/\C5 p.aE.length mv j=p.aE.length-1-j):=by
   unfold C5;rcases hv with rfl|rfl
   ·exact .inl ⟨rfl,ab (by omega)⟩
   ·exact .inr ⟨rfl,aa (by omega)⟩
  rcases hcase with⟨rfl,e⟩|⟨rfl,e⟩
  ·rw[e]at hil hg hsucc⊢;have n1: ¬(1:Int)<0:=by omega
   simp only[ab n1]at ih⊢;generalize Bi p x 1 lo c (⟨[],0,f,d⟩,d) j=S at*;generalize Bi p x 1 lo hi (⟨[],0,f,d⟩,d) j=T at*;rcases ih with rfl|⟨ih,hdone⟩
   ·by_cases c1:Av p.aE (j+1)<=c
    ·left;have e1:min (Av p.aE (j+1)) c=min (Av p.aE (j+1)) hi:=by omega
     unfold Ct;rw[e1]
    ·right;refine⟨?_,by omega⟩;have e1:min (Av p.aE (j+1)) c=c:=by omega
     by_cases c2:max (Av p.aE j) lo<c
     ·unfold Ct;have c3:max (Av p.aE j) lo<min (Av p.aE (j+1)) hi:=by omega
      rw[e1,aa c2,aa c3,ab n1,ab n1];exact Q5y (by omega)
     ·have hS:Ct p x 1 lo c j S=S:=by unfold Ct;rw[e1,ab c2]
      rw[hS];exact TD (Qg _)
   ·right;refine⟨?_,by omega⟩;have hS:Ct p x 1 lo c j S=S:=by unfold Ct;rw[ab (by omega)]
    rw[hS];exact TD ih
  ·have e3:p.aE.length-j=p.aE.length-1-j+1:=by omega
   have e4:p.aE.length-(j+1)=p.aE.length-1-j:=by omega
   rw[e]at hil hg hsucc⊢;have n1:(-1:Int)<0:=by omega
   simp only[aa n1]at ih⊢;rw[e3]at ih;rw[e4];generalize p.aE.length-1-j=i at*;generalize Bi p x (-1) c hi (⟨[],0,f,d⟩,d) j=S at*;generalize Bi p x (-1) lo hi (⟨[],0,f,d⟩,d) j=T at*;rcases ih with rfl|⟨ih,hdone⟩
   ·by_cases c1:c<=Av p.aE i
    ·left;have e1:max (Av p.aE i) c=max (Av p.aE i) lo:=by omega
     unfold Ct;rw[e1]
    ·right;refine⟨?_,by omega⟩;have e1:max (Av p.aE i) c=c:=by omega
     by_cases c2:c<min (Av p.aE (i+1)) hi
     ·unfold Ct;have c3:max (Av p.aE i) lo<min (Av p.aE (i+1)) hi:=by omega
      rw[e1,aa c2,aa c3,aa n1,aa n1];exact Q5y (by omega)
     ·have hS:Ct p x (-1) c hi i S=S:=by unfold Ct;rw[e1,ab c2]
      rw[hS];exact TD (Qg _)
   ·right;refine⟨?_,by omega⟩;have hS:Ct p x (-1) c hi i S=S:=by unfold Ct;rw[ab (by omega)]
    rw[hS];exact TD ih
theorem Z3f {p:Pth} {x:Ax3} {d:Pt} {a b c:Int} (hp:GoodPath p) (ha:0<=a/\a<=Aw p.aE) (hb:0<=b/\b<=Aw p.aE) (hc:(a<=c/\c<=b)\/(b<=c/\c<a)):
  PF (Bb p x d a c).aD (Bb p x d a b).aD:=by
 have hn:=O7 hp;have ca:A5 a (Aw p.aE)=a:=by unfold A5;omega
 have cb:A5 b (Aw p.aE)=b:=by unfold A5;omega
 have cc:A5 c (Aw p.aE)=c:=by unfold A5;omega
 unfold Bb;simp only[ca,cb,cc];rcases hc with hc|hc
 ·rw[ab (show¬a>c by omega),ab (show¬a>b by omega),show min a c=a by omega,show max a c=c by omega,show min a b=a by omega,show max a b=b by omega];have h:=Yj (x:=x) (mv:=1) (lo:=a) (hi:=b) (c:=c) (f:=a) (d:=d) (.inl rfl) hp.ok (by omega) p.aE.length (bz _);have n1: ¬(1:Int)<0:=by omega
  simp only[ab n1]at h;rcases h with h|h
  ·rw[h];exact Qg _
  ·exact h.1
 ·rw[aa (show a>c by omega),aa (show a>b by omega),show min a c=c by omega,show max a c=a by omega,show min a b=b by omega,show max a b=a by omega];have h:=Yj (x:=x) (mv:= -1) (lo:=b) (hi:=a) (c:=c) (f:=a) (d:=d) (.inr rfl) hp.ok (by omega) p.aE.length (bz _);have n1:(-1:Int)<0:=by omega
  simp only[aa n1]at h;rcases h with h|h
  ·rw[h];exact Qg _
  ·exact h.1
end Go.Bm
namespace Go.Bm
theorem Zgr {a b v u q r:Nat} (hU:v<a*4294967296+b) (hu:u<4294967296) (hq:v=q*a+r) (h:4294967296<=q\/r*4294967296+u<q*b):(v*4294967296+u)/(a*4294967296+b)<q:=by
 have hy:0<a*4294967296+b:=by omega
 rw[Nat.div_lt_iff_lt_mul hy];rcases h with h|h
 ·have h1:4294967296*(a*4294967296+b)<=q*(a*4294967296+b):=be _ h;omega
 ·have e:q*(a*4294967296+b)=q*a*4294967296+q*b:=by rw[Nat.mul_add,Nat.mul_assoc]
  rw[e];clear e;generalize q*a=p at*;generalize q*b=t at*;subst hq;rw[Nat.add_mul p r 4294967296,Nat.add_assoc];exact Nat.add_lt_add_left h _
theorem Q72 {a b v u q r:Nat} (hU:v<a*4294967296+b) (hq:v=q*a+r) (h:q*b<=r*4294967296+u):q<=(v*4294967296+u)/(a*4294967296+b):=by
 have hy:0<a*4294967296+b:=by omega
 rw[Nat.le_div_iff_mul_le hy];have e:q*(a*4294967296+b)=q*a*4294967296+q*b:=by rw[Nat.mul_add,Nat.mul_assoc]
 rw[e];generalize q*a=p at*;generalize q*b=t at*;omega
theorem Q96 {a b v u:Nat} (hU:v<a*4294967296+b) (hu:u<4294967296):(v*4294967296+u)/(a*4294967296+b)<4294967296:=by
 rw[Nat.div_lt_iff_lt_mul (by omega)];omega
theorem Qwq {q b:Nat} (hq:q<4294967296) (hb:b<4294967296):q*b<=18446744065119617025:=by
 have:=dp (show q<=4294967295 by omega) (show b<=4294967295 by omega);omega
theorem WJ {α:Type} {F G:Nat->Nat->Option α} {a b v u Q:Nat} (hQ:(v*4294967296+u)/(a*4294967296+b)=Q) (hb:b<4294967296) (ha:2147483648<=a) (ha2:a<4294967296) (hU:v<a*4294967296+b) (hu:u<4294967296) {X:α}
  (hF:∀q r:Nat,q<=4294967297->r<4294967296->F q r=if 4294967296<=q\/r*4294967296+u<q*b then(if 4294967296<=r+a then G (q-1) 0 else F (q-1) (r+a))else G q 0)
  (hG:G Q 0=some X):∀(k q r:Nat),q<=Q+k->Q<=q->v=q*a+r->r<4294967296->q<=4294967297->F q r=some X
 |k,q,r,hk,h1,h2,h3,h4=>by
  rw[hF q r h4 h3];by_cases c:4294967296<=q\/r*4294967296+u<q*b
  ·rw[aa c];have h5:=Zgr hU hu h2 c;rw[hQ]at h5;have e:v=(q-1)*a+(r+a):=by
    have:(q-1)*a+a=q*a:=by rw[<-Nat.succ_mul];congr 1;omega
    omega
   by_cases c2:4294967296<=r+a
   ·rw[aa c2];have h6:(q-1)*b<=(r+a)*4294967296+u:=by
     have:=dp (show q-1<=4294967296 by omega) (show b<=4294967296 by omega);omega
    have h7:=Q72 hU e h6;rw[hQ]at h7;rw[show q-1=Q by omega];exact hG
   ·rw[ab c2]
    match k with
    |0=>omega
    |k+1=>exact WJ hQ hb ha ha2 hU hu hF hG k (q-1) (r+a) (by omega) (by omega) e (by omega) (by omega)
  ·rw[ab c];have h7:=Q72 (u:=u) hU h2 (by omega);rw[hQ]at h7;rw[show q=Q by omega];exact hG
theorem Qvs {a b v u:Nat} (hb:b<4294967296) (ha:2147483648<=a) (hU:v<a*4294967296+b) (hu:u<4294967296):(v*4294967296+u)/(a*4294967296+b)<=v/a/\v/a<=4294967297/\v=v/a*a+v%a/\v%a<a:=by
 have e:v=v/a*a+v%a:=by have:=Nat.div_add_mod v a;rw[Nat.mul_comm]at this;omega
 have hm:v%a<a:=Nat.mod_lt _ (by omega);refine⟨?_,?_,e,hm⟩
 ·rw[<-Nat.lt_succ_iff,Nat.div_lt_iff_lt_mul (by omega)];have e2:(v/a).succ*(a*4294967296+b)=(v/a*a+a)*4294967296+(v/a).succ*b:=by rw[Nat.mul_add,<-Nat.mul_assoc,Nat.succ_mul]
  rw[e2];omega
 ·rw[<-Nat.lt_succ_iff,Nat.div_lt_iff_lt_mul (by omega)];omega
theorem wr {x:Nat} (h:x<=18446744073709551615):wrap .u64 (x:Int)=x:=HR (by omega)
theorem Z4o {M:Fn} {y s v0:Int} {a b v u:Nat} (hb:b<4294967296) (ha:2147483648<=a) (ha2:a<4294967296) (hU:v<a*4294967296+b) (hu:u<4294967296):
  Am (LO M) [U y,U s,U a,U b,U v,U u,U v0,U ((v/a:Nat):Int),U ((v%a:Nat):Int)]=some (1,[U y,U s,U a,U b,U v,U u,U v0,U (((v*4294967296+u)/(a*4294967296+b):Nat):Int)]):=by
 obtain⟨f1,f2,f3,f4⟩:=Qvs hb ha hU hu;refine WJ (F:=λq r=>Am (LO M) [U y,U s,U a,U b,U v,U u,U v0,U q,U r]) (G:=λq _=>some (1,[U y,U s,U a,U b,U v,U u,U v0,U q])) rfl hb ha ha2 hU hu ?_ rfl (v/a) _ _ (Nat.le_add_left _ _) f1 f3 (by omega) f2;intro q r hq hr;have w1:wrap .u64 ((r:Int)+(a:Int))=((r+a:Nat):Int):=by rw[<-Int.natCast_add,wr (by omega)]
 have w3:wrap .u64 (wrap .u64 (4294967296*(r:Int))+(u:Int))=((r*4294967296+u:Nat):Int):=by rw[show(4294967296:Int)*r=((r*4294967296:Nat):Int) by omega,wr (by omega),<-Int.natCast_add,wr (by omega)]
 have w4:4294967296<=q->wrap .u64 ((q:Int)-1)=((q-1:Nat):Int):=λh=>by rw[show(q:Int)-1=((q-1:Nat):Int) by omega,wr (by omega)]
 have hst:=Zst (DX:=M) y s a b v u v0 q r;rw[w1,w3]at hst;by_cases c1:4294967296<=q
 ·rw[DI (show(q:Int)>=4294967296 by omega),w4 c1]at hst;show _=if _ then _ else _;rw[aa (.inl c1)];by_cases c2:4294967296<=r+a
  ·rw[DI (show((r+a:Nat):Int)>=4294967296 by omega)]at hst;rw[aa c2];exact Bf hst (by simp)
  ·rw[A3 (show¬((r+a:Nat):Int)>=4294967296 by omega)]at hst;rw[ab c2];exact BC hst
 ·have hqb:=Qwq (q:=q) (b:=b) (by omega) hb;rw[A3 (show¬(q:Int)>=4294967296 by omega),<-Int.natCast_mul,wr (cd hqb (by decide))]at hst;show _=if _ then _ else _;by_cases c3:r*4294967296+u<q*b
  ·rw[DI (show((q*b:Nat):Int)>((r*4294967296+u:Nat):Int) by omega)]at hst;rw[aa (.inr c3)];have hq0:0<q:=by
    rcases Nat.eq_zero_or_pos q with h|h
    ·rw[h]at c3;omega
    ·exact h
   rw[show(q:Int)-1=((q-1:Nat):Int) by omega,wr (by omega)]at hst;by_cases c2:4294967296<=r+a
   ·rw[DI (show((r+a:Nat):Int)>=4294967296 by omega)]at hst;rw[aa c2];exact Bf hst (by simp)
   ·rw[A3 (show¬((r+a:Nat):Int)>=4294967296 by omega)]at hst;rw[ab c2];exact BC hst
  ·rw[A3 (show¬((q*b:Nat):Int)>((r*4294967296+u:Nat):Int) by omega)]at hst;rw[ab (λh=>h.elim c1 c3)];exact Bf hst (by simp)
theorem Zok {M:Fn} {N:Lp} {y s q1 w:Int} {a b v u:Nat} (hb:b<4294967296) (ha:2147483648<=a) (ha2:a<4294967296) (hU:v<a*4294967296+b) (hu:u<4294967296):
  Am (Pi M N) [U y,U s,U a,U b,U u,U q1,U ((v%a:Nat):Int),U w,U ((v/a:Nat):Int)]=some (1,[U y,U s,U u,U q1,U w,U (((v*4294967296+u)/(a*4294967296+b):Nat):Int)]):=by
 obtain⟨f1,f2,f3,f4⟩:=Qvs hb ha hU hu;refine WJ (F:=λq r=>Am (Pi M N) [U y,U s,U a,U b,U u,U q1,U r,U w,U q]) (G:=λq _=>some (1,[U y,U s,U u,U q1,U w,U q])) rfl hb ha ha2 hU hu ?_ rfl (v/a) _ _ (Nat.le_add_left _ _) f1 f3 (by omega) f2;intro q r hq hr;have w1:wrap .u64 ((r:Int)+(a:Int))=((r+a:Nat):Int):=by rw[<-Int.natCast_add,wr (by omega)]
 have w3:wrap .u64 (wrap .u64 (4294967296*(r:Int))+(u:Int))=((r*4294967296+u:Nat):Int):=by rw[show(4294967296:Int)*r=((r*4294967296:Nat):Int) by omega,wr (by omega),<-Int.natCast_add,wr (by omega)]
 have w4:4294967296<=q->wrap .u64 ((q:Int)-1)=((q-1:Nat):Int):=λh=>by rw[show(q:Int)-1=((q-1:Nat):Int) by omega,wr (by omega)]
 have hst:=Znf (DX:=M) (N17:=N) y s a b u q1 r w q;rw[w1,w3]at hst;by_cases c1:4294967296<=q
 ·rw[DI (show(q:Int)>=4294967296 by omega),w4 c1]at hst;show _=if _ then _ else _;rw[aa (.inl c1)];by_cases c2:4294967296<=r+a
  ·rw[DI (show((r+a:Nat):Int)>=4294967296 by omega)]at hst;rw[aa c2];exact Bf hst (by simp)
  ·rw[A3 (show¬((r+a:Nat):Int)>=4294967296 by omega)]at hst;rw[ab c2];exact BC hst
 ·have hqb:=Qwq (q:=q) (b:=b) (by omega) hb;rw[A3 (show¬(q:Int)>=4294967296 by omega),<-Int.natCast_mul,wr (cd hqb (by decide))]at hst;show _=if _ then _ else _;by_cases c3:r*4294967296+u<q*b
  ·rw[DI (show((q*b:Nat):Int)>((r*4294967296+u:Nat):Int) by omega)]at hst;rw[aa (.inr c3)];have hq0:0<q:=by
    rcases Nat.eq_zero_or_pos q with h|h
    ·rw[h]at c3;omega
    ·exact h
   rw[show(q:Int)-1=((q-1:Nat):Int) by omega,wr (by omega)]at hst;by_cases c2:4294967296<=r+a
   ·rw[DI (show((r+a:Nat):Int)>=4294967296 by omega)]at hst;rw[aa c2];exact Bf hst (by simp)
   ·rw[A3 (show¬((r+a:Nat):Int)>=4294967296 by omega)]at hst;rw[ab c2];exact BC hst
  ·rw[A3 (show¬((q*b:Nat):Int)>((r*4294967296+u:Nat):Int) by omega)]at hst;rw[ab (λh=>h.elim c1 c3)];exact Bf hst (by simp)
theorem Q2h {s:Nat} (hs:s<=63):(2:Int)^min (Int.toNat (s:Int)) IntKind.u64.bits=((2^s:Nat):Int):=by
 have e:min (Int.toNat (s:Int)) IntKind.u64.bits=s:=by
  show min (Int.toNat (s:Int)) 64=s;omega
 rw[e];simp
theorem Z5f {s:Nat} (hs:s<=63):(2:Int)^min (Int.toNat ((64-s:Nat):Int)) IntKind.u64.bits=((2^(64-s):Nat):Int):=by
 have e:min (Int.toNat ((64-s:Nat):Int)) IntKind.u64.bits=64-s:=by
  show min (Int.toNat ((64-s:Nat):Int)) 64=64-s;omega
 rw[e];simp
theorem Qqf (x y:Nat):((x:Int)).fdiv (y:Int)=((x/y:Nat):Int):=by
 rw[Int.fdiv_eq_ediv_of_nonneg _ (by omega)];rfl
theorem Qfr (x y:Nat):((x:Int)).tdiv (y:Int)=((x/y:Nat):Int):=by
 rw[bj (by omega)];rfl
theorem orP {A B s:Nat} (hB:B<2^s) (h:A*2^s+B<w64):wrap .u64 (((BitVec.ofInt IntKind.u64.bits ((A*2^s:Nat):Int)|||BitVec.ofInt IntKind.u64.bits (B:Int)).toNat:Nat):Int)=((A*2^s+B:Nat):Int):=by
 rw[BT]at h;have e:(BitVec.ofInt IntKind.u64.bits ((A*2^s:Nat):Int)|||BitVec.ofInt IntKind.u64.bits (B:Int)).toNat=A*2^s+B:=by
  rw[BitVec.toNat_or];have e1:∀v:Nat,v<18446744073709551616->(BitVec.ofInt IntKind.u64.bits (v:Int)).toNat=v:=by
   intro v hv;simp only[IntKind.bits,BitVec.toNat_ofInt];omega
  have:=(Nat.two_pow_add_eq_or_of_lt hB A).symm;rw[Nat.mul_comm]at this;generalize A*2^s=X at*;rw[e1 _ (by omega),e1 _ (by omega)];exact this
 rw[e,wr (by omega)]
theorem Qqv {v u q1 y:Nat} (hy:y<w64) (hq:q1=(v*4294967296+u)/y) (hy0:0<y):wrap .u64 (wrap .u64 (wrap .u64 ((v:Int)*4294967296)+(u:Int))-wrap .u64 ((q1:Int)*(y:Int)))=(((v*4294967296+u)%y:Nat):Int):=by
 have h1:=Nat.div_add_mod (v*4294967296+u) y;have h2:=Nat.mod_lt (v*4294967296+u) hy0;rw[<-hq,Nat.mul_comm]at h1;rw[BT]at hy;rw[NN,NN,NN,NN,<-Int.natCast_mul];generalize q1*y=p at*;generalize(v*4294967296+u)%y=r at*;omega
theorem Q07 {v a:Nat} (ha:0<a) (hv:v<w64):wrap .u64 ((v:Int)-wrap .u64 (wrap .u64 ((v/a:Nat):Int)*(a:Int)))=((v%a:Nat):Int):=by
 have h1:=Nat.div_add_mod v a;have h2:=Nat.mod_lt v ha;have h3:=Nat.div_le_self v a;rw[BT]at hv;rw[wr (x:=v/a) (by omega),<-Int.natCast_mul];rw[Nat.mul_comm]at h1;generalize v/a*a=p at*;generalize v%a=r at*;rw[wr (x:=p) (by omega),show(v:Int)-(p:Int)=(r:Int) by omega,wr (by omega)]
theorem Zan {v u1 u0 Y:Nat} (hY:0<Y):(v*w64+(u1*4294967296+u0))/Y=(v*4294967296+u1)/Y*4294967296+((v*4294967296+u1)%Y*4294967296+u0)/Y/\
  (v*w64+(u1*4294967296+u0))%Y=((v*4294967296+u1)%Y*4294967296+u0)%Y:=by
 have e:v*w64+(u1*4294967296+u0)=((v*4294967296+u1)%Y*4294967296+u0)+(v*4294967296+u1)/Y*4294967296*Y:=by
  have h:=Nat.div_add_mod (v*4294967296+u1) Y;rw[Nat.mul_comm]at h;rw[BT];generalize(v*4294967296+u1)%Y=r at*;have e2:(v*4294967296+u1)/Y*4294967296*Y=(v*4294967296+u1)/Y*Y*4294967296:=by rw[Nat.mul_assoc,Nat.mul_comm 4294967296,<-Nat.mul_assoc]
  rw[e2];generalize(v*4294967296+u1)/Y*Y=p at*;omega
 rw[e,Nat.add_mul_div_right _ _ hY,Nat.add_mul_mod_self_right];exact⟨Nat.add_comm _ _,rfl⟩
theorem Zol {M:Fn} {hi lo y s:Nat} (h0:0<hi) (h1:hi<y) (hyw:y<w64) (hlo:lo<w64) (hs:s<=63) (h2:9223372036854775808<=y*2^s) (h3:y*2^s<w64) (hM:M [U y]=some [I s]):
  W6 M (Am (LO M)) (Am (Pi M (Am (LO M)))) [U hi,U lo,U y]=some [U (((hi*w64+lo)/y:Nat):Int),U (((hi*w64+lo)%y:Nat):Int)]:=by
 have hP:0<2^s:=Nat.two_pow_pos _;have hPT:2^s*2^(64-s)=w64:=by rw[BT,<-Nat.pow_add,show s+(64-s)=64 by omega]
 have hT:0<2^(64-s):=Nat.two_pow_pos _;have es:wrap .u64 (s:Int)=s:=wr (by omega);have et:wrap .u64 (64-(s:Int))=((64-s:Nat):Int):=by rw[show(64:Int)-s=((64-s:Nat):Int) by omega,wr (by omega)]
 have hB:lo/2^(64-s)<2^s:=by rw[Nat.div_lt_iff_lt_mul hT,hPT];exact hlo
 have hv:hi*2^s+lo/2^(64-s)<y*2^s:=by
  have:hi*2^s+2^s<=y*2^s:=by rw[<-Nat.succ_mul];exact be _ h1
  omega
 have hN:(hi*w64+lo)*2^s=(hi*2^s+lo/2^(64-s))*w64+lo*2^s%w64:=by
  have e1:lo*2^s/w64=lo/2^(64-s):=by
   rw[<-hPT,Nat.mul_comm lo,Nat.mul_div_mul_left _ _ hP]
  have e2:=Nat.div_add_mod (lo*2^s) w64;rw[e1]at e2;rw[Nat.add_mul,Nat.add_mul,Nat.add_assoc,Nat.mul_comm (lo/2^(64-s)),e2];congr 1;rw[Nat.mul_assoc,Nat.mul_comm w64,Nat.mul_assoc]
 have hU:lo*2^s%w64<w64:=Nat.mod_lt _ QZ;have ey:wrap .u64 ((y:Int)*((2^s:Nat):Int))=((y*2^s:Nat):Int):=by rw[<-Int.natCast_mul,wr (Nat.le_of_lt_succ (by rw[BT]at h3;exact h3))]
 have eh:wrap .u64 ((hi:Int)*((2^s:Nat):Int))=((hi*2^s:Nat):Int):=by
  rw[<-Int.natCast_mul,wr (Nat.le_of_lt_succ (by have:=Nat.mul_lt_mul_of_pos_right h1 hP;rw[BT]at h3;exact Nat.lt_trans this h3))]
 have el:wrap .u64 ((lo:Int)*((2^s:Nat):Int))=((lo*2^s%w64:Nat):Int):=by
  rw[<-Int.natCast_mul,NN,BT];rfl
 have eo:=orP (A:=hi) (B:=lo/2^(64-s)) (s:=s) hB (by omega);have hq:(hi*w64+lo)/y=(hi*w64+lo)*2^s/(y*2^s):=(Nat.mul_div_mul_right _ _ hP).symm;have hr:(hi*w64+lo)%y=(hi*w64+lo)*2^s%(y*2^s)/2^s:=by rw[Nat.mul_mod_mul_right,Nat.mul_div_cancel _ hP]
 rw[hq,hr,hN];rw[Q2y];simp only[hM,af,HE,LN,LH,Qj,Pb,RB,XO,Zh,HK,gA,jA,wA,bA,es,et,Q2h hs,Z5f hs,ey,eh,el,Qqf,eo];rw[Bk (by simp;omega),A3 (show¬(y:Int)<=hi by omega),Bk (by simp;omega),A3 (show¬(s:Int)<0 by omega),A3 (show¬(s:Int)<0 by omega),A3 (show¬((64-s:Nat):Int)<0 by omega),A3 (show¬(s:Int)<0 by omega)];rw[Qty,Qxg _ h3,Qty,Qxg _ hU];have hY:y*2^s=y*2^s/4294967296*4294967296+y*2^s%4294967296:=by omega
 have hW:lo*2^s%w64=lo*2^s%w64/4294967296*4294967296+lo*2^s%w64%4294967296:=by omega
 have hb:y*2^s%4294967296<4294967296:=Nat.mod_lt _ (by omega);have hu0:lo*2^s%w64%4294967296<4294967296:=Nat.mod_lt _ (by omega);have hu1:lo*2^s%w64/4294967296<4294967296:=by rw[BT]at hU⊢;omega
 have ha:2147483648<=y*2^s/4294967296:=by omega
 have ha2:y*2^s/4294967296<4294967296:=by rw[BT]at h3;omega
 clear hN hq hr eh el eo ey hB;generalize hi*2^s+lo/2^(64-s)=v at*;generalize lo*2^s%w64=w at*;generalize y*2^s=Y at*;generalize w/4294967296=u1 at*;generalize w%4294967296=u0 at*;generalize Y/4294967296=a at*;generalize Y%4294967296=b at*;subst hW;rw[A3 (show¬(a:Int)=0 by omega),Qfr,Q07 (by omega) (Nat.lt_trans hv h3),wr (x:=v/a) (by have:=Nat.div_le_self v a;rw[BT]at h3;omega)];have hl:=Z4o (M:=M) (y:=(Y:Int)) (s:=s) (v0:=u0) hb ha ha2 (by rw[<-hY];exact hv) hu1;rw[hl];rw[<-hY];have hY0:0<Y:=by omega
 have hr1:=Qqv (v:=v) (u:=u1) (y:=Y) h3 rfl hY0;have hq1:(v*4294967296+u1)/Y<4294967296:=by rw[hY];exact Q96 (by rw[<-hY];exact hv) hu1
 have hm1:=Nat.mod_lt (v*4294967296+u1) hY0;obtain⟨k1,k2⟩:=Zan (v:=v) (u1:=u1) (u0:=u0) hY0;rw[k1,k2];clear hl k1 k2;obtain⟨q1,g1⟩:∃q1,(v*4294967296+u1)/Y=q1:=⟨_,rfl⟩;obtain⟨r1,g2⟩:∃r1,(v*4294967296+u1)%Y=r1:=⟨_,rfl⟩;rw[g1]at hr1 hq1⊢;rw[g2]at hr1 hm1⊢;simp only[af,HE,LN,LH,Qj,Pb,RB,XO,Zh,HK,hr1];rw[show Nat.beq 1 1=true from rfl,ah,A3 (show¬(a:Int)=0 by omega),Qfr,Q07 (by omega) (Nat.lt_trans hm1 h3),wr (x:=r1/a) (by have:=Nat.div_le_self r1 a;rw[BT]at h3;omega)];have hl2:=Zok (M:=M) (N:=Am (LO M)) (y:=(Y:Int)) (s:=s) (q1:=q1) (w:=r1) hb ha ha2 (by rw[<-hY];exact hm1) hu0;rw[hl2];rw[<-hY];have hr0:=Qqv (v:=r1) (u:=u0) (y:=Y) h3 rfl hY0;have hq0:(r1*4294967296+u0)/Y<4294967296:=by rw[hY];exact Q96 (by rw[<-hY];exact hm1) hu0
 obtain⟨q0,g3⟩:∃q0,(r1*4294967296+u0)/Y=q0:=⟨_,rfl⟩;obtain⟨r0,g4⟩:∃r0,(r1*4294967296+u0)%Y=r0:=⟨_,rfl⟩;rw[g3]at hr0 hq0⊢;rw[g4]at hr0⊢;simp only[af,HE,LN,LH,Qj,Pb,RB,HK,hr0];rw[show Nat.beq 1 1=true from rfl,ah,A3 (show¬(s:Int)<0 by omega),Q2h hs,Qqf];have w1:wrap .u64 (wrap .u64 ((q1:Int)*4294967296)+(q0:Int))=((q1*4294967296+q0:Nat):Int):=by
  rw[show(q1:Int)*4294967296=((q1*4294967296:Nat):Int) by omega,wr (by omega),<-Int.natCast_add,wr (by omega)]
 rw[w1]
theorem Zr3 {y:Nat} (h0:0<y) (h:y<w64):∃s:Nat,Ia [U y]=some [I s]/\s<=63/\9223372036854775808<=y*2^s/\y*2^s<w64:=by
 have hw:=BT;obtain⟨b1,b2,b3⟩:=Lib.bitLenAux_bounds 64 y (by rw[<-show w64=2^64 by rw[hw]];exact h) (by omega);have hL:Lib.bitLen y=Lib.bitLenAux 64 y:=rfl;generalize hb:Lib.bitLenAux 64 y=L at*;have hL64:L<=64:=by
  by_cases c:L<=64
  ·exact c
  ·have:=Nat.pow_le_pow_right (show 0<2 by omega) (show 64<=L-1 by omega);rw[show(2:Nat)^64=18446744073709551616 from rfl]at this;omega
 refine⟨64-L,?_,by omega,?_,?_⟩
 ·unfold Ia;have e64:F2=18446744073709551616:=rfl;have hu:inU (y:Int)=true:=by
   simp only[inU,e64,ak,co];omega
  simp only[HE,HK,gA,jA,wA,bA,hu,ah,aj,hL];rw[show(64:Int)-(L:Int)=((64-L:Nat):Int) by omega]
 ·have e:2^(L-1)*2^(64-L)=9223372036854775808:=by rw[<-Nat.pow_add,show L-1+(64-L)=63 by omega]
  rw[<-e];exact be _ b2
 ·have e:2^L*2^(64-L)=w64:=by rw[<-Nat.pow_add,show L+(64-L)=64 by omega,hw]
  rw[<-e];exact Nat.mul_lt_mul_of_pos_right b3 (Nat.two_pow_pos _)
theorem Qx6 {hi lo y:Nat} (h1:hi<y) (hy:y<w64) (hlo:lo<w64):GN [U hi,U lo,U y]=some [U (((hi*w64+lo)/y:Nat):Int),U (((hi*w64+lo)%y:Nat):Int)]:=by
 rcases Nat.eq_zero_or_pos hi with h|h
 ·subst h;rw[Nat.zero_mul,Nat.zero_add];exact Q1f hlo h1
 ·obtain⟨s,e,e1,e2,e3⟩:=Zr3 (show 0<y by omega) hy;exact Zol h h1 hy hlo e1 e2 e3 e
theorem Zvl {M:Fn} (hM:∀{hi lo y:Nat},hi<y->y<w64->lo<w64->M [U hi,U lo,U y]=some [U (((hi*w64+lo)/y:Nat):Int),U (((hi*w64+lo)%y:Nat):Int)])
  {hi lo y:Nat} (hhi:hi<w64) (hlo:lo<w64) (hy0:0<y) (hy:y<w64):
  ∃qh ql:Nat,XK M [U hi,U lo,U y]=some [U qh,U ql,B (decide (0<(hi*w64+lo)%y))]/\qh<w64/\ql<w64/\qh*w64+ql=(hi*w64+lo)/y:=by
 have h1:=hM (hi:=0) (lo:=hi) hy0 hy hhi;rw[Nat.zero_mul,Nat.zero_add,show((0:Nat):Int)=0 from rfl]at h1;have hm:=Nat.mod_lt hi hy0;have h2:=hM (hi:=hi%y) (lo:=lo) hm hy hlo;have e:=Nat.div_add_mod hi y;have e2:hi*w64+lo=hi%y*w64+lo+hi/y*w64*y:=by
  have:hi*w64=hi/y*w64*y+hi%y*w64:=by
   rw[<-e,Nat.mul_add_mod,Nat.mod_mod];rw[show(y*(hi/y)+hi%y)/y=hi/y from by rw[e]];rw[Nat.add_mul,Nat.mul_comm y,Nat.mul_assoc,Nat.mul_comm y,Nat.mul_assoc]
  omega
 have hq:(hi*w64+lo)/y=(hi%y*w64+lo)/y+hi/y*w64:=by rw[e2,Nat.add_mul_div_right _ _ hy0]
 have hr:(hi*w64+lo)%y=(hi%y*w64+lo)%y:=by rw[e2,Nat.add_mul_mod_self_right]
 have hlt:(hi%y*w64+lo)/y<w64:=by
  rw[Nat.div_lt_iff_lt_mul hy0];have:hi%y*w64+w64<=y*w64:=by rw[<-Nat.succ_mul];exact be _ hm
  rw[Nat.mul_comm w64];omega
 refine⟨hi/y,(hi%y*w64+lo)/y,?_,Nat.lt_of_le_of_lt (Nat.div_le_self _ _) hhi,hlt,by rw[hq];omega⟩;rw[Zfs];simp only[go_sem,h1,h2,hr];by_cases c:0<(hi%y*w64+lo)%y
 ·rw[an c,an (show(((hi%y*w64+lo)%y:Nat):Int)>0 by omega)]
 ·rw[ap c,ap (show¬(((hi%y*w64+lo)%y:Nat):Int)>0 by omega)]
theorem Zmi {A n t:Nat} (hn:0<n) (h1:t*t<=2*A*(2*A)/n) (h2:2*A*(2*A)/n<(t+1)*(t+1)) (down:Bool) {E:Prop} [Decidable E] (hE:E↔(2*A*(2*A)%n=0/\t*t=2*A*(2*A)/n)):
  EZ A n down (if t%2=1/\(¬E\/down=false)then t/2+1 else t/2):=by
 have e4:2*A*(2*A)=4*(A*A):=by grind
 have k1:t*t*n<=2*A*(2*A):=(Nat.le_div_iff_mul_le hn).1 h1;have k2:2*A*(2*A)<(t+1)*(t+1)*n:=(Nat.div_lt_iff_lt_mul hn).1 h2;have k3:(2*A*(2*A)%n=0/\t*t=2*A*(2*A)/n)↔t*t*n=2*A*(2*A):=by
  have hd:=Nat.div_add_mod (2*A*(2*A)) n;constructor
  ·rintro⟨g1,g2⟩;rw[g2,Nat.mul_comm];omega
  ·intro g;rw[<-g];exact⟨Nat.mul_mod_left _ _,(Nat.mul_div_cancel _ hn).symm⟩
 have k4:=hE.trans k3;rw[e4]at k1 k2 k4;clear hE k3 h1 h2;generalize hQ:4*(A*A)=Q at*;unfold EZ;rw[hQ];rcases Nat.mod_two_eq_zero_or_one t with ht|ht
 ·rw[ab (by omega)];obtain⟨m,rfl⟩:∃m,t=2*m:=⟨t/2,by omega⟩;rw[show 2*m/2=m by omega];have h5:(2*m+1)*(2*m+1)*n<=(2*m+1)*(2*m+1)*n:=bz _;refine⟨?_,?_⟩
  ·rcases Nat.eq_zero_or_pos m with hm|hm
   ·exact .inl hm
   ·right;have h6:(2*m-1)*(2*m-1)*n<2*m*(2*m)*n:=Nat.mul_lt_mul_of_pos_right (Nat.mul_self_lt_mul_self (by omega)) hn;split<;>omega
  ·split<;>omega
 ·obtain⟨m,rfl⟩:∃m,t=2*m+1:=⟨t/2,by omega⟩;rw[show(2*m+1)/2=m by omega];have h6:(2*m+1+1)*(2*m+1+1)*n<=(2*(m+1)+1)*(2*(m+1)+1)*n:=PM (by omega);have h7:(2*m-1)*(2*m-1)*n<(2*m+1)*(2*m+1)*n:=Nat.mul_lt_mul_of_pos_right (Nat.mul_self_lt_mul_self (by omega)) hn;have h8:2*(m+1)-1=2*m+1:=by omega
  by_cases c: ¬E\/down=false
  ·rw[aa ⟨ht,c⟩,h8];refine⟨.inr ?_,?_⟩
   ·cases down
    ·simp only[Bool.false_eq_true,if_false];exact k1
    ·simp only[if_true];rcases c with c|c
     ·exact Nat.lt_of_le_of_ne k1 λh=>c (k4.2 h)
     ·cases c
   ·split<;>omega
  ·have c1:(2*m+1)*(2*m+1)*n=Q:=by
    by_cases g:E
    ·exact k4.1 g
    ·exact absurd (.inl g) c
   have c2:down=true:=by
    cases down
    ·exact absurd (.inr rfl) c
    ·rfl
   subst c2;rw[ab (λh=>c h.2)];simp only[if_true];exact⟨.inr (by omega),by omega⟩
theorem Zza {x d:Int}:sgn x d<0↔x*d<0:=by
 rcases SR x d with⟨h,g⟩|⟨h,g⟩|⟨h,g⟩<;>omega
theorem Zmu {MSg MG MS MR MQ MP MK MZ:Fn} {x d:Int} {n X D h1 l1 qh ql t h2 l2:Nat} (hX:X<=2147483648) (hD:D<=2147483648) (hn:0<n/\n<=4611686018427387904)
  (z1:MZ [I x]=some [U X]) (z2:MZ [I d]=some [U D]) (hk:MK [I 2]=some [B true]) (hp1:MP [U ((2*(X*D):Nat):Int),U ((2*(X*D):Nat):Int)]=some [U h1,U l1])
  (hq1:MQ [U h1,U l1,U n]=some [U qh,U ql,B (decide (0<2*(X*D)*(2*(X*D))%n))]) (hq2:qh*w64+ql=2*(X*D)*(2*(X*D))/n) (hql:ql<w64) (hr1:MR [U qh,U ql]=some [U t]) (ht2:t<w64)
  (hp2:MP [U t,U t]=some [U h2,U l2]) (hp3:h2*w64+l2=t*t) (hl2:l2<w64) (hs:MS [I x,I d]=some [I (sgn x d)])
  (hg:∀(more:Int) (some_ neg:Bool),MG [I 2,I more,B some_,B neg]=some [B (if more>0 then true else if more=0 then !neg else false)])
  (g1:∀{n:Nat},n<9223372036854775808->MSg [U n,B false]=some [I n,B true]) (g2:∀{n:Nat},n<=9223372036854775808->MSg [U n,B true]=some [I (-(n:Int)),B true]) {J:Nat}
  (hJ1:t%2=1->(¬(2*(X*D)*(2*(X*D))%n=0/\t*t=2*(X*D)*(2*(X*D))/n)\/ ¬sgn x d<0)->J=t/2+1) (hJ3: ¬(t%2=1/\(¬(2*(X*D)*(2*(X*D))%n=0/\t*t=2*(X*D)*(2*(X*D))/n)\/ ¬sgn x d<0))->J=t/2) (hJ2:t<=9223372036854775808):
  Zg MSg MG MS MR MQ MP MK MZ [I x,I d,I n,I 2]=some [I (if sgn x d<0 then-(J:Int)else J),B true]:=by
 have hXD:X*D<=2147483648*2147483648:=dp hX hD;have w1:wrap .u64 (2*wrap .u64 ((X:Int)*(D:Int)))=((2*(X*D):Nat):Int):=by
  rw[<-Int.natCast_mul,wr (by omega),show(2:Int)*((X*D:Nat):Int)=((2*(X*D):Nat):Int) by omega,wr (by omega)]
 have w2:wrap .u64 (n:Int)=n:=wr (by omega);have w3:((t:Int)).tdiv 2=((t/2:Nat):Int):=Qfr t 2;have w4:wrap .u64 ((t/2:Nat):Int)=((t/2:Nat):Int):=wr (by rw[BT]at ht2;omega);have w5:wrap .u64 (((t/2:Nat):Int)+1)=((t/2+1:Nat):Int):=by rw[show((t/2:Nat):Int)+1=((t/2+1:Nat):Int) by omega,wr (by rw[BT]at ht2;omega)]
 have w6:((t:Int).tmod 2=1)=(t%2=1):=by
  rw[Int.tmod_eq_emod_of_nonneg (by omega)];exact propext ⟨by omega,by omega⟩
 have hgt:∀(neg:Bool) (k:Nat),k<9223372036854775808->MSg [U k,B neg]=some [I (if neg=true then-(k:Int)else k),B true]:=by
  intro neg k hk;cases neg
  ·exact g1 hk
  ·exact g2 (by omega)
 have key:∀(neg:Bool) (k:Nat),decide (sgn x d<0)=neg->J=k->k<9223372036854775808->MSg [U k,B neg]=some [I (if sgn x d<0 then-(J:Int)else J),B true]:=by
  intro neg k h1 h2 h3;rw[hgt neg k h3,h2];congr 3;by_cases c:sgn x d<0
  ·rw[aa c,aa (by rw[<-h1];exact an c)]
  ·rw[ab c,ab (by rw[<-h1];simpa using c)]
 have eqq:(h2=qh/\l2=ql)↔t*t=2*(X*D)*(2*(X*D))/n:=by
  rw[<-hp3,<-hq2];constructor
  ·rintro⟨rfl,rfl⟩;rfl
  ·intro h;have a1:∀p q u v:Nat,u<w64->v<w64->p*w64+u=q*w64+v->p=q/\u=v:=by
    intro p q u v hu hv h;rcases Nat.lt_trichotomy p q with c|c|c
    ·have:=be w64 (show p+1<=q from c);rw[Nat.succ_mul]at this;omega
    ·subst c;exact⟨rfl,by omega⟩
    ·have:=be w64 (show q+1<=p from c);rw[Nat.succ_mul]at this;omega
   exact a1 _ _ _ _ hl2 hql h
 rw[Zzp];simp only[go_sem,z1,z2,hk,w1,w2,hp1,hq1,hr1,hs,hp2,w3,w4,w5,hg];rw[ab (by omega),ab (by omega),ab (by omega),ab (by omega),ab (by simp)];have ht63:t/2+1<9223372036854775808:=by omega
 have hT:∀k:Nat,J=k->k<9223372036854775808->((MSg [U (k:Int),B (decide (sgn x d<0))]).bind λo=>some [I (Ag (nth .dead o 0)),B (C7 (nth .dead o 1))])=some [I (if sgn x d<0 then-(J:Int)else J),B true]:=by
  intro k h1 h2;rw[key _ k rfl h1 h2];rfl
 have e3:((h2:Int)=qh/\(l2:Int)=ql/\True)=(t*t=2*(X*D)*(2*(X*D))/n):=by
  rw[<-propext eqq];exact propext ⟨λh=>⟨by omega,by omega⟩,λh=>⟨by omega,by omega,trivial⟩⟩
 simp only[e3,w6];have n1:((1:Int)>0)=True:=by simp
 have n2:((-1:Int)>0)=False:=by simp
 have n3:((-1:Int)=0)=False:=by simp
 have n4:((0:Int)>0)=False:=by simp
 by_cases cR:2*(X*D)*(2*(X*D))%n=0
 ·rw[ab (show¬0<2*(X*D)*(2*(X*D))%n by omega)];by_cases ct:t%2=1
  ·by_cases cE:t*t=2*(X*D)*(2*(X*D))/n
   ·by_cases cn:sgn x d<0
    ·have:=hJ3 (λh=>h.2.elim (λg=>g ⟨cR,cE⟩) λg=>g cn);simp only[n1,n2,n3,n4,Bool.false_eq_true,ct,cE,not_true_eq_false,if_true,if_false];rw[ab (by simp[cn])];exact hT _ this (by omega)
    ·have:=hJ1 ct (.inr cn);simp only[n1,n2,n3,n4,Bool.false_eq_true,ct,cE,not_true_eq_false,if_true,if_false];rw[aa (by simp;omega)];exact hT _ this ht63
   ·have:=hJ1 ct (.inl λg=>cE g.2);simp only[n1,n2,n3,n4,Bool.false_eq_true,ct,cE,not_true_eq_false,not_false_eq_true,if_true,if_false];exact hT _ this ht63
  ·have:=hJ3 (λh=>ct h.1);simp only[n1,n2,n3,n4,Bool.false_eq_true,ct,if_false,ite_self];exact hT _ this (by omega)
 ·rw[aa (show 0<2*(X*D)*(2*(X*D))%n by omega)];by_cases ct:t%2=1
  ·have:=hJ1 ct (.inl λg=>cR g.1);simp only[n1,n2,n3,n4,Bool.false_eq_true,ct,not_false_eq_true,if_true];exact hT _ this ht63
  ·have:=hJ3 (λh=>ct h.1);simp only[n1,n2,n3,n4,Bool.false_eq_true,ct,not_false_eq_true,if_true,if_false];exact hT _ this (by omega)
theorem Zww {x d:Int} {n:Nat} {J:Nat} (hn:0<n) (hd:0<=d) (hi:EZ (x.natAbs*d.natAbs) n (decide (x*d<0)) J):(if x*d<0 then-(J:Int)else J)=B9 x d n:=by
 unfold B9;rw[Int.natAbs_natCast];by_cases hx:x<0
 ·rw[aa hx];by_cases hd0:d=0
  ·subst hd0;rw[Int.mul_zero,ab (by omega)];rw[show x.natAbs*(0:Int).natAbs=0 from by simp]at hi⊢;have e1:EZ 0 n true 0:=⟨.inl rfl,by simp⟩;rw[RD e1];obtain⟨h1,-⟩:=hi;rw[ap (by simp)]at h1;simp only[Bool.false_eq_true,if_false]at h1;rcases h1 with h1|h1
   ·omega
   ·rcases Nat.eq_zero_or_pos J with hJ|hJ
    ·omega
    ·have h2:=Nat.mul_pos (Nat.mul_pos (show 0<2*J-1 by omega) (show 0<2*J-1 by omega)) hn;omega
  ·have hxd:x*d<0:=Int.mul_neg_of_neg_of_pos hx (by omega);rw[an hxd]at hi;rw[aa hxd,RD hi]
 ·rw[ab hx];have hxd: ¬x*d<0:=by have:=Int.mul_nonneg (show 0<=x by omega) hd;omega
  rw[ap hxd]at hi;rw[ab hxd,RD hi]
theorem Qgd {x d n:Int} (hx:x.natAbs<=2147483648) (hd:0<=d/\d<=2147483648) (hn:0<n/\n<=4611686018427387904):Ii [I x,I d,I n,I 2]=some [I (B9 x d n),B true]:=by
 obtain⟨N,rfl⟩:=bv (show 0<=n by omega);have hD:d.natAbs<=2147483648:=by omega
 have hXD:x.natAbs*d.natAbs<=2147483648*2147483648:=dp hx hD;have hN:0<N/\N<=4611686018427387904:=by omega
 have hp:2*(x.natAbs*d.natAbs)<w64:=by rw[BT];omega
 obtain⟨h1,l1,e1,e2,e3⟩:=Oc hp hp;have hNw:N<w64:=by rw[BT];omega
 have hh1:h1<w64:=by
  have:=Nat.mul_lt_mul'' hp hp;rw[<-e2]at this;by_cases c:h1<w64
  ·exact c
  ·have:=be w64 (show w64<=h1 by omega);omega
 obtain⟨qh,ql,q1,q2,q3,q4⟩:=Zvl (M:=GN) Qx6 hh1 e3 hN.1 hNw;rw[e2]at q1 q4;obtain⟨t,r1,r2,r3,r4⟩:=Q1u q2 q3;rw[q4]at r2 r3;obtain⟨h2,l2,p1,p2,p3⟩:=Oc r4 r4;have ht:t<=9223372036854775808:=by
  have k1:t*t<=2*(x.natAbs*d.natAbs)*(2*(x.natAbs*d.natAbs)):=cd r2 (Nat.div_le_self _ _);have k2:=Nat.mul_self_le_mul_self_iff.1 k1;omega
 have hi:=Zmi hN.1 r2 r3 (decide (x*d<0)) (E:=2*(x.natAbs*d.natAbs)*(2*(x.natAbs*d.natAbs))%N=0/\t*t=2*(x.natAbs*d.natAbs)*(2*(x.natAbs*d.natAbs))/N) Iff.rfl;have hres:=Zww hN.1 hd.1 hi;rw[<-hres];have:= @Zza x d;have hif:∀a:Int,(if x*d<0 then-a else a)=if sgn x d<0 then-a else a:=by
  intro a;by_cases c:x*d<0
  ·rw[aa c,aa (this.2 c)]
  ·rw[ab c,ab (λh=>c (this.1 h))]
 rw[hif];refine Zmu (X:=x.natAbs) (D:=d.natAbs) hx hD hN (Iu (by unfold i64;omega)) (Iu (by unfold i64;omega)) (Qlb (.inr (.inr rfl))) e1 q1 q4 q3 r1 r4 p1 p2 p3 (Qix x d) Q3n Qaw Qs8 (λh1 h2=> ?_) (λh=> ?_) ht
 ·rw[aa ⟨h1,h2.imp id λh=>ap λg=>h (this.2 g)⟩]
 ·rw[ab λg=>h ⟨g.1,g.2.imp id λk g2=>by rw[decide_eq_false_iff_not]at k;exact k (this.1 g2)⟩]
theorem Qzd {a b:Pt} (ha:bd 67108864 a) (hb:bd 67108864 b):
    wrap .i64 (wrap .i64 (wrap .i64 (0+wrap .i64 (wrap .i64 (a.x-b.x)*wrap .i64 (a.x-b.x)))+wrap .i64 (wrap .i64 (a.y-b.y)*wrap .i64 (a.y-b.y)))+wrap .i64 (wrap .i64 (a.z-b.z)*wrap .i64 (a.z-b.z)))=sqD a b:=by
  have h:∀x y:Int,x.natAbs<=67108864->y.natAbs<=67108864->0<=(x-y)*(x-y)/\(x-y)*(x-y)<=18014398509481984:=by
    intro x y hx hy;exact DH (x:=x-y) (A:=134217728) (by omega)
  have h1:=h _ _ ha.1 hb.1;have h2:=h _ _ ha.2.1 hb.2.1;have h3:=h _ _ ha.2.2 hb.2.2;obtain⟨a1,a2,a3⟩:=ha;obtain⟨b1,b2,b3⟩:=hb;rw[Ae (x:=a.x-b.x) (by omega),Ae (x:=a.y-b.y) (by omega),Ae (x:=a.z-b.z) (by omega)];unfold sqD Jr GD;simp only;generalize(a.x-b.x)*(a.x-b.x)=u at*;generalize(a.y-b.y)*(a.y-b.y)=v at*;generalize(a.z-b.z)*(a.z-b.z)=w at*;rw[Ae (x:=u) (by omega),Ae (x:=0+u) (by omega),Ae (x:=v) (by omega),Ae (x:=0+u+v) (by omega),Ae (x:=w) (by omega),Ae (by omega),Int.zero_add]
theorem Zvn {M:Fn} {a b:Pt} {n:Nat} (ha:bd 67108864 a) (hb:bd 67108864 b) (hn:sqD a b=n)
    (hM:∃r:Nat,M [I n,I 1]=some [I ((if((1:Int)=1/\r*r<n)\/((1:Int)=2/\r*r+r<n)then r+1 else r:Nat):Int),B true]/\r*r<=n/\n<(r+1)*(r+1)):
    Qki M [I a.x,I a.y,I a.z,I b.x,I b.y,I b.z]=some [I (AE a b)]:=by
  obtain⟨r,h1,h2,h3⟩:=hM;have hu:=Q1c h2 h3;rw[Zx2,Qzd ha hb,hn];simp only[go_sem,h1];unfold AE;rw[hn,Qr2 hu];congr 3;by_cases c:r*r<n
  · rw[aa (.inl ⟨trivial,c⟩),aa c]
  · rw[ab (by simp[c]),ab c]
theorem Qfy {a b:Pt} (ha:bd 67108864 a) (hb:bd 67108864 b):JB [I a.x,I a.y,I a.z,I b.x,I b.y,I b.z]=some [I (AE a b)]:=by
  have h0:=QM a b;have h1:=Pw ha hb (bz _);obtain⟨n,hn⟩:=bv h0;exact Zvn ha hb hn (Q80 (by omega) (.inl rfl))
theorem Z4r {MO:Fn} {a b:Spk} {u w:Int} (ha:okS a) (hb:okS b) (hu:u.natAbs<=100000000) (hw:w.natAbs<=100000000)
    (hO: ¬(u=0/\w=0)->MO [I u,I (hf a.r b.r),I (sq2 u w),I 2]=some [I (B9 u (hf a.r b.r) (sq2 u w)),B true]/\MO [I w,I (hf a.r b.r),I (sq2 u w),I 2]=some [I (B9 w (hf a.r b.r) (sq2 u w)),B true]):
    (bif u == 0 then
      bif w==0 then some [AC.int IntKind.i64 0,AC.int IntKind.i64 0,AC.int IntKind.i64 0,AC.int IntKind.i64 0,AC.bool false]
      else(MO [AC.int IntKind.i64 u,AC.int IntKind.i64 ((wrap .i64 (wrap .i64 (a.r+b.r)+1)).fdiv (2^min (Int.toNat 1) IntKind.i64.bits)),AC.int IntKind.i64 (wrap .i64 (wrap .i64 (u*u)+wrap .i64 (w*w))),AC.int IntKind.i64 2]).bind λo36=>
       (MO [AC.int IntKind.i64 w,AC.int IntKind.i64 ((wrap .i64 (wrap .i64 (a.r+b.r)+1)).fdiv (2^min (Int.toNat 1) IntKind.i64.bits)),AC.int IntKind.i64 (wrap .i64 (wrap .i64 (u*u)+wrap .i64 (w*w))),AC.int IntKind.i64 2]).bind λo37=>
       some [AC.int IntKind.i64 (Ag (nth AC.dead o36 0)),AC.int IntKind.i64 (Ag (nth AC.dead o37 0)),AC.int IntKind.i64 ((wrap .i64 (wrap .i64 (a.r+b.r)+1)).fdiv (2^min (Int.toNat 1) IntKind.i64.bits)),AC.int IntKind.i64 ((wrap .i64 (wrap .i64 (a.h+b.h)+1)).fdiv (2^min (Int.toNat 1) IntKind.i64.bits)),AC.bool true]
     else(MO [AC.int IntKind.i64 u,AC.int IntKind.i64 ((wrap .i64 (wrap .i64 (a.r+b.r)+1)).fdiv (2^min (Int.toNat 1) IntKind.i64.bits)),AC.int IntKind.i64 (wrap .i64 (wrap .i64 (u*u)+wrap .i64 (w*w))),AC.int IntKind.i64 2]).bind λo36=>
       (MO [AC.int IntKind.i64 w,AC.int IntKind.i64 ((wrap .i64 (wrap .i64 (a.r+b.r)+1)).fdiv (2^min (Int.toNat 1) IntKind.i64.bits)),AC.int IntKind.i64 (wrap .i64 (wrap .i64 (u*u)+wrap .i64 (w*w))),AC.int IntKind.i64 2]).bind λo37=>
       some [AC.int IntKind.i64 (Ag (nth AC.dead o36 0)),AC.int IntKind.i64 (Ag (nth AC.dead o37 0)),AC.int IntKind.i64 ((wrap .i64 (wrap .i64 (a.r+b.r)+1)).fdiv (2^min (Int.toNat 1) IntKind.i64.bits)),AC.int IntKind.i64 ((wrap .i64 (wrap .i64 (a.h+b.h)+1)).fdiv (2^min (Int.toNat 1) IntKind.i64.bits)),AC.bool true])=
    some (C9 (HX a b u w)++[B (decide (¬(u=0/\w=0)))]):=by
  have q1:=DH hu;have q2:=DH hw;have e:wrap .i64 (wrap .i64 (u*u)+wrap .i64 (w*w))=sq2 u w:=by
    unfold sq2;generalize u*u=x at*;generalize w*w=y at*;rw[Ae (x:=x) (by omega),Ae (x:=y) (by omega),Ae (by omega)]
  have er:(wrap .i64 (wrap .i64 (a.r+b.r)+1)).fdiv (2^min (Int.toNat 1) IntKind.i64.bits)=hf a.r b.r:=by
    have h1:=ha.2.2.1;have h2:=hb.2.2.1;rw[Ae (x:=a.r+b.r) (by omega),Ae (x:=a.r+b.r+1) (by omega),show(2^min (Int.toNat 1) IntKind.i64.bits:Int)=2 from rfl,Int.fdiv_eq_ediv_of_nonneg _ (by omega)];rfl
  have eh:(wrap .i64 (wrap .i64 (a.h+b.h)+1)).fdiv (2^min (Int.toNat 1) IntKind.i64.bits)=hf a.h b.h:=by
    have h1:=ha.2.2.2;have h2:=hb.2.2.2;rw[Ae (x:=a.h+b.h) (by omega),Ae (x:=a.h+b.h+1) (by omega),show(2^min (Int.toNat 1) IntKind.i64.bits:Int)=2 from rfl,Int.fdiv_eq_ediv_of_nonneg _ (by omega)];rfl
  simp only[er,eh,e];simp only[go_sem];unfold HX;by_cases h:u=0/\w=0
  · rw[aa h.1,aa h.2,aa h]
    simp[h]
  · obtain⟨n1,n2⟩:=hO h
    rw[ab h];simp only[n1,n2,go_sem];have hd:decide (¬(u=0/\w=0))=true:=an h;rw[hd];by_cases hu0:u=0
    · rw[aa hu0,ab (λhw0=>h ⟨hu0,hw0⟩)];try rfl
    · rw[ab hu0];try rfl
theorem Zbb {MO MC MD:Fn} {a b:Spk} (ha:okS a) (hb:okS b) {dir:Int} (hd:dir=1\/dir= -1) (full:Bool)
    (hO:∀{u w:Int},u.natAbs<=100000000->w.natAbs<=100000000-> ¬(u=0/\w=0)->MO [I u,I (hf a.r b.r),I (sq2 u w),I 2]=some [I (B9 u (hf a.r b.r) (sq2 u w)),B true]/\MO [I w,I (hf a.r b.r),I (sq2 u w),I 2]=some [I (B9 w (hf a.r b.r) (sq2 u w)),B true])
    (hC:MC [I a.u,I a.w,I a.r,I a.h,I b.u,I b.w,I b.r,I b.h]=some [I (crs a.u a.w b.u b.w)]) (hD:MD [I a.u,I a.w,I a.r,I a.h,I b.u,I b.w,I b.r,I b.h]=some [I (dt2 a.u a.w b.u b.w)])
    (hcb:(crs a.u a.w b.u b.w).natAbs<=5000000000000000):
    Qer MO MC MD [I a.u,I a.w,I a.r,I a.h,I b.u,I b.w,I b.r,I b.h,I dir,B full]=some (C9 (ER a b dir full)++[B (decide (¬((DC a b dir full).1=0/\(DC a b dir full).2=0)))]):=by
  have key:=fun{u w:Int} (hu:u.natAbs<=100000000) (hw:w.natAbs<=100000000)=>Z4r (MO:=MO) (a:=a) (b:=b) ha hb hu hw (hO hu hw);have hbd:=Mu ha hb hd full;obtain⟨a1,a2,-⟩:=ha;obtain⟨b1,b2,-⟩:=hb;have w1:wrap .i64 (0-a.u)= -a.u:=by rw[Ae (by omega)];omega
  have w2:wrap .i64 (0-a.w)= -a.w:=by rw[Ae (by omega)];omega
  have w3:wrap .i64 (a.u+b.u)=a.u+b.u:=Ae (by omega);have w4:wrap .i64 (a.w+b.w)=a.w+b.w:=Ae (by omega);have w5:wrap .i64 (0-(a.u+b.u))= -(a.u+b.u):=by rw[Ae (by omega)];omega
  have w6:wrap .i64 (0-(a.w+b.w))= -(a.w+b.w):=by rw[Ae (by omega)];omega
  have w7:wrap .i64 (b.w-a.w)=b.w-a.w:=Ae (by omega);have w8:wrap .i64 (a.u-b.u)=a.u-b.u:=Ae (by omega);have w9:wrap .i64 (dir*(b.w-a.w))=dir*(b.w-a.w):=by rcases hd with rfl|rfl<;>exact Ae (by omega)
  have w10:wrap .i64 (dir*(a.u-b.u))=dir*(a.u-b.u):=by rcases hd with rfl|rfl<;>exact Ae (by omega)
  have w11:wrap .i64 (crs a.u a.w b.u b.w*dir)=crs a.u a.w b.u b.w*dir:=by rcases hd with rfl|rfl<;>exact Ae (by omega)
  rw[Zun];try dsimp only[go_sem]
  unfold ER;simp only[w1,w2,w3,w4,w5,w6,w7,w8,w9,w10,hC,hD,af,HE,HK,gA,jA,wA,bA,w11];have fin:∀{x:Option (List AC)},x=some (C9 (HX a b (DC a b dir full).1 (DC a b dir full).2)++[B (decide (¬((DC a b dir full).1=0/\(DC a b dir full).2=0)))])->
      (bif dir !=1 then bif dir != -1 then some [AC.int IntKind.i64 0,AC.int IntKind.i64 0,AC.int IntKind.i64 0,AC.int IntKind.i64 0,AC.bool false]else x else x)=some (C9 (HX a b (DC a b dir full).1 (DC a b dir full).2)++[B (decide (¬((DC a b dir full).1=0/\(DC a b dir full).2=0)))]):=by
    intro x hx;rcases hd with rfl|rfl
    · rw[Bk (by decide)];exact hx
    · rw[Bx (by decide),Bk (by decide)];exact hx
  refine fin ?_;have hk:=key hbd.1 hbd.2;unfold DC at*;cases full
  · simp only[aq,Bool.false_eq_true,if_false]at hk⊢
    by_cases c1:0<dt2 a.u a.w b.u b.w
    · rw[A3 (show¬dt2 a.u a.w b.u b.w<=0 by omega)]
      by_cases c2:0<crs a.u a.w b.u b.w*dir
      · rw[A3 (show¬crs a.u a.w b.u b.w*dir<=0 by omega)]
        rw[aa ⟨c1,c2⟩]at hk⊢;exact hk
      · rw[DI (show crs a.u a.w b.u b.w*dir<=0 by omega)]
        rw[ab (λh=>c2 h.2),aa c1]at hk⊢;exact hk
    · rw[DI (show dt2 a.u a.w b.u b.w<=0 by omega)]
      rw[ab (λh=>c1 h.1),ab c1]at hk⊢;exact hk
  · simp only[ah,if_true]at hk⊢
    exact hk
theorem Z5x {u w r:Int} (hu:u.natAbs<=100000000) (hw:w.natAbs<=100000000) (hr:0<=r/\r<=50000000) (h: ¬(u=0/\w=0)):
    Ii [I u,I r,I (sq2 u w),I 2]=some [I (B9 u r (sq2 u w)),B true]/\Ii [I w,I r,I (sq2 u w),I 2]=some [I (B9 w r (sq2 u w)),B true]:=by
  have hp:=Ub h;have h1:=DH hu;have h2:=DH hw;have h3:sq2 u w<=20000000000000000:=by unfold sq2;omega
  exact⟨Qgd (by omega) (by omega) (by omega),Qgd (by omega) (by omega) (by omega)⟩
theorem Zf1 {a b:Spk} (ha:okS a) (hb:okS b) {dir:Int} (hd:dir=1\/dir= -1) (full:Bool):
    LF [I a.u,I a.w,I a.r,I a.h,I b.u,I b.w,I b.r,I b.h,I dir,B full]=some (C9 (ER a b dir full)++[B (decide (¬((DC a b dir full).1=0/\(DC a b dir full).2=0)))]):=by
  have hc:=(Q36 ha.1 ha.2.1 hb.1 hb.2.1).2;exact Zbb ha hb hd full (λhu hw h=>Z5x hu hw (Qwb ha.2.2.1 hb.2.2.1) h)
    (YH (G3 ha.1) (G3 ha.2.1) (G3 hb.1) (G3 hb.2.1)) (Qh2 (G3 ha.1) (G3 ha.2.1) (G3 hb.1) (G3 hb.2.1)) hc
def okT (s:Spk):Prop:=okS s/\ ¬(s.u=0/\s.w=0)/\1<=s.r
theorem Q2b {a b:Spk} (ha: ¬(a.u=0/\a.w=0)) (hb: ¬(b.u=0/\b.w=0)) {dir:Int} (hd:dir=1\/dir= -1) (full:Bool): ¬((DC a b dir full).1=0/\(DC a b dir full).2=0):=by
  have hp:=Ub ha;unfold sq2 at hp;unfold DC;split
  · simp only;omega
  · rename_i hf
    have key:0<dt2 a.u a.w b.u b.w-> ¬(a.u+b.u=0/\a.w+b.w=0):=by
      intro h1 ⟨h2,h3⟩;have e1:b.u= -a.u:=by omega
      have e2:b.w= -a.w:=by omega
      unfold dt2 at h1;rw[e1,e2,Int.mul_neg,Int.mul_neg]at h1;omega
    split
    · rename_i c;exact key c.1
    · split
      · rename_i c1 c2
        have:=key c2;simp only;omega
      · rename_i c1 c2
        simp only;rintro⟨h2,h3⟩;have e1:b.w=a.w/\a.u=b.u:=by rcases hd with rfl|rfl<;>omega
        unfold dt2 at c2;rw[e1.1,<-e1.2]at c2;omega
theorem Z4b {u w r:Int} (hu:u.natAbs<=100000000) (hw:w.natAbs<=100000000) (hr:1<=r/\r<=50000000) (h: ¬(u=0/\w=0)): ¬(B9 u r (sq2 u w)=0/\B9 w r (sq2 u w)=0):=by
  have hp:=Ub h;have h1:=DH hu;have h2:=DH hw;have h3:sq2 u w<=20000000000000000:=by unfold sq2;omega
  obtain⟨q1,q2⟩:=Q0u u w;have key:∀x:Int,x.natAbs<=100000000->x*x<=sq2 u w->B9 x r (sq2 u w)=0->4*(x*x)<=sq2 u w:=by
    intro x hx hq h0;obtain⟨-,-,g3⟩:=T9 (x:=x) (r:=r) (n:=sq2 u w) (cd hx (by decide)) (by omega) (by omega) hq;rw[h0]at g3;obtain⟨-,g3⟩:=g3;have g4:4*(x.natAbs*r.natAbs*(x.natAbs*r.natAbs))<=(sq2 u w).natAbs:=by
      rw[show(0:Int).natAbs=0 from rfl]at g3;split at g3<;>omega
    have e1:x.natAbs*r.natAbs*(x.natAbs*r.natAbs)=x.natAbs*x.natAbs*(r.natAbs*r.natAbs):=by grind
    have g5:x.natAbs*x.natAbs*1<=x.natAbs*x.natAbs*(r.natAbs*r.natAbs):=Nat.mul_le_mul_left _ (dp (show 1<=r.natAbs by omega) (show 1<=r.natAbs by omega));have e2:((x.natAbs*x.natAbs:Nat):Int)=x*x:=Int.natAbs_mul_self;omega
  rintro⟨g1,g2⟩;have k1:=key u hu q1 g1;have k2:=key w hw q2 g2;unfold sq2 at*;omega
theorem Zxp {a b:Spk} (ha:okT a) (hb:okT b) {dir:Int} (hd:dir=1\/dir= -1) (full:Bool):okT (ER a b dir full):=by
  have hn:=Q2b ha.2.1 hb.2.1 hd full;have hbd:=Mu ha.1 hb.1 hd full;have h1:=ha.1.2.2.1;have h2:=hb.1.2.2.1;have h3:=ha.2.2;have h4:=hb.2.2;have hh:1<=hf a.r b.r/\hf a.r b.r<=50000000:=by unfold hf;omega
  refine⟨Q6x ha.1 hb.1 hd full,?_,?_⟩
  · unfold ER HX
    rw[ab hn];exact Z4b hbd.1 hbd.2 hh hn
  · unfold ER HX
    rw[ab hn];exact hh.1
theorem Zyg {r n:Int} (hr:0<=r/\r<=50000000):Ns [I r,I n]=some [B (decide (n<=32*r-64))]:=by
  unfold Ns;rw[Zij,Ae (x:=8*r) (by omega),Ae (x:=8*r*4) (by omega),Ae (x:=8*r*4-64) (by omega),show 8*r*4-64=32*r-64 by omega]
theorem Z2s {MF MC:Fn} {out:Rw} {a b:Spk} (ha:okS a) (hb:okS b) {dir:Int} (hd:dir=1\/dir= -1) (full:Bool)
    (hF:∀{r n:Int},(0<=r/\r<=50000000)->MF [I r,I n]=some [B (decide (n<=32*r-64))])
    (hC:MC [I a.u,I a.w,I a.r,I a.h,I b.u,I b.w,I b.r,I b.h]=some [I (crs a.u a.w b.u b.w)]) (hcb:(crs a.u a.w b.u b.w).natAbs<=5000000000000000):
    Qda MF MC [.view Ea out,I a.u,I a.w,I a.r,I a.h,I b.u,I b.w,I b.r,I b.h,B full,I dir]=some [.view Ea out,B (decide (HZ a b dir full)),I dir]:=by
  have hr:0<=mn a.r b.r/\mn a.r b.r<=50000000:=by
    have h1:=ha.2.2.1;have h2:=hb.2.2.1;unfold mn;split<;>omega
  obtain⟨a1,a2,-⟩:=ha;obtain⟨b1,b2,-⟩:=hb;have x1:=Im a1 b1;have x2:=Im a2 b2;have q1:=DH x1;have q2:=DH x2;have e:wrap .i64 (wrap .i64 ((a.u-b.u)*(a.u-b.u))+wrap .i64 ((a.w-b.w)*(a.w-b.w)))=sq2 (a.u-b.u) (a.w-b.w):=by
    unfold sq2;generalize(a.u-b.u)*(a.u-b.u)=x at*;generalize(a.w-b.w)*(a.w-b.w)=y at*;rw[Ae (x:=x) (by omega),Ae (x:=y) (by omega),Ae (by omega)]
  have w11:wrap .i64 (crs a.u a.w b.u b.w*dir)=crs a.u a.w b.u b.w*dir:=by rcases hd with rfl|rfl<;>exact Ae (by omega)
  rw[Zyd,H3 x1 (by decide),H3 x2 (by decide),e];cases full
  · simp only[Bool.not_false,ah,hC,af,HE,HK,gA,jA,wA,bA,w11,hF hr,XA]
    by_cases c:0<crs a.u a.w b.u b.w*dir
    · rw[DI (show crs a.u a.w b.u b.w*dir>0 from c)]
      by_cases c2:sq2 (a.u-b.u) (a.w-b.w)<=32*mn a.r b.r-64
      · rw[an c2,an (show HZ a b dir false from⟨rfl,c,c2⟩)]
      · rw[ap c2,ap (λh:HZ a b dir false=>c2 h.2.2)]
    · rw[A3 (show¬crs a.u a.w b.u b.w*dir>0 from c),ap (λh:HZ a b dir false=>c h.2.1)]
  · simp only[Bool.not_true,aq]
    rw[ap (λh:HZ a b dir true=>by cases h.1)]
theorem Z2t {out:Rw} {a b:Spk} (ha:okS a) (hb:okS b) {dir:Int} (hd:dir=1\/dir= -1) (full:Bool):
    Ll [.view Ea out,I a.u,I a.w,I a.r,I a.h,I b.u,I b.w,I b.r,I b.h,B full,I dir]=some [.view Ea out,B (decide (HZ a b dir full)),I dir]:=
  Z2s ha hb hd full Zyg (YH (G3 ha.1) (G3 ha.2.1) (G3 hb.1) (G3 hb.2.1)) (Q36 ha.1 ha.2.1 hb.1 hb.2.1).2
theorem Us {dir:Int} (hd:dir=1\/dir= -1):∀(n k:Nat) (full:Bool) (a b:Spk) (out:List Spk),k<=16->k<n->okT a->okT b->out.length+2^k<=1000000->
    Oa n [.view Ea (out.map C9),I a.u,I a.w,I a.r,I a.h,I b.u,I b.w,I b.r,I b.h,B full,I (16-k:Int),I dir]=some [.view Ea ((out++DV dir k full a b).map C9),I dir]
  |0,k,_,_,_,_,_,hk,_,_,_=>by omega
  |n+1,0,full,a,b,out,_,_,ha,hb,ho=>by
    show Tg _ _ _ _=_;rw[Q22,A3 (by omega),Bx]
    · unfold DV
      rw[bt];rfl
    · exact Nat.ble_eq_true_of_le (by simp only[ao,ag,bf,cq];omega)
  |n+1,k+1,full,a,b,out,hk,hn,ha,hb,ho=>by
    have hm:=Zxp ha hb hd full;have hz:=Q2b ha.2.1 hb.2.1 hd full;have e3:2^(k+1)=2^k+2^k:=by rw[Nat.pow_succ];omega
    have hp:0<2^k:=Nat.two_pow_pos _;have l1:=(Uh k false a (ER a b dir full) (dir:=dir)).2;have i1:=Us hd n k false a (ER a b dir full) out (by omega) (by omega) ha hm (by omega);have i2:=Us hd n k false (ER a b dir full) b (out++DV dir k false a (ER a b dir full)) (by omega) (by omega) hm hb (by rw[ao];omega);have e1:=Z2t (out:=out.map C9) ha.1 hb.1 hd full;have e2:=Zf1 ha.1 hb.1 hd full;rw[an hz]at e2;show Tg (Oa n) LF Ll _=_;generalize Oa n=MP at*;generalize LF=MM at*;generalize Ll=MS at*;rw[Q22,DI (by omega),Ae (by omega),show(16-((k+1:Nat):Int)+1)=16-(k:Int) by omega];unfold DV;generalize ER a b dir full=m at*;generalize DV dir k false a m=p1 at*;generalize DV dir k false m b=p2 at*;simp only[ax,az,C9]at e2;simp only[e1,e2,af,HE,LN,LH,Qj,Pb,HK,gA,jA,wA,bA,XA,i1,i2,VI];by_cases c:HZ a b dir full
    · rw[aa c,Bk (by simp[c]),Bx]
      · rw[bt];rfl
      · exact Nat.ble_eq_true_of_le (by simp only[ao,ag,bf,cq];omega)
    · rw[ab c,Bx (by simp[c]),ah,dh]
theorem Qv4 {it:Itm} {p:Pt} (hc:bd 1048576 it.ce) (hp:bd 1048576 p) (hq:64<=sq2 (dU it p) (dW it p)):okT (Em it p):=by
 obtain⟨h1,h2,h3,h4⟩:=PT hc hp;have e:sq2 (dU it p*16) (dW it p*16)=256*sq2 (dU it p) (dW it p):=by unfold sq2;grind
 refine⟨Rq hc hp,?_,?_⟩
 ·show¬(dU it p*16=0/\dW it p*16=0);rintro⟨g1,g2⟩;rw[show dU it p=0 by omega,show dW it p=0 by omega]at hq;simp[sq2]at hq
 ·show 1<=FJ _;obtain⟨n,hn⟩:=bv h3;rw[hn]at h4⊢;obtain⟨r,-,r2,r3,-⟩:=Ru (n:=n) (by omega);rw[TX (Tv r2 r3)];have:1<=r:=by
   rcases Nat.eq_zero_or_pos r with h|h
   ·subst h;omega
   ·exact h
  split<;>omega
theorem Zn0 {n:Nat} (hn:n<=2251799813685248):IU [I n,I 2]=some [I (FJ n),B true]:=by
 obtain⟨r,h1,h2,h3⟩:=Q80 (n:=n) (mode:=2) (by omega) (.inr rfl);rw[h1,TX (Tv h2 h3)];congr 3;by_cases c:r*r+r<n
 ·rw[aa (.inr ⟨rfl,c⟩),aa c]
 ·rw[ab (by simp;omega),ab c]
theorem Zce {MP MQ MD ME MV:Fn} {it:Itm} (hV:∃v,MV (Af it)=some [B v]/\(v=true↔Dz it)) (h:Dz it)
  (hE:it.kind=3->ME (Af it)=some [I (dU it it.fr*16),I (dW it it.fr*16),I 0,I (plH it.aF it.fr*16),I (dU it it.to*16),I (dW it it.to*16),I 0,I (plH it.aF it.to*16)])
  (hD:∀p:Pt,it.kind=3->(p=it.fr\/p=it.to)->MD [I (dU it p*16),I (dW it p*16),I 0,I (plH it.aF p*16),I (dU it p*16),I (dW it p*16),I 0,I (plH it.aF p*16)]=some [I (sq2 (dU it p*16) (dW it p*16))])
  (hQ:∀p:Pt,it.kind=3->(p=it.fr\/p=it.to)->MQ [I (sq2 (dU it p*16) (dW it p*16)),I 2]=some [I (FJ (sq2 (dU it p*16) (dW it p*16))),B true])
  (hP:it.kind=3->MP (.view Ea [C9 (Em it it.fr)]::C9 (Em it it.fr)++C9 (Em it it.to)++[B it.full,I 0,I it.dir])=some [.view Ea ((DO it).map C9),I it.dir]):
  Qdd MP MQ MD ME MV (Af it)=if it.kind=3 then some [.view Ea ((DO it).map C9),B true]else some [.view Ea [],B false]:=by
 obtain⟨v,hv,hvv⟩:=hV;rw[Zax];by_cases h3:it.kind=3
 ·have e:=hE h3;have p:=hP h3;have d1:=hD it.fr h3 (.inl rfl);have d2:=hD it.to h3 (.inr rfl);have q1:=hQ it.fr h3 (.inl rfl);have q2:=hQ it.to h3 (.inr rfl);simp only[ax,az,Em,C9]at p;simp only[go_sem,hv,e,d1,d2,q1,q2,p];rw[ab (by simp[h3]),ab (by simp[hvv.2 h]),aa h3]
 ·simp only[go_sem];rw[aa h3,ab h3]
theorem Z3h {it:Itm} (h:Dz it):NR (Af it)=if it.kind=3 then some [.view Ea ((DO it).map C9),B true]else some [.view Ea [],B false]:=by
 have hb:it.kind=3->∀p:Pt,(p=it.fr\/p=it.to)->bd 1048576 it.ce/\bd 1048576 p:=by
  intro h3 p hp;obtain⟨-,h1,h2,ha⟩:=h;obtain⟨-,-,hc,-⟩:=ha h3;rcases hp with rfl|rfl
  ·exact⟨hc,h1⟩
  ·exact⟨hc,h2⟩
 refine Zce (YI it) h (λh3=> ?_) (λp h3 hp=> ?_) (λp h3 hp=> ?_) λh3=> ?_
 ·obtain⟨-,h1,h2,ha⟩:=h;obtain⟨hp,-,hc,-⟩:=ha h3;exact Q30 hp h1 h2 hc
 ·obtain⟨hc,hp2⟩:=hb h3 p hp;obtain⟨g1,g2,-⟩:=PT hc hp2;exact Qh2 (cd g1 (by decide)) (cd g2 (by decide)) (cd g1 (by decide)) (cd g2 (by decide))
 ·obtain⟨hc,hp2⟩:=hb h3 p hp;obtain⟨-,-,g3,g4⟩:=PT hc hp2;obtain⟨n,hn⟩:=bv g3;rw[hn]at g4⊢;exact Zn0 (by omega)
 ·obtain⟨-,h1,h2,ha⟩:=h;obtain⟨hp,hd,hc,t1,t2,-⟩:=ha h3;have:=Us hd 20 16 it.full (Em it it.fr) (Em it it.to) [Em it it.fr] (by omega) (by omega) (Qv4 hc h1 t1) (Qv4 hc h2 t2) (show 1+2^16<=1000000 by decide);exact this
theorem Zs8 {u w h pl:Int} (hp:Dk pl):OM [I u,I w,I h,I pl]=some (ptR (spP pl u w h)):=by
 show Xc F1 _=_;have h1:=U8 pl;generalize F1=M at*;rw[Zyp];rcases hp with rfl|rfl|rfl
 ·have e:axI 17=(0,1,2):=rfl;rw[e]at h1;rw[h1];rfl
 ·have e:axI 18=(2,0,1):=rfl;rw[e]at h1;rw[h1];rfl
 ·have e:axI 19=(1,2,0):=rfl;rw[e]at h1;rw[h1];rfl
theorem Zsc {α:Type} (pre rest:List α) (x z:α):(pre++x::rest).set pre.length z=(pre++[z])++rest:=by
 rw[List.set_append_right _ _ (bz _),Nat.sub_self];simp
def Et {α:Type} (f:Nat->α) (z:α) (n i:Nat):List α:=(List.range i).map f++List.replicate (n-i) z
theorem Qqk {α:Type} (f:Nat->α) (z:α) {n i:Nat} (h:i<=n):(Et f z n i).length=n:=by unfold Et;simp;omega
theorem Q17 {α:Type} (f:Nat->α) (z:α) {n i:Nat} (h:i<n):(Et f z n i).set i (f i)=Et f z n (i+1):=by
 unfold Et;have e:n-i=(n-(i+1))+1:=by omega
 rw[e,List.replicate_succ];have:=Zsc ((List.range i).map f) (List.replicate (n-(i+1)) z) z (f i);rw[ag,List.length_range]at this;rw[this,List.range_succ,bt];rfl
theorem Qq9 {α:Type} (f:Nat->α) (z:α) (n:Nat):Et f z n n=(List.range n).map f:=by unfold Et;simp
theorem Zpz {α:Type} (l:List α) (d:α):(List.range l.length).map (λi=>l.getD i d)=l:=by
 apply List.ext_getElem
 ·simp
 ·intro i h1 h2;simp[h2]
def JH:Spk:=⟨0,0,0,0⟩
theorem Q0o {MS MP MF MK MV:Fn} {it:Itm} {l:List Spk} {cu cw:Int} (hl:l.length<=65537) (hcu:cu.natAbs<=16777216) (hcw:cw.natAbs<=16777216) (hok:∀s∈l,okS s)
  (hS:∀{u w h:Int},MS [I u,I w,I h,I it.aF]=some (ptR (spP it.aF u w h))) {f:Nat->List AC} (hf:∀i,f i=ptR (spP it.aF (cu+(l.getD i JH).u) (cw+(l.getD i JH).w) (l.getD i JH).h)):
  ∀(k i:Nat),i+k=l.length->Am (OP MS MP MF MK MV) (.view kPt (Et f [I 0,I 0,I 0] l.length i)::I cu::I cw:: .view Ea (l.map C9)::I l.length::I i::Af it)=
   some (1,[.view kPt ((List.range l.length).map f)])
 |0,i,hi=>by
  refine Bf ?_ (by simp);rw[Qwa];simp only[go_sem];rw[ab (by omega),show i=l.length by omega,Qq9]
 |k+1,i,hi=>by
  have hlt:i<l.length:=by omega
  have hs:OP MS MP MF MK MV (.view kPt (Et f [I 0,I 0,I 0] l.length i)::I cu::I cw:: .view Ea (l.map C9)::I l.length::I i::Af it)=
    some (0, .view kPt (Et f [I 0,I 0,I 0] l.length (i+1))::I cu::I cw:: .view Ea (l.map C9)::I l.length::I (i+1:Nat)::Af it):=by
   rw[Qwa];have hr:nth [] (l.map C9) i=C9 l[i]:=Je _ _ _ _ hlt;have ho:=hok _ (bn hlt);have hfl:=Qqk f [I 0,I 0,I 0] (show i<=l.length by omega);have hfi:=hf i;rw[show l.getD i JH=l[i] by simp[hlt]]at hfi;have hset:=Q17 f [I 0,I 0,I 0] hlt;rw[hfi]at hset;generalize l[i]=s at*;obtain⟨s1,s2,-⟩:=ho;simp only[go_sem,aj,ag,hr];rw[aa (by omega),aa (by omega),Ae (x:=cu+s.u) (by omega),Ae (x:=cw+s.w) (by omega),Ae (x:=(i:Int)+1) (by omega)];simp only[hS,go_sem,hfl];rw[aa (by omega),hset];rfl
  rw[BC hs];exact Q0o hl hcu hcw hok hS hf k (i+1) (by omega)
theorem Z11 {MS MP MF MK MV:Fn} {N:Lp} {it:Itm} {S:List Spk} {C:Rw} {f:Pt} {u w h:Int} (hv:MV (Af it)=some [B true])
  (hK:MK (Af it)=some [.view Ea (S.map C9),B true]) (hf:MF [I it.ce.x,I it.ce.y,I it.ce.z]=some (ptR f)) (hpp:MP [I f.x,I f.y,I f.z,I it.aF]=some [I u,I w,I h]) (hS:S.length<=65537)
  (hN:N [.view kPt (List.replicate S.length [I 0,I 0,I 0]),I u,I w, .view Ea (S.map C9),I S.length,I 0,I it.kind,I it.block,I it.fr.x,I it.fr.y,I it.fr.z,I it.to.x,I it.to.y,I it.to.z,I it.aF,I it.ce.x,I it.ce.y,I it.ce.z,I it.dir,B it.full,I it.feed,B it.perRev,I it.side,I it.radius,I it.blend,I it.n,I it.speed,B it.on]=some (1,[.view kPt C])):
  Tf MS MP MF MK MV N (Af it)=some [.view kPt C,B true]:=by
 rw[W8];simp only[go_sem,hv,hK,hf,hpp,ag,aj,hN];rw[ab (by simp),ab (by simp),aa (by omega)]
theorem Zlh {MS MP MF MK MV:Fn} {it:Itm} (hV:∃v,MV (Af it)=some [B v]/\(v=true↔Dz it)) (h:Dz it)
  (hK:MK (Af it)=if it.kind=3 then some [.view Ea ((DO it).map C9),B true]else some [.view Ea [],B false])
  (hF:∀{p:Pt},bd 100000000 p->MF [I p.x,I p.y,I p.z]=some (ptR (Ay p))) (hP:Dk it.aF->∀{p:Pt},MP [I p.x,I p.y,I p.z,I it.aF]=some [I (plU it.aF p),I (plW it.aF p),I (plH it.aF p)])
  (hS:Dk it.aF->∀{u w h:Int},MS [I u,I w,I h,I it.aF]=some (ptR (spP it.aF u w h))):
  Tf MS MP MF MK MV (Am (OP MS MP MF MK MV)) (Af it)=some [.view kPt ((Cd it).map ptR),B true]:=by
 obtain⟨v,hv,hvv⟩:=hV;rw[W8];have hv1:=hvv.2 h;subst hv1;obtain⟨-,h1,h2,ha⟩:=id h;by_cases h3:it.kind=3
 ·obtain⟨hp,hd,hc,-⟩:=ha h3;rw[aa h3]at hK;obtain⟨c1,c2,c3⟩:=HW (pl:=it.aF) (FC hc);have hsl:=(Qwe it).2;have hl:=Q0o (MS:=MS) (MP:=MP) (MF:=MF) (MK:=MK) (MV:=MV) (it:=it) (l:=DO it) (cu:=plU it.aF (Ay it.ce)) (cw:=plW it.aF (Ay it.ce)) hsl c1 c2 (Q99 h h3) (hS hp)
   (f:=λi=>ptR (I9 it ((DO it).getD i JH))) (λ_=>rfl) (DO it).length 0 (by omega)
  have hres:(List.range (DO it).length).map (λi=>ptR (I9 it ((DO it).getD i JH)))=((DO it).map (I9 it)).map ptR:=by
   rw[List.map_map]
   conv=>rhs;rw[<-Zpz (DO it) JH]
   rw[List.map_map];rfl
  rw[hres]at hl;have hf0:Et (λi=>ptR (I9 it ((DO it).getD i JH))) [I 0,I 0,I 0] (DO it).length 0=List.replicate (DO it).length [I 0,I 0,I 0]:=by unfold Et;simp
  rw[hf0]at hl;have hf:=hF (AZ hc (by decide));have hpp:= @hP hp (Ay it.ce);have:=Z11 (MS:=MS) (N:=Am (OP MS MP MF MK MV)) hv hK hf hpp hsl hl;rw[W8]at this;unfold Cd;rw[aa h3];exact this
 ·rw[ab h3]at hK;have f1:=hF (AZ h1 (by decide));have f2:=hF (AZ h2 (by decide));unfold Cd;rw[ab h3];simp only[go_sem,hv,hK,f1,f2];simp
theorem Zk9 {it:Itm} (h:Dz it):PL (Af it)=some [.view kPt ((Cd it).map ptR),B true]:=
 Zlh (YI it) h (Z3h h) Qv5 (λhp=>Q38 hp) (λhp=>Zs8 hp)
end Go.Bm
