/- laid together -/
import Derived.Test.YtommijghjlikkaaGreatPrTc
import Derived.Test.YtommijghjlikkaaGreatMx3
import Derived.Test.YtommijghjlikkaaGreatBmTy
import Derived.Lib.ItoaNum
set_option linter.unusedVariables false
set_option linter.unusedSimpArgs false
set_option maxRecDepth 100000
open Go.IntKind (wrap)
namespace Go.Bm
open Classical
theorem Zx0 {l:List Pce} (h:l≠[]):nth [] (l.map AI) (l.length-1)=AI (Be l):=by
 have hp:0<l.length:=by cases l with
  |nil=>exact absurd rfl h
  |cons _ _=>simp
 unfold Be;have hlt:l.length-1<l.length:=by omega
 rw[I_ _ _ _ _ hlt,List.getD_eq_getElem?_getD,List.getElem?_eq_getElem hlt,Option.getD_some]
theorem Q2l {a b:Pt}:a=b↔a.x=b.x/\a.y=b.y/\a.z=b.z:=DS
theorem Zgr {t:Trk} {c:Pce} {n m k:Int} (h:TB t n m) (hn:n<=10000000) (hm:m<=1000000000000000000) (hk:k<=1000000000000000000) (hc:0<=c.units/\c.units<=k):
  Wb [.view As (t.aE.map AI),I c.at_,I c.units,I c.s,I c.move,I c.was.x,I c.was.y,I c.was.z,I c.dirs.x,I c.dirs.y,I c.dirs.z,I t.length,I t.start,I t.dirs.x,I t.dirs.y,I t.dirs.z]=some (Bq (Fp t c)):=by
 obtain⟨h1,h2,h3⟩:=h;have hw:wrap .i64 (t.length+c.units)=t.length+c.units:=Ae (by omega);have hble:((t.aE.map AI++[[I t.length,I c.units,I c.s,I c.move,I c.was.x,I c.was.y,I c.was.z,I c.dirs.x,I c.dirs.y,I c.dirs.z]]).length*80).ble 140737488355328=true:=by
  rw[Nat.ble_eq,List.length_append,List.length_map];simp only[List.length_cons,List.length_nil];omega
 have hble':(t.aE.map AI++[[I t.length,I c.units,I c.s,I c.move,I c.was.x,I c.was.y,I c.was.z,I c.dirs.x,I c.dirs.y,I c.dirs.z]]).length*80<=140737488355328:=Nat.le_of_ble_eq_true hble;have happ:some [AC.view As (t.aE.map AI++[[I t.length,I c.units,I c.s,I c.move,I c.was.x,I c.was.y,I c.was.z,I c.dirs.x,I c.dirs.y,I c.dirs.z]]),I (t.length+c.units),I t.start,I t.dirs.x,I t.dirs.y,I t.dirs.z]=
   some (Bq {t with aE:=t.aE++[{c with at_:=t.length}],length:=t.length+c.units}):=by
  simp only[Bq,List.map_append,List.map_cons,List.map_nil]
 by_cases c1:t.aE=[]
 ·have hg: ¬(t.aE≠[]/\c.move≠0/\(Be t.aE).move=c.move/\(Be t.aE).dirs=c.dirs):=fun g=>g.1 c1;unfold Fp;rw[if_neg hg,<-happ];rw[Q0t,List.length_map,AZ (by rw[c1];simp),BO hble,hw]
 ·have hp:0<t.aE.length:=by
   cases hh:t.aE with
   |nil=>exact absurd hh c1
   |cons _ _=>simp
  have e1:wrap .i64 ((t.aE.length:Int)-1)=((t.aE.length-1:Nat):Int):=by rw[Ae (by omega)];omega
  have hin:(0:Int)<=((t.aE.length-1:Nat):Int)/\((t.aE.length-1:Nat):Int)<(t.aE.length:Int):=by omega
  have hl:=h3 _ (Q6o c1);have hw2:wrap .i64 ((Be t.aE).units+c.units)=(Be t.aE).units+c.units:=Ae (by omega);have hset:some [AC.view As ((t.aE.map AI).set (t.aE.length-1) [I (Be t.aE).at_,I ((Be t.aE).units+c.units),I (Be t.aE).s,I (Be t.aE).move,I (Be t.aE).was.x,I (Be t.aE).was.y,I (Be t.aE).was.z,I (Be t.aE).dirs.x,I (Be t.aE).dirs.y,I (Be t.aE).dirs.z]),I (t.length+c.units),I t.start,I t.dirs.x,I t.dirs.y,I t.dirs.z]=
   some (Bq {t with aE:=t.aE.set (t.aE.length-1) {Be t.aE with units:=(Be t.aE).units+c.units},length:=t.length+c.units}):=by
   simp only[Bq,List.map_set]
  have hr:=Zx0 c1;have main : ∀ R, R = (if c.move ≠ 0 then if (Be t.aE).move = c.move then if (Be t.aE).dirs.x = c.dirs.x /\ (Be t.aE).dirs.y = c.dirs.y /\ (Be t.aE).dirs.z = c.dirs.z then
    some (Bq {t with aE:=t.aE.set (t.aE.length-1) {Be t.aE with units:=(Be t.aE).units+c.units},length:=t.length+c.units})
    else some (Bq {t with aE:=t.aE++[{c with at_:=t.length}],length:=t.length+c.units})else some (Bq {t with aE:=t.aE++[{c with at_:=t.length}],length:=t.length+c.units})else some (Bq {t with aE:=t.aE++[{c with at_:=t.length}],length:=t.length+c.units}))->R=some (Bq (Fp t c)):=by
   intro R hR;rw[hR];unfold Fp;by_cases g1:c.move≠0
   ·by_cases g2:(Be t.aE).move=c.move
    ·by_cases g3:(Be t.aE).dirs.x=c.dirs.x/\(Be t.aE).dirs.y=c.dirs.y/\(Be t.aE).dirs.z=c.dirs.z
     ·rw[if_pos g1,if_pos g2,if_pos g3,if_pos ⟨c1,g1,g2,Q2l.2 g3⟩]
     ·rw[if_pos g1,if_pos g2,if_neg g3,if_neg fun g=>g3 (Q2l.1 g.2.2.2)]
    ·rw[if_pos g1,if_neg g2,if_neg fun g=>g2 g.2.2.1]
   ·rw[if_neg g1,if_neg fun g=>g1 g.2.1]
  refine main _ ?_;rw[<-happ,<-hset];rw[Q0t,List.length_map,e1,Int.toNat_natCast,hr];simp only[go_sem,hw,hw2,if_pos hin,if_pos hble'];rw[if_pos (by omega)];simp only[and_true]
theorem Zsp (x:Ax3) (w d:Pt):NM (AO x++[I w.x,I w.y,I w.z,I d.x,I d.y,I d.z])=some [I (CU x w d)]:=by
 have he:=Zbh x.a.step x.a.speed x.a.accel x.a.jerk x.a.low x.a.high x.a.back x.a.origin x.a.spacing (x.a.pitch.map Ap) x.b.step x.b.speed x.b.accel x.b.jerk x.b.low x.b.high x.b.back x.b.origin x.b.spacing (x.b.pitch.map Ap) x.c.step x.c.speed x.c.accel x.c.jerk x.c.low x.c.high x.c.back x.c.origin x.c.spacing (x.c.pitch.map Ap) w.x w.y w.z d.x d.y d.z;unfold NM;refine Eq.trans he ?_;unfold CU slk;simp only[go_sem,NA]
 (repeat' split)<;>first|rfl|(exfalso;omega)
theorem Zym (n a b:Pt) {mv:Int} (hm:mv=1\/mv= -1):NQ [I n.x,I n.y,I n.z,I a.x,I a.y,I a.z,I b.x,I b.y,I b.z,I mv]=some (ptR (DQ n a b mv)):=by
 unfold NQ;rw[Zjp];have e:wrap .i64 (0-mv)= -mv:=by rw[Ae (by omega)];omega
 unfold DQ RK;simp only[go_sem,e]
 (repeat' split)<;>first|rfl|(exfalso;omega)
theorem Wv {n hi:Int}:GL [I n,I hi]=some [I (Bz n hi)]:=by
 unfold GL;rw[Zyy];simp only[Jj,NA];rfl
theorem Zfj {MU MT MA:Fn} {x:Ax3} {mv:Int} {a b:Pt} {s units:Int} {t:Trk} {now:Pt} {n m k:Int} (hx:Ax3OK x) (h:TB t n m) (hn:n<=9000000) (hm:m<=900000000000000000) (hk:k<=900000000000000000) (hu:0<=units/\units<=k)
  (hT:MT [I now.x,I now.y,I now.z,I a.x,I a.y,I a.z,I b.x,I b.y,I b.z,I mv]=some (ptR (DQ now a b mv))) (hU:∀w d:Pt,MU (AO x++[I w.x,I w.y,I w.z,I d.x,I d.y,I d.z])=some [I (CU x w d)])
  (hA : ∀ {t : Trk} {c : Pce} {n m k : Int}, TB t n m -> n <= 10000000 -> m <= 1000000000000000000 -> k <= 1000000000000000000 -> (0 <= c.units /\ c.units <= k) ->
   MA [.view As (t.aE.map AI),I c.at_,I c.units,I c.s,I c.move,I c.was.x,I c.was.y,I c.was.z,I c.dirs.x,I c.dirs.y,I c.dirs.z,I t.length,I t.start,I t.dirs.x,I t.dirs.y,I t.dirs.z]=some (Bq (Fp t c))):
  U2 MU MT MA (.view As (t.aE.map AI)::I a.x::I a.y::I a.z::I b.x::I b.y::I b.z::I s::I units::I now.x::I now.y::I now.z::I mv::(AO x++[I t.length,I t.start,I t.dirs.x,I t.dirs.y,I t.dirs.z]))=
   some (.view As ((Ct x mv a b s units (t, now)).1.aE.map AI) :: I (Ct x mv a b s units (t, now)).2.x :: I (Ct x mv a b s units (t, now)).2.y :: I (Ct x mv a b s units (t, now)).2.z :: I mv :: (AO x ++
    [I (Ct x mv a b s units (t,now)).1.length,I (Ct x mv a b s units (t,now)).1.start,I (Ct x mv a b s units (t,now)).1.dirs.x,I (Ct x mv a b s units (t,now)).1.dirs.y,I (Ct x mv a b s units (t,now)).1.dirs.z])):=by
 have he:=Zk9 MU MT MA (t.aE.map AI) a.x a.y a.z b.x b.y b.z s units now.x now.y now.z mv x.a.step x.a.speed x.a.accel x.a.jerk x.a.low x.a.high x.a.back x.a.origin x.a.spacing (x.a.pitch.map Ap) x.b.step x.b.speed x.b.accel x.b.jerk x.b.low x.b.high x.b.back x.b.origin x.b.spacing (x.b.pitch.map Ap) x.c.step x.c.speed x.c.accel x.c.jerk x.c.low x.c.high x.c.back x.c.origin x.c.spacing (x.c.pitch.map Ap) t.length t.start t.dirs.x t.dirs.y t.dirs.z;refine Eq.trans he ?_;have hs:=Tw hx now (DQ now a b mv);have hU':=hU now (DQ now a b mv);simp only[AO,List.cons_append,List.nil_append]at hU'⊢;unfold Ct;simp only;generalize DQ now a b mv=nx at*;simp only[hT,go_sem,hU'];by_cases c:CU x now nx>0
 ·have h1:=hA (c:=⟨0,CU x now nx,s,0,now,nx⟩) h (by omega) (by omega) (k:=1000) (by omega) (by simp only;omega);have hb:=Wd (k:=1000) h (c:=⟨0,CU x now nx,s,0,now,nx⟩) (by simp only;omega);have h2:=hA (c:=⟨0,units,s,mv,nx,nx⟩) hb (by omega) (by omega) (k:=k) (by omega) hu;simp only at h1 h2;rw[if_pos c,if_pos c];simp only[h1,Bq,go_sem,h2]
 ·have h2:=hA (c:=⟨0,units,s,mv,nx,nx⟩) h (by omega) (by omega) (k:=k) (by omega) hu;simp only at h2;rw[if_neg c,if_neg c];simp only[h2,Bq,go_sem]
theorem Zgv {x:Ax3} {mv:Int} {a b:Pt} {s units:Int} {t:Trk} {now:Pt} {n m k:Int} (hv:mv=1\/mv= -1) (hx:Ax3OK x) (h:TB t n m) (hn:n<=9000000) (hm:m<=900000000000000000) (hk:k<=900000000000000000) (hu:0<=units/\units<=k):
  FK (.view As (t.aE.map AI)::I a.x::I a.y::I a.z::I b.x::I b.y::I b.z::I s::I units::I now.x::I now.y::I now.z::I mv::(AO x++[I t.length,I t.start,I t.dirs.x,I t.dirs.y,I t.dirs.z]))=
   some (.view As ((Ct x mv a b s units (t, now)).1.aE.map AI) :: I (Ct x mv a b s units (t, now)).2.x :: I (Ct x mv a b s units (t, now)).2.y :: I (Ct x mv a b s units (t, now)).2.z :: I mv :: (AO x ++
    [I (Ct x mv a b s units (t,now)).1.length,I (Ct x mv a b s units (t,now)).1.start,I (Ct x mv a b s units (t,now)).1.dirs.x,I (Ct x mv a b s units (t,now)).1.dirs.y,I (Ct x mv a b s units (t,now)).1.dirs.z])):=
 Zfj hx h hn hm hk hu (Zym now a b hv) (Zsp x) fun h1 h2 h3 h4 h5=>Zgr h1 h2 h3 h4 h5
end Go.Bm
namespace Go.Bm
open Classical
end Go.Bm
namespace Go.Bm
open Classical
def Fb (l:List Sgm) (j:Nat):Rw:=(List.range j).map fun i=>[I (Az l i)]
theorem SZ (l:List Sgm) (j:Nat):(Fb l j).length=j:=by simp[Fb]
theorem Zep (l:List Sgm) (j:Nat):Fb l (j+1)=Fb l j++[[I (Az l j)]]:=by unfold Fb;rw[List.range_succ,List.map_append];rfl
theorem Zbe {l:List Sgm} {n i:Nat} (h:i<n):nth [] (Fb l n) i=[I (Az l i)]:=by
 have hlt:i<(Fb l n).length:=by rw[SZ];exact h
 rw[GP [] _ i hlt];simp[Fb]
abbrev PA (p:Pth) (x:Ax3) (lo hi mv:Int) (t:Trk) (now:Pt) (at_:Int) (bl:Rw) (j:Nat):List AC:=
 [.view Aa bl, .view As (t.aE.map AI),I lo,I hi,I mv,I at_, .view Ah (p.aF.map Ay),I p.aF.length,I j,I p.start.x,I p.start.y,I p.start.z, .view Ah (p.aF.map Ay), .view AF (p.aD.map Aq),I now.x,I now.y,I now.z,I mv,I x.a.step,I x.a.speed,I x.a.accel,I x.a.jerk,I x.a.low,I x.a.high,I x.a.back,I x.a.origin,I x.a.spacing, .view Aa (x.a.pitch.map Ap),I x.b.step,I x.b.speed,I x.b.accel,I x.b.jerk,I x.b.low,I x.b.high,I x.b.back,I x.b.origin,I x.b.spacing, .view Aa (x.b.pitch.map Ap),I x.c.step,I x.c.speed,I x.c.accel,I x.c.jerk,I x.c.low,I x.c.high,I x.c.back,I x.c.origin,I x.c.spacing, .view Aa (x.c.pitch.map Ap),I t.length,I t.start,I t.dirs.x,I t.dirs.y,I t.dirs.z]
theorem Qvn {M:Fn} {p:Pth} {x:Ax3} {lo hi mv:Int} {t:Trk} {now:Pt} (h:SegOK p.aF):∀(k j:Nat),j+k=p.aF.length->
  An (Ta M) (PA p x lo hi mv t now (Az p.aF j) (Fb p.aF j) j)=some (1,[.view Aa (Fb p.aF p.aF.length), .view As (t.aE.map AI),I lo,I hi,I mv,I p.start.x,I p.start.y,I p.start.z, .view Ah (p.aF.map Ay), .view AF (p.aD.map Aq),I now.x,I now.y,I now.z,I mv,I x.a.step,I x.a.speed,I x.a.accel,I x.a.jerk,I x.a.low,I x.a.high,I x.a.back,I x.a.origin,I x.a.spacing, .view Aa (x.a.pitch.map Ap),I x.b.step,I x.b.speed,I x.b.accel,I x.b.jerk,I x.b.low,I x.b.high,I x.b.back,I x.b.origin,I x.b.spacing, .view Aa (x.b.pitch.map Ap),I x.c.step,I x.c.speed,I x.c.accel,I x.c.jerk,I x.c.low,I x.c.high,I x.c.back,I x.c.origin,I x.c.spacing, .view Aa (x.c.pitch.map Ap),I t.length,I t.start,I t.dirs.x,I t.dirs.y,I t.dirs.z])
 |0,j,hj=>by
  have hj':j=p.aF.length:=by omega
  refine A_ (o:=(1,_)) ?_ (by simp);rw[Qxd,AZ (by omega),hj']
 |k+1,j,hj=>by
  have hlt:j<p.aF.length:=by omega
  have hcnt:=h.count;have hpos:=V8 h j (by omega);have hg:=h.seg _ (Hc hlt);have hst:Ta M (PA p x lo hi mv t now (Az p.aF j) (Fb p.aF j) j)=some (0,PA p x lo hi mv t now (Az p.aF (j+1)) (Fb p.aF (j+1)) (j+1)):=by
   have hle:(Fb p.aF j++[[I (Az p.aF j)]]).length*8<=140737488355328:=by rw[List.length_append,SZ];simp only[List.length_cons,List.length_nil];omega
   have e1:wrap .i64 ((j:Int)+1)=((j+1:Nat):Int):=by rw[Ae (by omega)];omega
   rw[Qxd];simp only[go_sem,List.length_map,Int.toNat_natCast,Lo hlt,if_pos hle,e1,Zep];rw[if_pos (by omega),if_pos (by omega),Ae (x:=Az p.aF j+(sgA p.aF j).len) (by omega),Qi hlt]
  rw[Bt hst];exact Qvn h k (j+1) (by omega)
abbrev PJ (p:Pth) (x:Ax3) (lo hi mv:Int) (t:Trk) (now:Pt) (j:Nat):List AC:=
 [.view Aa (Fb p.aF p.aF.length), .view As (t.aE.map AI),I lo,I hi,I mv,I p.aF.length,I j,I p.start.x,I p.start.y,I p.start.z, .view Ah (p.aF.map Ay), .view AF (p.aD.map Aq),I now.x,I now.y,I now.z,I mv,I x.a.step,I x.a.speed,I x.a.accel,I x.a.jerk,I x.a.low,I x.a.high,I x.a.back,I x.a.origin,I x.a.spacing, .view Aa (x.a.pitch.map Ap),I x.b.step,I x.b.speed,I x.b.accel,I x.b.jerk,I x.b.low,I x.b.high,I x.b.back,I x.b.origin,I x.b.spacing, .view Aa (x.b.pitch.map Ap),I x.c.step,I x.c.speed,I x.c.accel,I x.c.jerk,I x.c.low,I x.c.high,I x.c.back,I x.c.origin,I x.c.spacing, .view Aa (x.c.pitch.map Ap),I t.length,I t.start,I t.dirs.x,I t.dirs.y,I t.dirs.z]
abbrev FT (x:Ax3) (mv:Int) (t:Trk) (now:Pt):List AC:=[.view As (t.aE.map AI),I now.x,I now.y,I now.z,I mv,I x.a.step,I x.a.speed,I x.a.accel,I x.a.jerk,I x.a.low,I x.a.high,I x.a.back,I x.a.origin,I x.a.spacing, .view Aa (x.a.pitch.map Ap),I x.b.step,I x.b.speed,I x.b.accel,I x.b.jerk,I x.b.low,I x.b.high,I x.b.back,I x.b.origin,I x.b.spacing, .view Aa (x.b.pitch.map Ap),I x.c.step,I x.c.speed,I x.c.accel,I x.c.jerk,I x.c.low,I x.c.high,I x.c.back,I x.c.origin,I x.c.spacing, .view Aa (x.c.pitch.map Ap),I t.length,I t.start,I t.dirs.x,I t.dirs.y,I t.dirs.z]
theorem Zww {MV:Fn} {N:Lp} {p:Pth} {x:Ax3} {lo hi mv:Int} {t:Trk} {now:Pt} {n m:Int} {j:Nat} (hv:mv=1\/mv= -1) (hp:GoodPath p) (hx:Ax3OK x) (h:TB t n m) (hn:n<=9000000) (hm:m<=900000000000000000)
  (hj:j<p.aF.length)
  (hV:∀{a b:Pt} {s units:Int},(0<=units/\units<=268435456)->MV [.view As (t.aE.map AI),I a.x,I a.y,I a.z,I b.x,I b.y,I b.z,I s,I units,I now.x,I now.y,I now.z,I mv,I x.a.step,I x.a.speed,I x.a.accel,I x.a.jerk,I x.a.low,I x.a.high,I x.a.back,I x.a.origin,I x.a.spacing, .view Aa (x.a.pitch.map Ap),I x.b.step,I x.b.speed,I x.b.accel,I x.b.jerk,I x.b.low,I x.b.high,I x.b.back,I x.b.origin,I x.b.spacing, .view Aa (x.b.pitch.map Ap),I x.c.step,I x.c.speed,I x.c.accel,I x.c.jerk,I x.c.low,I x.c.high,I x.c.back,I x.c.origin,I x.c.spacing, .view Aa (x.c.pitch.map Ap),I t.length,I t.start,I t.dirs.x,I t.dirs.y,I t.dirs.z]=some (FT x mv (Ct x mv a b s units (t,now)).1 (Ct x mv a b s units (t,now)).2)):
  R1 MV N (PJ p x lo hi mv t now j)=some (0,PJ p x lo hi mv (H7 p x mv lo hi (Ew p.aF.length mv j) (t,now)).1 (H7 p x mv lo hi (Ew p.aF.length mv j) (t,now)).2 (j+1)):=by
 have hok:=hp.ok;have hcnt:=hok.count;have hil0:=YZ mv hj;have hcase:(mv=1/\Ew p.aF.length mv j=j)\/(mv= -1/\Ew p.aF.length mv j=p.aF.length-1-j):=by
  unfold Ew;rcases hv with rfl|rfl
  ·exact .inl ⟨rfl,if_neg (by omega)⟩
  ·exact .inr ⟨rfl,if_pos (by omega)⟩
 obtain⟨i,hix⟩:∃i,Ew p.aF.length mv j=i:=⟨_,rfl⟩;rw[hix]at hil0 hcase⊢;have hil:i<p.aF.length:=hil0;have hg:=hok.seg _ (Hc hil);have hr:=Lo hil;have hb:=Zbe (l:=p.aF) hil;have hpos:=V8 hok i (by omega);have hsucc:=Qi hil;have hin:(0:Int)<=(i:Nat)/\(i:Int)<(p.aF.length:Int):=by omega
 have hin0:(j:Int)<(p.aF.length:Int):=by omega
 have e1:wrap .i64 ((j:Int)+1)=((j+1:Nat):Int):=by rw[Ae (by omega)];omega
 have hI:wrap .i64 (wrap .i64 ((p.aF.length:Int)-1)-(j:Int))=((p.aF.length-1-j:Nat):Int):=by rw[Ae (x:=(p.aF.length:Int)-1) (by omega),Ae (by omega)];omega
 have hw:wrap .i64 (Az p.aF i+(sgA p.aF i).len)=Az p.aF (i+1):=by rw[hsucc,Ae (by omega)]
 have hwd:max (Az p.aF i) lo<min (Az p.aF (i+1)) hi->wrap .i64 (min (Az p.aF (i+1)) hi-max (Az p.aF i) lo)=min (Az p.aF (i+1)) hi-max (Az p.aF i) lo:=fun _=>Ae (by omega);have hd:max (Az p.aF i) lo<min (Az p.aF (i+1)) hi->0<=min (Az p.aF (i+1)) hi-max (Az p.aF i) lo/\min (Az p.aF (i+1)) hi-max (Az p.aF i) lo<=268435456:=fun _=>by omega
 have hI1:i≠0->wrap .i64 ((i:Int)-1)=((i-1:Nat):Int)/\((0:Int)<=((i-1:Nat):Int)/\((i-1:Nat):Int)<(p.aF.length:Int))/\nth [] (p.aF.map Ay) (i-1)=Ay (sgA p.aF (i-1))/\E2 p.start p.aF i=(sgA p.aF (i-1)).to:=by
  intro h0;refine⟨by rw[Ae (by omega)];omega,by omega,Lo (by omega),?_⟩;obtain⟨q,rfl⟩:∃q,i=q+1:=⟨i-1,by omega⟩;exact S1 (by omega)
 unfold H7;rw[Q29];rcases hcase with⟨rfl,rfl⟩|⟨rfl,ei⟩
 ·simp only[go_sem,List.length_map,SZ,Int.toNat_natCast,hr,hb,if_pos hin,if_pos hin0,NA,Jj,hw,e1];rw[if_neg (by omega)];by_cases c:max (Az p.aF i) lo<min (Az p.aF (i+1)) hi
  ·rw[if_neg (by omega),if_pos c,hwd c];by_cases c0:i=0
   ·rw[if_neg (by omega)];have hV':=hV (a:=p.start) (b:=(sgA p.aF i).to) (s:=max (Az p.aF i) lo) (hd c);subst c0;rw[Jo];rw[if_neg (by omega),hV'];simp only[FT,go_sem];rfl
   ·obtain⟨k1,k2,k3,k4⟩:=hI1 c0;rw[if_pos (by omega),k1];have hV':=hV (a:=(sgA p.aF (i-1)).to) (b:=(sgA p.aF i).to) (s:=max (Az p.aF i) lo) (hd c);rw[k4];simp only[Int.toNat_natCast,k3,go_sem,if_pos k2];rw[if_neg (by omega),hV'];simp only[FT,go_sem];rfl
  ·rw[if_pos (by omega),if_neg c]
 ·rw[<-ei]at hI;simp only[go_sem,List.length_map,SZ,hI,Int.toNat_natCast,hr,hb,if_pos hin,if_pos hin0,NA,Jj,hw,e1];rw[if_pos (by omega)];by_cases c:max (Az p.aF i) lo<min (Az p.aF (i+1)) hi
  ·rw[if_neg (by omega),if_pos c,hwd c];by_cases c0:i=0
   ·rw[if_neg (by omega)];have hV':=hV (a:=p.start) (b:=(sgA p.aF i).to) (s:=min (Az p.aF (i+1)) hi) (hd c);subst c0;rw[Jo];rw[if_pos (by omega),hV'];simp only[FT,go_sem];rfl
   ·obtain⟨k1,k2,k3,k4⟩:=hI1 c0;rw[if_pos (by omega),k1];have hV':=hV (a:=(sgA p.aF (i-1)).to) (b:=(sgA p.aF i).to) (s:=min (Az p.aF (i+1)) hi) (hd c);rw[k4];simp only[Int.toNat_natCast,k3,go_sem,if_pos k2];rw[if_pos (by omega),hV'];simp only[FT,go_sem];rfl
  ·rw[if_pos (by omega),if_neg c]
end Go.Bm
namespace Go.Bm
open Classical
def pcA (l:List Pce) (i:Nat):Pce:=l.getD i pc0
def eI (l:List Pce) (i:Nat):Int:=(pcA l i).at_+(pcA l i).units
def fI:List Pce->Int->Nat
 |[],_=>0
 |c::l,u=>if u<=c.at_+c.units then 0 else fI l u+1
theorem Hh (c:Pce) (l:List Pce) (i:Nat):pcA (c::l) (i+1)=pcA l i:=by unfold pcA;simp
theorem J3 (c:Pce) (l:List Pce):pcA (c::l) 0=c:=by unfold pcA;simp
theorem QO {l:List Pce} {i:Nat} (h:i<l.length):nth [] (l.map AI) i=AI (pcA l i):=by
 have e:pcA l i=l[i]:=by unfold pcA;simp[h]
 rw[e];exact I_ _ _ _ _ h
theorem Q7:∀{l:List Pce} {u:Int} {j:Nat},j<l.length->u<=eI l j->fI l u<=j
 |c::l,u,0,_,h=>by
  unfold eI at h;rw[J3]at h;unfold fI;rw[if_pos h];exact Nat.le_refl _
 |c::l,u,j+1,hj,h=>by
  unfold fI;by_cases c0:u<=c.at_+c.units
  ·rw[if_pos c0];omega
  ·rw[if_neg c0];have:fI l u<=j:=Q7 (by simpa using hj) (by unfold eI at h⊢;rw[Hh]at h;exact h);omega
theorem Qrl:∀{l:List Pce} {u:Int},fI l u<l.length->u<=eI l (fI l u)
 |[],_,h=>by simp at h
 |c::l,u,h=>by
  unfold fI at h⊢;by_cases c0:u<=c.at_+c.units
  ·rw[if_pos c0];unfold eI;rw[J3];exact c0
  ·rw[if_neg c0]at h⊢;have:=Qrl (l:=l) (u:=u) (by simpa using h);unfold eI at this⊢;rw[Hh];exact this
structure TQ (t : Trk) : Prop where
 count:t.aE.length<=10000000
 len:0<=t.length/\t.length<=900000000000000
 pos:∀i,i<t.aE.length->0<=(pcA t.aE i).at_/\1<=(pcA t.aE i).units/\eI t.aE i<=t.length
 mono:∀i j,i<=j->j<t.aE.length->eI t.aE i<=eI t.aE j
 last:t.aE≠[]->eI t.aE (t.aE.length-1)=t.length
 start:0<=t.start/\t.start<=263886834032640
 s:∀i,i<t.aE.length-> -900000000000000<=(pcA t.aE i).s/\(pcA t.aE i).s<=2000000000000000
 move:∀i,i<t.aE.length->(pcA t.aE i).move=0\/(pcA t.aE i).move=1\/(pcA t.aE i).move= -1
def clT (t:Trk) (u:Int):Int:=Bz u t.length
theorem N_ {t:Trk} (h:TQ t) (u:Int):0<=clT t u/\clT t u<=t.length:=by have:=h.len;unfold clT Bz;omega
def iT (t:Trk) (u:Int):Nat:=fI t.aE (clT t u)
theorem Lv {t:Trk} (h:TQ t) (u:Int) (hne:t.aE≠[]):iT t u<t.aE.length:=by
 have hp:0<t.aE.length:=by
  cases hh:t.aE with
  |nil=>exact absurd hh hne
  |cons _ _=>simp
 have:=Q7 (l:=t.aE) (u:=clT t u) (j:=t.aE.length-1) (by omega) (by rw[h.last hne];exact(N_ h u).2);unfold iT;omega
def AT (t:Trk) (u:Int):Int:=if t.aE=[]then t.start else(pcA t.aE (iT t u)).s+(pcA t.aE (iT t u)).move*(clT t u-(pcA t.aE (iT t u)).at_)
theorem Qe5 {t:Trk} (h:TQ t) {u:Int} (hi:fI t.aE u<t.aE.length):∀(k lo hi:Nat),hi-lo<=k->lo<=fI t.aE u->fI t.aE u<=hi->hi<t.aE.length->
  An RY [I u,I lo,I hi, .view As (t.aE.map AI),I t.length,I t.start,I t.dirs.x,I t.dirs.y,I t.dirs.z]=some (1,[I (fI t.aE u)])
 |k,lo,hi,hk,h1,h2,h3=>by
  have hcnt:=h.count;have hl:=h.len;by_cases c:lo<hi
  ·have em:wrap .i64 ((wrap .i64 ((lo:Int)+hi)).tdiv 2)=(((lo+hi)/2:Nat):Int):=by
    rw[Ae (x:=(lo:Int)+hi) (by omega),Int.tdiv_eq_ediv_of_nonneg (by omega),Ae (by omega)];omega
   have hm1:lo<=(lo+hi)/2/\(lo+hi)/2<hi:=by omega
   generalize(lo+hi)/2=m at*;have hlt:m<t.aE.length:=by omega
   have hpos:=h.pos m hlt;have hin:(0:Int)<=(m:Int)/\(m:Int)<(t.aE.length:Int):=by omega
   have hw:wrap .i64 ((pcA t.aE m).at_+(pcA t.aE m).units)=eI t.aE m:=by unfold eI at hpos⊢;exact Ae (by omega)
   have hst:RY [I u,I lo,I hi, .view As (t.aE.map AI),I t.length,I t.start,I t.dirs.x,I t.dirs.y,I t.dirs.z]=if u<=eI t.aE m then some (0,[I u,I lo,I m, .view As (t.aE.map AI),I t.length,I t.start,I t.dirs.x,I t.dirs.y,I t.dirs.z])else some (0,[I u,I (m+1:Nat),I hi, .view As (t.aE.map AI),I t.length,I t.start,I t.dirs.x,I t.dirs.y,I t.dirs.z]):=by
    rw[W3,em];simp only[go_sem,List.length_map,Int.toNat_natCast,QO hlt,if_pos hin,hw,Ae (x:=(m:Int)+1) (by omega)];rw[if_pos (by omega)];rfl
   by_cases c2:u<=eI t.aE m
   ·rw[if_pos c2]at hst;rw[Bt hst];cases k with
    |zero=>omega
    |succ k=>exact Qe5 h (by omega) k lo m (by omega) h1 (Q7 hlt c2) hlt
   ·rw[if_neg c2]at hst;rw[Bt hst];have hgt:m<fI t.aE u:=by
     by_cases c3:fI t.aE u<=m
     ·exact absurd (Int.le_trans (Qrl (by omega)) (h.mono _ _ c3 hlt)) c2
     ·omega
    cases k with
    |zero=>omega
    |succ k=>exact Qe5 h (by omega) k (m+1) hi (by omega) (by omega) h2 h3
  ·refine A_ (o:=(1,_)) ?_ (by simp);rw[W3,AZ (by omega),show fI t.aE u=hi by omega]
theorem Qrk {t:Trk} (h:TQ t) (u:Int):I6 (Bq t++[I (clT t u)])=some [I (if t.aE=[]then-1 else(iT t u:Int))]:=by
 have he:=Zsa LG (t.aE.map AI) t.length t.start t.dirs.x t.dirs.y t.dirs.z (clT t u);unfold I6;refine Eq.trans he ?_;rw[List.length_map];have hcnt:=h.count;by_cases c:t.aE=[]
 ·have hl:LG [I (clT t u),I 0,I (-1), .view As (t.aE.map AI),I t.length,I t.start,I t.dirs.x,I t.dirs.y,I t.dirs.z]=some (1,[I (-1)]):=by
   refine A_ (o:=(1,_)) ?_ (by simp);rw[W3,AZ (by omega)]
  have e1:wrap .i64 ((t.aE.length:Int)-1)= -1:=by rw[c];rfl
  rw[if_pos c,e1];generalize LG=N at*;simp only[hl,go_sem]
 ·have hp:0<t.aE.length:=by
   cases hh:t.aE with
   |nil=>exact absurd hh c
   |cons _ _=>simp
  have hi:=Lv h u c;have hl:=Qe5 h (u:=clT t u) hi t.aE.length 0 (t.aE.length-1) (by omega) (by omega) (by unfold iT at hi;omega) (by omega);have hl':LG [I (clT t u),I 0,I (t.aE.length-1:Nat), .view As (t.aE.map AI),I t.length,I t.start,I t.dirs.x,I t.dirs.y,I t.dirs.z]=some (1,[I (iT t u:Int)]):=hl;have e1:wrap .i64 ((t.aE.length:Int)-1)=((t.aE.length-1:Nat):Int):=by rw[Ae (by omega)];omega
  rw[if_neg c,e1];generalize LG=N at*;simp only[hl',go_sem]
theorem Q8e {t:Trk} (h:TQ t) (u:Int) (hne:t.aE≠[]):
  wrap .i64 ((pcA t.aE (iT t u)).s+wrap .i64 ((pcA t.aE (iT t u)).move*wrap .i64 (clT t u-(pcA t.aE (iT t u)).at_)))=AT t u:=by
 have hi:=Lv h u hne;have h1:=h.pos _ hi;have h2:=h.s _ hi;have h3:=h.move _ hi;have h4:=N_ h u;have h5:=h.len;unfold AT eI at*;rw[if_neg hne,Ae (x:=clT t u-_) (by omega)];generalize pcA t.aE (iT t u)=c at*;have hb:(-900000000000000<=c.move*(clT t u-c.at_)/\c.move*(clT t u-c.at_)<=900000000000000):=by
  rcases h3 with h3|h3|h3<;>rw[h3]<;>omega
 rw[Ae (x:=c.move*_) (by omega),Ae (by omega)]
theorem Zrt {MF MC:Fn} {t:Trk} (h:TQ t) {u:Int} (hC:MC [I u,I t.length]=some [I (clT t u)]) (hM:MF (Bq t++[I (clT t u)])=some [I (if t.aE=[]then-1 else(iT t u:Int))]):Qaw MF MC (Bq t++[I u])=some [I (AT t u)]:=by
 have he:=Zr4 MF MC (t.aE.map AI) t.length t.start t.dirs.x t.dirs.y t.dirs.z u;refine Eq.trans he ?_;simp only[Bq,List.cons_append,List.nil_append]at hM;by_cases c:t.aE=[]
 ·rw[if_pos c]at hM;simp only[hC,hM,go_sem];rw[if_pos (by omega)];unfold AT;rw[if_pos c]
 ·have hi:=Lv h u c;have hcnt:=h.count;have hin:(0:Int)<=(iT t u:Int)/\(iT t u:Int)<(t.aE.length:Int):=by omega
  rw[if_neg c]at hM;simp only[hC,hM,go_sem,List.length_map,if_pos hin,Int.toNat_natCast,QO hi,Q8e h u c];rw[if_neg (by omega)]
theorem QG {t:Trk} (h:TQ t) (u:Int):EI (Bq t++[I u])=some [I (AT t u)]:=Zrt h Wv (Qrk h u)
end Go.Bm
namespace Go.Bm
open Classical
def HM (sp:Int) (l:List Int):Prop:=(∀v∈l,-4096<=v/\v<=4096)/\∀i,i+1<l.length-> -sp<=4*(l.getD (i+1) 0-l.getD i 0)/\4*(l.getD (i+1) 0-l.getD i 0)<=sp
structure AxOK (a : Axs) : Prop where
 step:4<=a.step/\a.step<=64
 back:0<=a.back/\a.back<=6
 origin: -200<=a.origin/\a.origin<=200
 spacing:a.pitch≠[]->4<=a.spacing/\a.spacing<=123
 pitch:HM a.spacing a.pitch
 count:a.pitch.length<=4
 lim:1<=a.speed/\a.speed<=1000/\2<=a.accel/\a.accel<=1000/\4<=a.jerk/\a.jerk<=1000/\a.low= -16777216/\a.high=16777216
theorem Sw {l m:List Int} {i:Nat} (h:i<l.length):(l++m).getD i 0=l.getD i 0:=by simp[List.getD_eq_getElem?_getD,List.getElem?_append_left h]
theorem Zke (l m:List Int) (v:Int):(l++v::m).getD l.length 0=v:=by simp[List.getD_eq_getElem?_getD]
theorem Zkm {sp v w:Int} {l:List Int} (h:HM sp (l++[v])) (hw: -4096<=w/\w<=4096) (hd: -sp<=4*(w-v)/\4*(w-v)<=sp):HM sp (l++[v]++[w]):=by
 refine⟨?_,?_⟩
 ·intro x hx;rcases List.mem_append.1 hx with hx|hx
  ·exact h.1 x hx
  ·rw[List.mem_singleton]at hx;subst hx;exact hw
 ·intro i hi;simp only[List.length_append,List.length_cons,List.length_nil]at hi;by_cases c:i+1<(l++[v]).length
  ·have:=h.2 i c;have c':i<(l++[v]).length:=by omega
   rw[Sw c,Sw c'];exact this
  ·simp only[List.length_append,List.length_cons,List.length_nil]at c;have e:i=l.length:=by omega
   subst e;have g1:(l++[v]++[w]).getD (l.length+1) 0=w:=by
    simp
   have g2:(l++[v]++[w]).getD l.length 0=v:=by
    rw[List.append_assoc];exact Zke l ([]++[w]) v
   rw[g1,g2];exact hd
theorem Q94 {sp v:Int} {l:List Int} (h:HM sp (l++[v])):HM sp l:=by
 refine⟨fun x hx=>h.1 x (by simp[hx]),fun i hi=> ?_⟩;have:=h.2 i (by simp;omega);rw[Sw hi,Sw (by omega)]at this;exact this
theorem Zvs {sp v:Int} (hv: -4096<=v/\v<=4096):HM sp ([]++[v]):=⟨fun x hx=>by simp at hx;subst hx;exact hv,fun i hi=>by simp at hi⟩
theorem Zh3 {v:Int} (h:0<=v/\v<6):∃x,Af (nth .dead (nth [] [[I 8],[I 4],[I 5],[I 16],[I 23],[I 64]] v.toNat) 0)=x/\4<=x/\x<=64:=by
 have hc:v=0\/v=1\/v=2\/v=3\/v=4\/v=5:=by omega
 rcases hc with rfl|rfl|rfl|rfl|rfl|rfl<;>exact⟨_,rfl,by decide⟩
theorem W2 {v:Int} (h:0<=v/\v<5):∃x y z,Af (nth .dead (nth [] [[I 40],[I 1],[I 3],[I 9],[I 1000]] v.toNat) 0)=x/\Af (nth .dead (nth [] [[I 20],[I 2],[I 3],[I 5],[I 1000]] v.toNat) 0)=y/\Af (nth .dead (nth [] [[I 30],[I 4],[I 5],[I 8],[I 1000]] v.toNat) 0)=z/\1<=x/\x<=1000/\2<=y/\y<=1000/\4<=z/\z<=1000:=by
 have hc:v=0\/v=1\/v=2\/v=3\/v=4:=by omega
 rcases hc with rfl|rfl|rfl|rfl|rfl<;>exact⟨_,_,_,rfl,rfl,rfl,by decide⟩
theorem Zq6 {v:Int} (h:0<=v/\v<4):∃x,Af (nth .dead (nth [] [[I 0],[I 1],[I 3],[I 6]] v.toNat) 0)=x/\0<=x/\x<=6:=by
 have hc:v=0\/v=1\/v=2\/v=3:=by omega
 rcases hc with rfl|rfl|rfl|rfl<;>exact⟨_,rfl,by decide⟩
abbrev axS (l:Rw) (pit:List Int) (n v:Int) (j:Nat) (a:Axs) (k:Nat):List AC:=
 [.view Aa [], .view Aa (pit.map Ap),I n,I v,I j,I 0,I 0,I 0,I 0,I 0,I 0,I 0,I 0,I 0,I a.step,I a.speed,I a.accel,I a.jerk,I a.low,I a.high,I a.back,I a.origin,I a.spacing, .view Aa l,I k]
theorem Qx4 {MN:Fn} {l:Rw} (hN:HI l MN) {a:Axs} (hsp:4<=a.spacing/\a.spacing<=123):∀(r j:Nat) (pit:List Int) (v:Int) (k:Nat),j+r<=4->pit.length=j->HM a.spacing (pit++[v])->
  ∃(pit':List Int) (k':Nat),An (QE MN) (axS l pit (j+r:Nat) v j a k)=some (1,[.view Aa [], .view Aa (pit'.map Ap),I 0,I 0,I 0,I 0,I 0,I 0,I 0,I 0,I 0,I a.step,I a.speed,I a.accel,I a.jerk,I a.low,I a.high,I a.back,I a.origin,I a.spacing, .view Aa l,I k'])/\pit'.length=j+r/\HM a.spacing pit'
 |0,j,pit,v,k,_,hl,h=>by
  refine⟨pit,k,A_ (o:=(1,_)) ?_ (by simp),by omega,Q94 h⟩;rw[Q0g,AZ (by omega)]
 |r+1,j,pit,v,k,hj,hl,h=>by
  have hv:=h.1 v (by simp);have e4:wrap .i64 (a.spacing.tdiv 4)=a.spacing/4:=by rw[Int.tdiv_eq_ediv_of_nonneg (by omega),Ae (by omega)]
  have e5:wrap .i64 (wrap .i64 (2*(a.spacing/4))+1)=2*(a.spacing/4)+1:=by rw[Ae (x:=2*(a.spacing/4)) (by omega),Ae (by omega)]
  obtain⟨w,k1,hw,w0,w1,-⟩:=hN k (n:=2*(a.spacing/4)+1) (by omega);have e6:wrap .i64 (wrap .i64 (v+w)-a.spacing/4)=v+w-a.spacing/4:=by rw[Ae (x:=v+w) (by omega),Ae (by omega)]
  have hle:(pit.map Ap++[[I v]]).length*8<=140737488355328:=by rw[List.length_append,List.length_map];simp only[List.length_cons,List.length_nil];omega
  have hst:QE MN (axS l pit (j+(r+1):Nat) v j a k)=some (0,axS l (pit++[v]) (j+1+r:Nat) (min (max (v+w-a.spacing/4) (-4096)) 4096) (j+1) a k1):=by
   rw[Q0g];simp only[go_sem,if_pos hle,e4,e5,hw,e6,Jj,NA];rw[if_pos (by omega),Ae (x:=(j:Int)+1) (by omega),show j+(r+1)=j+1+r by omega];simp only[axS,List.map_append,List.map_cons,List.map_nil,Ap,Int.natCast_add,Int.cast_ofNat_Int]
  rw[Bt hst];obtain⟨p',k',h1,h2,h3⟩:=Qx4 hN hsp r (j+1) (pit++[v]) (min (max (v+w-a.spacing/4) (-4096)) 4096) k1 (by omega) (by simp[hl]) (Zkm h (by omega) (by omega));exact⟨p',k',h1,by omega,h3⟩
theorem Zvg {MN:Fn} {N:Lp} {l:Rw} (hN:HI l MN)
  (hL:∀{a:Axs} {n:Nat} {v:Int} {k:Nat},(4<=a.spacing/\a.spacing<=123)->n<=4->HM a.spacing ([]++[v])->∃(pit':List Int) (k':Nat),N (axS l [] n v 0 a k)=some (1,[.view Aa [], .view Aa (pit'.map Ap),I 0,I 0,I 0,I 0,I 0,I 0,I 0,I 0,I 0,I a.step,I a.speed,I a.accel,I a.jerk,I a.low,I a.high,I a.back,I a.origin,I a.spacing, .view Aa l,I k'])/\pit'.length=n/\HM a.spacing pit') (k:Nat):
  ∃(a:Axs) (k':Nat),Qbe MN N [.view Aa l,I k]=some (Bk a++[.view Aa l,I k'])/\AxOK a:=by
 obtain⟨v1,k1,h1,a1,b1,-⟩:=hN k (n:=6) (by omega);obtain⟨v2,k2,h2,a2,b2,-⟩:=hN k1 (n:=4) (by omega);obtain⟨v3,k3,h3,a3,b3,-⟩:=hN k2 (n:=5) (by omega);obtain⟨v4,k4,h4,a4,b4,-⟩:=hN k3 (n:=5) (by omega);obtain⟨v5,k5,h5,a5,b5,-⟩:=hN k4 (n:=5) (by omega);obtain⟨v6,k6,h6,a6,b6,-⟩:=hN k5 (n:=5) (by omega);obtain⟨v7,k7,h7,a7,b7,-⟩:=hN k6 (n:=400) (by omega);obtain⟨v8,k8,h8,a8,b8,-⟩:=hN k7 (n:=120) (by omega);obtain⟨v9,k9,h9,a9,b9,-⟩:=hN k8 (n:=9) (by omega);obtain⟨x1,e1,s1⟩:=Zh3 ⟨a1,b1⟩;obtain⟨x2,e2,s2⟩:=Zq6 ⟨a2,b2⟩;have i1:(0:Int)<=v1/\v1<(([[I 8],[I 4],[I 5],[I 16],[I 23],[I 64]]:Rw).length:Int):=⟨a1,by simp;omega⟩;have i2:(0:Int)<=v2/\v2<(([[I 0],[I 1],[I 3],[I 6]]:Rw).length:Int):=⟨a2,by simp;omega⟩;have i3:(0:Int)<=v3/\v3<(([[I 40],[I 1],[I 3],[I 9],[I 1000]]:Rw).length:Int):=⟨a3,by simp;omega⟩;have i4:(0:Int)<=v4/\v4<(([[I 20],[I 2],[I 3],[I 5],[I 1000]]:Rw).length:Int):=⟨a4,by simp;omega⟩;have i5:(0:Int)<=v5/\v5<(([[I 30],[I 4],[I 5],[I 8],[I 1000]]:Rw).length:Int):=⟨a5,by simp;omega⟩;obtain⟨x3,_,_,hx3,-,-,s3,t3,-⟩:=W2 ⟨a3,b3⟩;obtain⟨_,x4,_,-,hx4,-,-,-,s4,t4,-⟩:=W2 ⟨a4,b4⟩;obtain⟨_,_,x5,-,-,hx5,-,-,-,-,s5,t5⟩:=W2 ⟨a5,b5⟩;have main : ∀ R, R = (if v6 = 0 then some [I x1, I x3, I x4, I x5, I (-16777216), I 16777216, I x2, I 0, I 0, .view Aa [], .view Aa l, I k6] else
   (N (axS l [] v6.toNat (v9-4) 0 ⟨x1,x3,x4,x5,-16777216,16777216,x2,v7-200,4+v8,[]⟩ k9)).bind fun o=>if o.1=1 then some [I (Af (nth .dead o.2 11)),I (Af (nth .dead o.2 12)),I (Af (nth .dead o.2 13)),I (Af (nth .dead o.2 14)),I (Af (nth .dead o.2 15)),I (Af (nth .dead o.2 16)),I (Af (nth .dead o.2 17)),I (Af (nth .dead o.2 18)),I (Af (nth .dead o.2 19)), .view Aa (Ce (nth .dead o.2 1)), .view Aa (Ce (nth .dead o.2 20)),I (Af (nth .dead o.2 21))]else none)->
   ∃(a:Axs) (k':Nat),R=some (Bk a++[.view Aa l,I k'])/\AxOK a:=by
  intro R hR;by_cases c:v6=0
  ·rw[if_pos c]at hR;refine⟨⟨x1,x3,x4,x5,-16777216,16777216,x2,0,0,[]⟩,k6,hR,?_⟩;exact⟨s1,s2,by simp,fun h=>absurd rfl h,⟨by simp,by simp⟩,by simp,⟨s3,t3,s4,t4,s5,t5,rfl,rfl⟩⟩
  ·rw[if_neg c]at hR;obtain⟨pit,k',g1,g2,g3⟩:=hL (a:=⟨x1,x3,x4,x5,-16777216,16777216,x2,v7-200,4+v8,[]⟩) (n:=v6.toNat) (v:=v9-4) (k:=k9) (by simp only;omega) (by omega) (Zvs (by omega));rw[g1]at hR;refine⟨⟨x1,x3,x4,x5,-16777216,16777216,x2,v7-200,4+v8,pit⟩,k',?_,?_⟩
   ·rw[hR];simp only[go_sem];try rfl
   ·exact⟨s1,s2,by simp only;omega,fun _=>by simp only;omega,g3,by simp only;omega,⟨s3,t3,s4,t4,s5,t5,rfl,rfl⟩⟩
 refine main _ ?_;rw[Ztq];simp only[go_sem,h1,h2,h3,h4,h5,h6,if_pos i1,if_pos i2,if_pos i3,if_pos i4,if_pos i5,e1,e2,hx3,hx4,hx5];by_cases c:v6=0
 ·rw[if_pos c,if_pos c]
 ·rw[if_neg c,if_neg c];simp only[h7,h8,h9,go_sem,Ae (x:=v9-4) (by omega),Ae (x:=v7-200) (by omega),Ae (x:=4+v8) (by omega)];have e:((v6.toNat:Nat):Int)=v6:=by omega
  simp only[axS,e,List.map_nil];rfl
theorem Qjf {l:Rw} (hl:Src l) (k:Nat):∃(a:Axs) (k':Nat),L3 [.view Aa l,I k]=some (Bk a++[.view Aa l,I k'])/\AxOK a:=by
 refine Zvg (N:=Ql8) (Jc hl) (fun{a n v k} hs hn hv=> ?_) k;obtain⟨p,k',h1,h2,h3⟩:=Qx4 (MN:=Cj) (Jc hl) hs n 0 [] v k (by omega) rfl hv;rw[Nat.zero_add]at h1 h2;exact⟨p,k',h1,h2,h3⟩
structure Ax3M (x : Ax3) : Prop where
 a:AxOK x.a
 b:AxOK x.b
 c:AxOK x.c
theorem Ax3M.ok {x:Ax3} (h:Ax3M x):Ax3OK x:=⟨by have:=h.a.back;omega,by have:=h.b.back;omega,by have:=h.c.back;omega⟩
theorem Znb {l:Rw} (hl:Src l):∃x:Ax3,NR [.view Aa l]=some (AO x)/\Ax3M x:=by
 obtain⟨a,k1,h1,g1⟩:=Qjf hl 0;obtain⟨b,k2,h2,g2⟩:=Qjf hl k1;obtain⟨c,k3,h3,g3⟩:=Qjf hl k2;refine⟨⟨a,b,c⟩,?_,g1,g2,g3⟩;have hf:=RF l;unfold NR;generalize L3=MA at*;generalize DA=MF at*;rw[Zv6];have h1':MA [.view Aa l,I 0]=some (Bk a++[.view Aa l,I k1]):=h1;simp only[Bk,List.cons_append,List.nil_append]at h1' h2 h3;simp only[go_sem,hf,h1',h2,h3]
end Go.Bm
namespace Go.Bm
open Classical
theorem Zjt {p:Pth} {x:Ax3} {mv lo hi f:Int} {d:Pt} (j:Nat):(Cy p x mv lo hi (⟨[],0,f,d⟩,d) j).1.start=f/\(Cy p x mv lo hi (⟨[],0,f,d⟩,d) j).1.dirs=d:=by
 induction j with
 |zero=>exact⟨rfl,rfl⟩
 |succ j ih=>rw[Cy,(Q3i _).1,(Q3i _).2];exact ih
theorem Qqr {p:Pth} {x:Ax3} {lo hi mv f:Int} {d:Pt} (hv:mv=1\/mv= -1) (hp:GoodPath p) (hx:Ax3OK x):∀(k j:Nat),j+k=p.aF.length->∀w,w=Cy p x mv lo hi (⟨[],0,f,d⟩,d) j->
  An (R1 FK Om) (PJ p x lo hi mv w.1 w.2 j)=some (1,FT x mv (Cy p x mv lo hi (⟨[],0,f,d⟩,d) p.aF.length).1 (Cy p x mv lo hi (⟨[],0,f,d⟩,d) p.aF.length).2)
 |0,j,hj,w,hw=>by
  have hj':j=p.aF.length:=by omega
  refine A_ (o:=(1,_)) ?_ (by simp);rw[Q29,AZ (by omega),hw,hj']
 |k+1,j,hj,w,hw=>by
  have hcnt:=hp.count;have hb:=Qcp (mv:=mv) (lo:=lo) (hi:=hi) (f:=f) (d:=d) hx hp.ok j (by omega);rw[<-hw]at hb;have hst:=Zww (MV:=FK) (N:=Om) (lo:=lo) (hi:=hi) (now:=w.2) (j:=j) hv hp hx hb (by omega) (by omega) (by omega) (fun{a b s units} hu=>Zgv hv hx hb (by omega) (by omega) (k:=268435456) (by omega) hu);rw[Bt hst];exact Qqr hv hp hx k (j+1) (by omega) _ (by rw[Cy,<-hw])
theorem Zl1 {MV:Fn} {N4 N10:Lp} {p:Pth} {x:Ax3} {lo hi mv f:Int} {d:Pt}
  (h4:N4 (PA p x lo hi mv ⟨[],0,f,d⟩ d 0 [] 0)=some (1,[.view Aa (Fb p.aF p.aF.length), .view As [],I lo,I hi,I mv,I p.start.x,I p.start.y,I p.start.z, .view Ah (p.aF.map Ay), .view AF (p.aD.map Aq),I d.x,I d.y,I d.z,I mv,I x.a.step,I x.a.speed,I x.a.accel,I x.a.jerk,I x.a.low,I x.a.high,I x.a.back,I x.a.origin,I x.a.spacing, .view Aa (x.a.pitch.map Ap),I x.b.step,I x.b.speed,I x.b.accel,I x.b.jerk,I x.b.low,I x.b.high,I x.b.back,I x.b.origin,I x.b.spacing, .view Aa (x.b.pitch.map Ap),I x.c.step,I x.c.speed,I x.c.accel,I x.c.jerk,I x.c.low,I x.c.high,I x.c.back,I x.c.origin,I x.c.spacing, .view Aa (x.c.pitch.map Ap),I 0,I f,I d.x,I d.y,I d.z]))
  (h10:N10 (PJ p x lo hi mv ⟨[],0,f,d⟩ d 0)=some (1,FT x mv (Cy p x mv lo hi (⟨[],0,f,d⟩,d) p.aF.length).1 (Cy p x mv lo hi (⟨[],0,f,d⟩,d) p.aF.length).2)):
  Qaj MV N4 N10 [.view As [],I p.start.x,I p.start.y,I p.start.z, .view Ah (p.aF.map Ay), .view AF (p.aD.map Aq),I lo,I hi,I mv,I d.x,I d.y,I d.z,I mv,I x.a.step,I x.a.speed,I x.a.accel,I x.a.jerk,I x.a.low,I x.a.high,I x.a.back,I x.a.origin,I x.a.spacing, .view Aa (x.a.pitch.map Ap),I x.b.step,I x.b.speed,I x.b.accel,I x.b.jerk,I x.b.low,I x.b.high,I x.b.back,I x.b.origin,I x.b.spacing, .view Aa (x.b.pitch.map Ap),I x.c.step,I x.c.speed,I x.c.accel,I x.c.jerk,I x.c.low,I x.c.high,I x.c.back,I x.c.origin,I x.c.spacing, .view Aa (x.c.pitch.map Ap),I 0,I f,I d.x,I d.y,I d.z]=some (FT x mv (Cy p x mv lo hi (⟨[],0,f,d⟩,d) p.aF.length).1 (Cy p x mv lo hi (⟨[],0,f,d⟩,d) p.aF.length).2):=by
 rw[Zpw];simp only[PA,List.map_nil,Int.cast_ofNat_Int]at h4;simp only[PJ,FT,List.map_nil,Int.cast_ofNat_Int]at h10;simp only[go_sem,List.length_map,h4,h10]
theorem Zzg {p:Pth} {x:Ax3} {lo hi mv f:Int} {d:Pt} (hv:mv=1\/mv= -1) (hp:GoodPath p) (hx:Ax3OK x):
  Qj [.view As [],I p.start.x,I p.start.y,I p.start.z, .view Ah (p.aF.map Ay), .view AF (p.aD.map Aq),I lo,I hi,I mv,I d.x,I d.y,I d.z,I mv,I x.a.step,I x.a.speed,I x.a.accel,I x.a.jerk,I x.a.low,I x.a.high,I x.a.back,I x.a.origin,I x.a.spacing, .view Aa (x.a.pitch.map Ap),I x.b.step,I x.b.speed,I x.b.accel,I x.b.jerk,I x.b.low,I x.b.high,I x.b.back,I x.b.origin,I x.b.spacing, .view Aa (x.b.pitch.map Ap),I x.c.step,I x.c.speed,I x.c.accel,I x.c.jerk,I x.c.low,I x.c.high,I x.c.back,I x.c.origin,I x.c.spacing, .view Aa (x.c.pitch.map Ap),I 0,I f,I d.x,I d.y,I d.z]=some (FT x mv (Cy p x mv lo hi (⟨[],0,f,d⟩,d) p.aF.length).1 (Cy p x mv lo hi (⟨[],0,f,d⟩,d) p.aF.length).2):=by
 refine Zl1 (MV:=FK) (N4:=Om) (N10:=Qh7) ?_ (Qqr hv hp hx p.aF.length 0 (by omega) _ rfl);have h:=Qvn (M:=FK) (x:=x) (lo:=lo) (hi:=hi) (mv:=mv) (t:=⟨[],0,f,d⟩) (now:=d) hp.ok p.aF.length 0 (by omega);rw[Ru]at h;exact h
theorem Zt3 {ME M2 M1 MC ML:Fn} {p:Pth} {x:Ax3} {d:Pt} {from_ to:Int} (hL:ML (Br p)=some [I (AA p.aF)]) (hC:∀n h:Int,MC [I n,I h]=some [I (Bz n h)])
  (hE:∀{lo hi mv f:Int},(mv=1\/mv= -1)->ME [.view As [],I p.start.x,I p.start.y,I p.start.z, .view Ah (p.aF.map Ay), .view AF (p.aD.map Aq),I lo,I hi,I mv,I d.x,I d.y,I d.z,I mv,I x.a.step,I x.a.speed,I x.a.accel,I x.a.jerk,I x.a.low,I x.a.high,I x.a.back,I x.a.origin,I x.a.spacing, .view Aa (x.a.pitch.map Ap),I x.b.step,I x.b.speed,I x.b.accel,I x.b.jerk,I x.b.low,I x.b.high,I x.b.back,I x.b.origin,I x.b.spacing, .view Aa (x.b.pitch.map Ap),I x.c.step,I x.c.speed,I x.c.accel,I x.c.jerk,I x.c.low,I x.c.high,I x.c.back,I x.c.origin,I x.c.spacing, .view Aa (x.c.pitch.map Ap),I 0,I f,I d.x,I d.y,I d.z]=some (FT x mv (Cy p x mv lo hi (⟨[],0,f,d⟩,d) p.aF.length).1 (Cy p x mv lo hi (⟨[],0,f,d⟩,d) p.aF.length).2)):
  Y_ ME M2 M1 MC ML (Br p++AO x++[I d.x,I d.y,I d.z,I from_,I to])=some (Bq (Ej p x d from_ to)):=by
 have he:=Zb3 ME M2 M1 MC ML p.start.x p.start.y p.start.z (p.aF.map Ay) (p.aD.map Aq) x.a.step x.a.speed x.a.accel x.a.jerk x.a.low x.a.high x.a.back x.a.origin x.a.spacing (x.a.pitch.map Ap) x.b.step x.b.speed x.b.accel x.b.jerk x.b.low x.b.high x.b.back x.b.origin x.b.spacing (x.b.pitch.map Ap) x.c.step x.c.speed x.c.accel x.c.jerk x.c.low x.c.high x.c.back x.c.origin x.c.spacing (x.c.pitch.map Ap) d.x d.y d.z from_ to;refine Eq.trans he ?_;unfold Ej;simp only[Br]at hL;simp only[hL,hC,go_sem,Jj,NA];generalize Bz from_ (AA p.aF)=f at*;generalize Bz to (AA p.aF)=t at*;by_cases c:t<f
 ·have h:=hE (lo:=min f t) (hi:=max f t) (mv:= -1) (f:=f) (.inr rfl);simp only[FT]at h;simp only[h,go_sem,c,if_true]
 ·have h:=hE (lo:=min f t) (hi:=max f t) (mv:=1) (f:=f) (.inl rfl);simp only[FT]at h;simp only[h,go_sem,c,if_false]
theorem Zcw {p:Pth} {x:Ax3} {d:Pt} {from_ to:Int} (hp:GoodPath p) (hx:Ax3OK x):PC (Br p++AO x++[I d.x,I d.y,I d.z,I from_,I to])=some (Bq (Ej p x d from_ to)):=
 Zt3 (Q65 hp.ok) (fun _ _=>Wv) fun hv=>Zzg hv hp hx
theorem Zjv {p:Pth} {x:Ax3} (d:Pt) (a b:Int) (hp:GoodPath p) (hx:Ax3OK x):(Ej p x d a b).aE.length<=10000000/\0<=(Ej p x d a b).length/\(Ej p x d a b).length<=900000000000000:=by
 have hc:=hp.count;have h:=Qcp (mv:=if Bz a (AA p.aF)>Bz b (AA p.aF)then-1 else 1) (lo:=min (Bz a (AA p.aF)) (Bz b (AA p.aF))) (hi:=max (Bz a (AA p.aF)) (Bz b (AA p.aF))) (f:=Bz a (AA p.aF)) (d:=d) hx hp.ok p.aF.length (Nat.le_refl _);obtain⟨h1,h2,-⟩:=h;unfold Ej;simp only;refine⟨by omega,by omega,by omega⟩
end Go.Bm
namespace Go.Bm
open Classical
theorem Qkm {x:Ax3} {mv:Int} {Q:Int->Pt->Prop}:∀{a s:Int} {d:Pt} {l:List Pce},D5 x mv Q a s d l->a<=CK a l
 |a,_,_,[],_=>Int.le_refl _
 |a,s,d,c::l,h=>by
  obtain⟨-,-,h3,-,h5⟩:=h;have:=Qkm h5;unfold CK;omega
theorem Qv {x:Ax3} {mv:Int} {Q:Int->Pt->Prop} (hv:mv=1\/mv= -1):∀{a s:Int} {d:Pt} {l:List Pce},D5 x mv Q a s d l->∀i,i<l.length->
  a<=(pcA l i).at_/\1<=(pcA l i).units/\eI l i<=CK a l/\(s-((pcA l i).at_-a)<=(pcA l i).s/\(pcA l i).s<=s+((pcA l i).at_-a))/\((pcA l i).move=0\/(pcA l i).move=mv)
 |a,s,d,c::l,h,0,_=>by
  obtain⟨h1,h2,h3,h4,h5⟩:=h;have:=Qkm h5;unfold eI;rw[J3];refine⟨by omega,h3,by unfold CK;omega,by omega,?_⟩;rcases h4 with h4|h4
  ·exact .inr h4.1
  ·exact .inl h4.1
 |a,s,d,c::l,h,i+1,hi=>by
  obtain⟨h1,h2,h3,h4,h5⟩:=h;have ih:=Qv hv h5 i (by simpa using hi);unfold eI at ih⊢;rw[Hh];obtain⟨g1,g2,g3,g4,g5⟩:=ih;have hm:c.move*c.units=0\/c.move*c.units=c.units\/c.move*c.units= -c.units:=by
   rcases h4 with h4|h4
   ·rw[h4.1];rcases hv with rfl|rfl<;>omega
   ·rw[h4.1];omega
  refine⟨by omega,g2,by unfold CK;exact g3,by omega,g5⟩
theorem Qp2 {x:Ax3} {mv:Int} {Q:Int->Pt->Prop} (hv:mv=1\/mv= -1):∀{a s:Int} {d:Pt} {l:List Pce},D5 x mv Q a s d l->∀i j,i<=j->j<l.length->eI l i<=eI l j
 |a,s,d,c::l,h,0,0,_,_=>Int.le_refl _
 |a,s,d,c::l,h,0,j+1,_,hj=>by
  obtain⟨h1,h2,h3,h4,h5⟩:=h;have:=Qv hv h5 j (by simpa using hj);unfold eI at*;rw[J3,Hh];omega
 |a,s,d,c::l,h,i+1,0,hij,_=>by omega
 |a,s,d,c::l,h,i+1,j+1,hij,hj=>by
  obtain⟨h1,h2,h3,h4,h5⟩:=h;have:=Qp2 hv h5 i j (by omega) (by simpa using hj);unfold eI at*;rw[Hh,Hh];exact this
theorem Qp5 {x:Ax3} {mv:Int} {Q:Int->Pt->Prop}:∀{a s:Int} {d:Pt} {l:List Pce},D5 x mv Q a s d l->l≠[]->eI l (l.length-1)=CK a l
 |a,s,d,[c],h,_=>by
  obtain⟨h1,-⟩:=h;show eI [c] 0=CK a [c];unfold eI;rw[J3];simp only[CK];omega
 |a,s,d,c::e::l,h,_=>by
  obtain⟨-,-,-,-,h5⟩:=h;have:=Qp5 h5 (by simp);have e1:(c::e::l).length-1=((e::l).length-1)+1:=by simp
  rw[e1];unfold eI at*;rw[Hh,this];rfl
def mvP (p:Pth) (a b:Int):Int:=if Bz a (AA p.aF)>Bz b (AA p.aF)then-1 else 1
theorem Zw2 (p:Pth) (a b:Int):mvP p a b=1\/mvP p a b= -1:=by unfold mvP;split<;>simp
theorem Qao {p:Pth} {x:Ax3} {d:Pt} {a b:Int} {Q:Int->Pt->Prop} (hx:Ax3OK x) (hp:GoodPath p) (hQ:Qzq p (mvP p a b) Q):
  ∃d',TC x (mvP p a b) Q (Ej p x d a b) (Bz b (AA p.aF)) d'/\(Ej p x d a b).start=Bz a (AA p.aF)/\(Ej p x d a b).dirs=d:=by
 have hn:=U_ hp;have ha:0<=Bz a (AA p.aF)/\Bz a (AA p.aF)<=AA p.aF:=by unfold Bz;omega
 have hb:0<=Bz b (AA p.aF)/\Bz b (AA p.aF)<=AA p.aF:=by unfold Bz;omega
 have hk:=fun mv lo hi f=>Zjt (p:=p) (x:=x) (mv:=mv) (lo:=lo) (hi:=hi) (f:=f) (d:=d) p.aF.length;unfold Ej mvP at*;simp only;generalize Bz a (AA p.aF)=f at*;generalize Bz b (AA p.aF)=t at*;have h:=Qu8 (p:=p) (x:=x) (mv:=if f>t then-1 else 1) (lo:=min f t) (hi:=max f t) (f:=f) (d:=d) (Q:=Q) (by split<;>simp) hx hp.ok (by omega) (by split<;>omega) hQ p.aF.length (Nat.le_refl _);have hs:Jh p.aF (if f>t then-1 else 1) (min f t) (max f t) p.aF.length=t:=by
  unfold Jh;rw[Nat.sub_self,Ru,Qr3];by_cases c:f>t
  ·rw[if_pos c,if_pos (by omega)];omega
  ·rw[if_neg c,if_neg (by omega)];omega
 rw[hs]at h;exact⟨_,h,(hk _ _ _ _).1,(hk _ _ _ _).2⟩
theorem Zvc {x:Ax3} {mv:Int} {Q:Int->Pt->Prop} {t:Trk} {s:Int} {d:Pt} (hv:mv=1\/mv= -1) (h:TC x mv Q t s d) (hb:t.aE.length<=10000000/\0<=t.length/\t.length<=900000000000000) (hs:0<=t.start/\t.start<=263886834032640):TQ t:=by
 obtain⟨h1,h2,-,-⟩:=h;refine⟨hb.1,hb.2,fun i hi=> ?_,Qp2 hv h1,fun hne=>by rw[Qp5 h1 hne,h2],hs,fun i hi=> ?_,fun i hi=> ?_⟩
 ·have:=Qv hv h1 i hi;rw[h2]at this;exact⟨this.1,this.2.1,this.2.2.1⟩
 ·have:=Qv hv h1 i hi;rw[h2]at this;unfold eI at this;omega
 ·have:=(Qv hv h1 i hi).2.2.2.2;rcases hv with rfl|rfl
  ·rcases this with h|h
   ·exact .inl h
   ·exact .inr (.inl h)
  ·rcases this with h|h
   ·exact .inl h
   ·exact .inr (.inr h)
theorem Qvs {p:Pth} {x:Ax3} (d:Pt) (a b:Int) (hx:Ax3OK x) (hp:GoodPath p):TQ (Ej p x d a b):=by
 have hn:=U_ hp;obtain⟨d',h1,h2,-⟩:=Qao (d:=d) (a:=a) (b:=b) (Q:=fun _ _=>True) hx hp (fun _ _ _ _ _ _ _ _=>trivial);exact Zvc (Zw2 p a b) h1 (Zjv d a b hp hx) (by rw[h2];unfold Bz;omega)
end Go.Bm
namespace Go.Bm
open Classical
def B9 (a:Axs) (i:Nat):Int:=a.pitch.getD i 0
def Js (a:Axs) (p:Int):Int:=
 if a.pitch=[]then 0
 else if p<=a.origin then B9 a 0
 else if(p-a.origin)/a.spacing>=a.pitch.length-1 then B9 a (a.pitch.length-1)
 else B9 a ((p-a.origin)/a.spacing).toNat+Bh ((B9 a (((p-a.origin)/a.spacing).toNat+1)-B9 a ((p-a.origin)/a.spacing).toNat)*(p-a.origin-(p-a.origin)/a.spacing*a.spacing)) a.spacing
def Ih (a:Axs) (p:Int):Int:=Bh (p+Js a p) a.step
def okB (p:Int):Prop:= -1000000000<=p/\p<=1000000000
theorem Qpr {l:List Int} (h:l≠[]):0<l.length:=by
 cases l with
 |nil=>exact absurd rfl h
 |cons _ _=>simp
theorem O9 {a:Axs} (h:AxOK a) {i:Nat} (hi:i<a.pitch.length): -4096<=B9 a i/\B9 a i<=4096:=by
 have e:B9 a i=a.pitch[i]:=by unfold B9;simp[hi]
 rw[e];exact h.pitch.1 _ (List.getElem_mem _)
theorem Ry {a:Axs} {i:Nat} (hi:i<a.pitch.length):nth [] (a.pitch.map Ap) i=[I (B9 a i)]:=by
 have e:B9 a i=a.pitch[i]:=by unfold B9;simp[hi]
 rw[e];exact I_ _ _ _ _ hi
theorem Qrd {a:Axs} (h:AxOK a) (hne:a.pitch≠[]) {p:Int} (h1: ¬p<=a.origin) (h2: ¬(p-a.origin)/a.spacing>=a.pitch.length-1):
  ∃(i:Nat) (r:Int),((p-a.origin)/a.spacing=i)/\i+1<a.pitch.length/\0<=r/\r<a.spacing/\p-a.origin=i*a.spacing+r/\p-a.origin-(p-a.origin)/a.spacing*a.spacing=r:=by
 have hs:=h.spacing hne;have e0:=Int.mul_ediv_add_emod (p-a.origin) a.spacing;have e1:=Int.emod_nonneg (p-a.origin) (show a.spacing≠0 by omega);have e2:=Int.emod_lt_of_pos (p-a.origin) (show 0<a.spacing by omega);have e3:0<=(p-a.origin)/a.spacing:=Int.ediv_nonneg (by omega) (by omega);refine⟨((p-a.origin)/a.spacing).toNat,(p-a.origin)%a.spacing,by omega,by omega,e1,e2,?_,?_⟩
 ·rw[Int.toNat_of_nonneg e3,Int.mul_comm];omega
 ·rw[Int.mul_comm ((p-a.origin)/a.spacing)];omega
theorem Qwe {a:Axs} (h:AxOK a) (hne:a.pitch≠[]) {i:Nat} (hi:i+1<a.pitch.length) {r:Int} (hr:0<=r/\r<=a.spacing):
  (-30<=B9 a (i+1)-B9 a i/\B9 a (i+1)-B9 a i<=30)/\(Bh ((B9 a (i+1)-B9 a i)*r) a.spacing).natAbs<=31:=by
 have hs:=h.spacing hne;have hp:=h.pitch.2 i hi;have hd: -30<=B9 a (i+1)-B9 a i/\B9 a (i+1)-B9 a i<=30:=by unfold B9;omega
 refine⟨hd,UK (by omega) ?_⟩;have m1:(B9 a (i+1)-B9 a i)*r<=31*r:=Int.mul_le_mul_of_nonneg_right (by omega) hr.1;have m2: -31*r<=(B9 a (i+1)-B9 a i)*r:=Int.mul_le_mul_of_nonneg_right (by omega) hr.1;have e:((31:Nat):Int)=31:=rfl;rw[e];omega
theorem Qx6 {a:Axs} (h:AxOK a) (p:Int): -5000<=Js a p/\Js a p<=5000:=by
 unfold Js;by_cases c:a.pitch=[]
 ·rw[if_pos c];omega
 ·have hl:=Qpr c;rw[if_neg c];by_cases c1:p<=a.origin
  ·rw[if_pos c1];have:=O9 h (show 0<a.pitch.length from hl);omega
  ·rw[if_neg c1];by_cases c2:(p-a.origin)/a.spacing>=a.pitch.length-1
   ·rw[if_pos c2];have:=O9 h (show a.pitch.length-1<a.pitch.length by omega);omega
   ·rw[if_neg c2];obtain⟨i,r,e1,e2,e3,e4,e5,e6⟩:=Qrd h c c1 c2;rw[e6,e1,Int.toNat_natCast];have b1:=O9 h (show i<a.pitch.length by omega);have b2:=(Qwe h c e2 (r:=r) (by omega)).2;omega
theorem Zro {a:Axs} (h:AxOK a) {v:Int} (hv:v.natAbs<=1000010000):Jy (Bk a++[I v])=some [I (Bh v a.step)]:=by
 have hs:=h.step;have he:=Zpy a.step a.speed a.accel a.jerk a.low a.high a.back a.origin a.spacing (a.pitch.map Ap) v;unfold Jy;refine Eq.trans he ?_;rw[Ae (x:=2*v) (by omega),Ae (x:=2*v+a.step) (by omega),Ae (x:=2*a.step) (by omega)];have hm:=Int.tmod_add_mul_tdiv (2*v+a.step) (2*a.step);have h1:=Int.tmod_lt_of_pos (2*v+a.step) (show 0<2*a.step by omega);have h2:=Int.lt_tmod_of_pos (2*v+a.step) (show 0<2*a.step by omega);have hq:((2*v+a.step).tdiv (2*a.step)).natAbs<=(2*v+a.step).natAbs:=by rw[Int.natAbs_tdiv];exact Nat.div_le_self _ _
 generalize(2*v+a.step).tdiv (2*a.step)=q at*;generalize(2*v+a.step).tmod (2*a.step)=r at*;have e1:2*a.step*q=q*(2*a.step):=Int.mul_comm _ _;rw[AZ (by omega),AZ (by omega),AZ (by omega),AZ (by omega),Ae (x:=q) (by omega)];by_cases h:r<0
 ·rw[Dx h,Ae (by omega),K2 (k:=q-1) (by omega)]
  ·rw[Int.sub_mul];omega
  ·rw[Int.sub_add_cancel];omega
 ·rw[AZ h,K2 (k:=q) (by omega)]
  ·omega
  ·rw[Int.add_mul];omega
theorem Zjw {a:Axs} (h:AxOK a) {p:Int} (hp:okB p):JK (Bk a++[I p])=some [I (Js a p)]:=by
 unfold okB at hp;have ho:=h.origin;have hc:=h.count;have he:=Zfu Bs a.step a.speed a.accel a.jerk a.low a.high a.back a.origin a.spacing (a.pitch.map Ap) p;unfold JK;have hF:=fun{x y:Int} (hx:x.natAbs<=30) (hy:y.natAbs<=123) (hs:4<=a.spacing/\a.spacing<=123)=>Q38 (a:=x) (b:=y) (c:=a.spacing) (by omega) (by omega) (by omega);generalize Bs=M at*;refine Eq.trans he ?_;unfold Js;rw[List.length_map];by_cases c:a.pitch=[]
 ·rw[if_pos c,c];rfl
 ·have hl:=Qpr c;have hs:=h.spacing c;have e1:wrap .i64 ((a.pitch.length:Int)-1)=((a.pitch.length-1:Nat):Int):=by rw[Ae (by omega)];omega
  have e2:wrap .i64 (p-a.origin)=p-a.origin:=Ae (by omega);rw[if_neg c,e2,e1];by_cases c1:p<=a.origin
  ·rw[if_pos c1];simp only[go_sem,Ry hl];rw[if_neg (by omega),if_pos (by omega),if_pos (by omega)]
  ·have e3:wrap .i64 ((p-a.origin).tdiv a.spacing)=(p-a.origin)/a.spacing:=by
    rw[Int.tdiv_eq_ediv_of_nonneg (by omega)];have:=Int.ediv_nonneg (show 0<=p-a.origin by omega) (show 0<=a.spacing by omega);have:=Int.ediv_le_self a.spacing (show 0<=p-a.origin by omega);exact Ae (by omega)
   rw[if_neg c1,e3];by_cases c2:(p-a.origin)/a.spacing>=(a.pitch.length:Int)-1
   ·rw[if_pos c2];simp only[go_sem,Int.toNat_natCast,Ry (show a.pitch.length-1<a.pitch.length by omega)];rw[if_neg (by omega),if_neg (by omega),if_neg (by omega),if_neg (by omega),if_pos (by omega),if_pos (by omega)]
   ·rw[if_neg c2];obtain⟨i,r,g1,g2,g3,g4,g5,g6⟩:=Qrd h c c1 c2;obtain⟨n1,n2⟩:=Qwe h c g2 (r:=r) (by omega);have b1:=O9 h (show i<a.pitch.length by omega);rw[g6,g1]at*;rw[Int.toNat_natCast];have w1:wrap .i64 ((i:Int)+1)=((i+1:Nat):Int):=by rw[Ae (by omega)];omega
    have hmul:(i:Int)*a.spacing=p-a.origin-r:=by omega
    have w2:wrap .i64 (p-a.origin-wrap .i64 ((i:Int)*a.spacing))=r:=by rw[hmul,Ae (x:=p-a.origin-r) (by omega),Ae (by omega)];omega
    have hin1:(0:Int)<=(i:Int)/\(i:Int)<(a.pitch.length:Int):=by omega
    have hin2:(0:Int)<=((i+1:Nat):Int)/\((i+1:Nat):Int)<(a.pitch.length:Int):=by omega
    simp only[go_sem,w1,w2,Int.toNat_natCast,Ry (show i<a.pitch.length by omega),Ry g2,if_pos hin1,if_pos hin2];have b2:=O9 h g2;generalize B9 a (i+1)=y at*;generalize B9 a i=z at*;rw[if_neg (by omega),if_neg (by omega),if_neg (by omega),if_neg (by omega),if_neg (by omega),Ae (x:=y-z) (by omega),hF (by omega) (by omega) hs];simp only[go_sem];rw[Ae (by omega)]
theorem Zom {a:Axs} (h:AxOK a) {p:Int} (hp:okB p):Ms (Bk a++[I p])=some [I (Ih a p)]:=by
 have hb:=Qx6 h p;have h1:=Zjw h hp;unfold okB at hp;have h2:=Zro h (v:=p+Js a p) (by omega);have he:=Zp8 Jy JK a.step a.speed a.accel a.jerk a.low a.high a.back a.origin a.spacing (a.pitch.map Ap) p;unfold Ms;generalize Jy=M1 at*;generalize JK=M2 at*;refine Eq.trans he ?_;simp only[Bk,List.cons_append,List.nil_append]at h1 h2;simp only[h1,go_sem,Ae (x:=p+Js a p) (by omega),h2];rfl
end Go.Bm
namespace Go.Bm
open Classical
def HH (a:Axs) (d:Int):Int:=if d= -1 then-a.back else 0
def FL (a:Axs) (move at_ was dirs u:Int):Int:=if move≠0\/was=dirs then HH a dirs else if dirs= -1 then-min (u-at_) a.back else min (u-at_) a.back-a.back
theorem S8 {a:Axs} (hb:0<=a.back/\a.back<=1000) (v:Int):Iu (Bk a++[I v])=some [I (HH a v)]:=by
 have he:=Zj0 a.step a.speed a.accel a.jerk a.low a.high a.back a.origin a.spacing (a.pitch.map Ap) v;unfold Iu;refine Eq.trans he ?_;unfold HH;by_cases c:v= -1
 ·rw[BO (by simp[c]),if_pos c,Ae (by omega)];congr 3;omega
 ·rw[Bn (by simp[c]),if_neg c]
theorem Z0z {M:Fn} {a:Axs} {c:Pce} {u:Int} (hM:∀v:Int,M (Bk a++[I v])=some [I (HH a v)]) (hb:0<=a.back/\a.back<=1000) (hu:0<=u-c.at_/\u-c.at_<=2000000000000000):
  Pc M (Bk a++AI c++[I 0,I u])=some [I (FL a c.move c.at_ c.was.x c.dirs.x u)]:=by
 have he:=Qdu M a.step a.speed a.accel a.jerk a.low a.high a.back a.origin a.spacing (a.pitch.map Ap) c.at_ c.units c.s c.move c.was.x c.was.y c.was.z c.dirs.x c.dirs.y c.dirs.z 0 u;refine Eq.trans he ?_;have hm0:=hM c.dirs.x;simp only[Bk,List.cons_append,List.nil_append]at hm0;have e1:wrap .i64 (0+1)=1:=rfl;have e2:wrap .i64 (1+1)=2:=rfl;have w1:wrap .i64 (u-c.at_)=u-c.at_:=Ae (by omega);have w2:wrap .i64 (0-min (u-c.at_) a.back)= -min (u-c.at_) a.back:=by rw[Ae (by omega)];omega
 have w3:wrap .i64 (min (u-c.at_) a.back-a.back)=min (u-c.at_) a.back-a.back:=Ae (by omega);unfold FL;simp only[go_sem,e1,e2,Jj,w1,w2,w3,Nat.reduceAdd,Int.cast_ofNat_Int,Int.natCast_zero,Int.natCast_one,Int.reduceEq,hm0];by_cases c1:c.move=0
 ·by_cases c2:c.was.x=c.dirs.x
  ·simp[c1,c2]
  ·by_cases c3:c.dirs.x= -1
   ·simp[c1,c3,show c.was.x≠-1 from fun e=>c2 (by rw[e,c3])]
   ·simp[c1,c2,c3]
 ·simp[c1]
theorem Zcn {M:Fn} {a:Axs} {c:Pce} {u:Int} (hM:∀v:Int,M (Bk a++[I v])=some [I (HH a v)]) (hb:0<=a.back/\a.back<=1000) (hu:0<=u-c.at_/\u-c.at_<=2000000000000000):
  Pc M (Bk a++AI c++[I (wrap .i64 (0+1)),I u])=some [I (FL a c.move c.at_ c.was.y c.dirs.y u)]:=by
 have he:=Qdu M a.step a.speed a.accel a.jerk a.low a.high a.back a.origin a.spacing (a.pitch.map Ap) c.at_ c.units c.s c.move c.was.x c.was.y c.was.z c.dirs.x c.dirs.y c.dirs.z (wrap .i64 (0+1)) u;refine Eq.trans he ?_;have hm0:=hM c.dirs.y;simp only[Bk,List.cons_append,List.nil_append]at hm0;have e1:wrap .i64 (0+1)=1:=rfl;have e2:wrap .i64 (1+1)=2:=rfl;have w1:wrap .i64 (u-c.at_)=u-c.at_:=Ae (by omega);have w2:wrap .i64 (0-min (u-c.at_) a.back)= -min (u-c.at_) a.back:=by rw[Ae (by omega)];omega
 have w3:wrap .i64 (min (u-c.at_) a.back-a.back)=min (u-c.at_) a.back-a.back:=Ae (by omega);unfold FL;simp only[go_sem,e1,e2,Jj,w1,w2,w3,Nat.reduceAdd,Int.cast_ofNat_Int,Int.natCast_zero,Int.natCast_one,Int.reduceEq,hm0];by_cases c1:c.move=0
 ·by_cases c2:c.was.y=c.dirs.y
  ·simp[c1,c2]
  ·by_cases c3:c.dirs.y= -1
   ·simp[c1,c3,show c.was.y≠-1 from fun e=>c2 (by rw[e,c3])]
   ·simp[c1,c2,c3]
 ·simp[c1]
theorem Zw3 {M:Fn} {a:Axs} {c:Pce} {u:Int} (hM:∀v:Int,M (Bk a++[I v])=some [I (HH a v)]) (hb:0<=a.back/\a.back<=1000) (hu:0<=u-c.at_/\u-c.at_<=2000000000000000):
  Pc M (Bk a++AI c++[I (wrap .i64 (wrap .i64 (0+1)+1)),I u])=some [I (FL a c.move c.at_ c.was.z c.dirs.z u)]:=by
 have he:=Qdu M a.step a.speed a.accel a.jerk a.low a.high a.back a.origin a.spacing (a.pitch.map Ap) c.at_ c.units c.s c.move c.was.x c.was.y c.was.z c.dirs.x c.dirs.y c.dirs.z (wrap .i64 (wrap .i64 (0+1)+1)) u;refine Eq.trans he ?_;have hm0:=hM c.dirs.z;simp only[Bk,List.cons_append,List.nil_append]at hm0;have e1:wrap .i64 (0+1)=1:=rfl;have e2:wrap .i64 (1+1)=2:=rfl;have w1:wrap .i64 (u-c.at_)=u-c.at_:=Ae (by omega);have w2:wrap .i64 (0-min (u-c.at_) a.back)= -min (u-c.at_) a.back:=by rw[Ae (by omega)];omega
 have w3:wrap .i64 (min (u-c.at_) a.back-a.back)=min (u-c.at_) a.back-a.back:=Ae (by omega);unfold FL;simp only[go_sem,e1,e2,Jj,w1,w2,w3,Nat.reduceAdd,Int.cast_ofNat_Int,Int.natCast_zero,Int.natCast_one,Int.reduceEq,hm0];by_cases c1:c.move=0
 ·by_cases c2:c.was.z=c.dirs.z
  ·simp[c1,c2]
  ·by_cases c3:c.dirs.z= -1
   ·simp[c1,c3,show c.was.z≠-1 from fun e=>c2 (by rw[e,c3])]
   ·simp[c1,c2,c3]
 ·simp[c1]
theorem Zrk {a:Axs} (hb:0<=a.back/\a.back<=1000) {move at_ was dirs u:Int} (hu:0<=u-at_): -1000<=FL a move at_ was dirs u/\FL a move at_ was dirs u<=1000:=by
 unfold FL HH
 (repeat' split)<;>omega
theorem Zm6 {a:Pt} {g:Sgm} {d:Int} (ha:bd B26 a) (hg:1<=g.len/\g.len<=268435456/\bd B26 g.to) (hd:0<=d/\d<=g.len):bd 201326592 (Od a g d):=by
 have key:∀u v:Int,u.natAbs<=B26->v.natAbs<=B26->(v+Bh ((u-v)*d) g.len).natAbs<=201326592:=by
  intro u v hu hv;have h1:=H8 hu hv;have h2:=Q33 (D:=u-v) (L:=g.len) (d:=d) (by omega) (Nat.le_trans h1 (by decide)) hd;have h3:v.natAbs<=67108864:=hv;omega
 exact⟨key _ _ hg.2.2.1 ha.1,key _ _ hg.2.2.2.1 ha.2.1,key _ _ hg.2.2.2.2 ha.2.2⟩
theorem Zgh {p:Pth} (h:GoodPath p) (s:Int):bd 201326592 (atP p s):=by
 unfold atP;by_cases c:p.aF=[]
 ·rw[c];exact AW h.start (by decide)
 ·have hok:=h.ok;obtain⟨f1,f2,f3,f4⟩:=W_ (l:=p.aF) (a:=p.start) (s:=max s 0) c (fun g hg=>(hok.seg g hg).1) (by omega);rw[f4];exact Zm6 (Qyp h.start hok f1) (hok.seg _ (Hc f1)) ⟨f2,f3⟩
theorem YK {a:Axs} (h:AxOK a) {p:Int} (hp:okB p):(Ih a p).natAbs<=2000000000:=by
 have hb:=Qx6 h p;have hs:=h.step;unfold okB at hp;unfold Ih;refine UK (by omega) ?_;have e:((2000000000:Nat):Int)=2000000000:=rfl;rw[e];omega
def shT (a:Axs) (t:Trk) (u:Int) (f:Pt->Int):Int:=if t.aE=[]then HH a (f t.dirs)else FL a (pcA t.aE (iT t u)).move (pcA t.aE (iT t u)).at_ (f (pcA t.aE (iT t u)).was) (f (pcA t.aE (iT t u)).dirs) (clT t u)
def QH (p:Pth) (x:Ax3) (s:Int):Pt:=⟨Ih x.a (atP p s).x,Ih x.b (atP p s).y,Ih x.c (atP p s).z⟩
def Jl (p:Pth) (x:Ax3) (t:Trk) (u:Int):Pt:=
 ⟨(QH p x (AT t u)).x+shT x.a t u Pt.x,(QH p x (AT t u)).y+shT x.b t u Pt.y,(QH p x (AT t u)).z+shT x.c t u Pt.z⟩
theorem Qxk {t:Trk} (h:TQ t) (hch:∀i,i+1<t.aE.length->(pcA t.aE (i+1)).at_=eI t.aE i) (h0:t.aE≠[]->(pcA t.aE 0).at_=0) (u:Int) (hne:t.aE≠[]):(pcA t.aE (iT t u)).at_<=clT t u/\(0<iT t u->(pcA t.aE (iT t u)).at_<clT t u):=by
 have hi:=Lv h u hne;have hc:=N_ h u;by_cases c:iT t u=0
 ·rw[c,h0 hne];exact⟨hc.1,fun g=>absurd g (by omega)⟩
 ·obtain⟨j,hj⟩:∃j,iT t u=j+1:=⟨iT t u-1,by omega⟩;rw[hj]at hi⊢;rw[hch j hi];have: ¬clT t u<=eI t.aE j:=by
   intro g;have:=Q7 (show j<t.aE.length by omega) g;unfold iT at hj;omega
  exact⟨by omega,fun _=>by omega⟩
theorem Q82 {t:Trk} (h:TQ t) (u:Int):clT t (clT t u)=clT t u:=by have:=h.len;unfold clT Bz;omega
theorem Zv1 {t:Trk} (h:TQ t) (u:Int):AT t (clT t u)=AT t u:=by unfold AT iT;rw[Q82 h]
theorem Q6z {t:Trk} (h:TQ t) (u:Int): -3000000000000000<=AT t u/\AT t u<=3000000000000000:=by
 unfold AT;by_cases c:t.aE=[]
 ·rw[if_pos c];have:=h.start;omega
 ·have hi:=Lv h u c;have h1:=h.pos _ hi;have h2:=h.s _ hi;have h3:=h.move _ hi;have h4:=N_ h u;have h5:=h.len;rw[if_neg c];unfold eI at h1;rcases h3 with h3|h3|h3<;>rw[h3]<;>omega
theorem Z0j {p:Pth} (h:GoodPath p) (s:Int):okB (atP p s).x/\okB (atP p s).y/\okB (atP p s).z:=by
 obtain⟨h1,h2,h3⟩:=Zgh h s;unfold okB;omega
structure TH (t : Trk) : Prop where
 q:TQ t
 at0:t.aE≠[]->(pcA t.aE 0).at_=0
 at1:∀i,i+1<t.aE.length->(pcA t.aE (i+1)).at_=eI t.aE i
theorem Qfy {a:Axs} (hb:0<=a.back/\a.back<=1000) {t:Trk} (h:TH t) (u:Int) (f:Pt->Int): -1000<=shT a t u f/\shT a t u f<=1000:=by
 unfold shT;by_cases c:t.aE=[]
 ·rw[if_pos c];unfold HH;split<;>omega
 ·rw[if_neg c];exact Zrk hb (by have:=(Qxk h.q h.at1 h.at0 u c).1;omega)
theorem Zpu {MS MD MM MF MA ML MC:Fn} {p:Pth} {x:Ax3} {t:Trk} {u:Int} (hp:GoodPath p) (hx:Ax3M x) (ht:TH t) (hC:MC [I u,I t.length]=some [I (clT t u)]) (hL:ML (Bq t++[I (clT t u)])=some [I (AT t u)]) (hA:MA (Br p++[I (AT t u)])=some (ptR (atP p (AT t u))))
  (hF:MF (Bq t++[I (clT t u)])=some [I (if t.aE=[]then-1 else(iT t u:Int))]) (hM:∀{a:Axs} {q:Int},AxOK a->okB q->MM (Bk a++[I q])=some [I (Ih a q)]) (hD:∀{a:Axs} (v:Int),(0<=a.back/\a.back<=1000)->MD (Bk a++[I v])=some [I (HH a v)])
  (h0:∀{a:Axs} {c:Pce} {u:Int},(0<=a.back/\a.back<=1000)->(0<=u-c.at_/\u-c.at_<=2000000000000000)->MS (Bk a++AI c++[I 0,I u])=some [I (FL a c.move c.at_ c.was.x c.dirs.x u)])
  (h1:∀{a:Axs} {c:Pce} {u:Int},(0<=a.back/\a.back<=1000)->(0<=u-c.at_/\u-c.at_<=2000000000000000)->MS (Bk a++AI c++[I (wrap .i64 (0+1)),I u])=some [I (FL a c.move c.at_ c.was.y c.dirs.y u)])
  (h2:∀{a:Axs} {c:Pce} {u:Int},(0<=a.back/\a.back<=1000)->(0<=u-c.at_/\u-c.at_<=2000000000000000)->MS (Bk a++AI c++[I (wrap .i64 (wrap .i64 (0+1)+1)),I u])=some [I (FL a c.move c.at_ c.was.z c.dirs.z u)]):
  Qn7 MS MD MM MF MA ML MC (Br p++AO x++Bq t++[I u])=some (ptR (Jl p x t u)):=by
 have he:=Zs7 MS MD MM MF MA ML MC u p x t;refine Eq.trans he ?_;obtain⟨o1,o2,o3⟩:=Z0j hp (AT t u);have m1:=hM hx.a o1;have m2:=hM hx.b o2;have m3:=hM hx.c o3;have b1:=YK hx.a o1;have b2:=YK hx.b o2;have b3:=YK hx.c o3;have s1:=Qfy hx.ok.a ht u Pt.x;have s2:=Qfy hx.ok.b ht u Pt.y;have s3:=Qfy hx.ok.c ht u Pt.z;unfold Jl QH;generalize Ih x.a (atP p (AT t u)).x=q1 at*;generalize Ih x.b (atP p (AT t u)).y=q2 at*;generalize Ih x.c (atP p (AT t u)).z=q3 at*;have w1:wrap .i64 (q1+shT x.a t u Pt.x)=q1+shT x.a t u Pt.x:=Ae (by omega);have w2:wrap .i64 (q2+shT x.b t u Pt.y)=q2+shT x.b t u Pt.y:=Ae (by omega);have w3:wrap .i64 (q3+shT x.c t u Pt.z)=q3+shT x.c t u Pt.z:=Ae (by omega);by_cases c:t.aE=[]
 ·have d1:=hD t.dirs.x hx.ok.a;have d2:=hD t.dirs.y hx.ok.b;have d3:=hD t.dirs.z hx.ok.c;unfold shT at*;rw[if_pos c]at hF;simp only[if_pos c]at w1 w2 w3⊢;simp only[Br,Bq,Bk,List.cons_append,List.nil_append]at hL hA hF d1 d2 d3 m1 m2 m3;simp only[hC,hL,hA,hF,go_sem,m1,m2,m3,d1,d2,d3,w1,w2,w3];rw[if_pos (by omega),if_pos (by omega),if_pos (by omega)]
 ·have hi:=Lv ht.q u c;have hcnt:=ht.q.count;have hat:=(Qxk ht.q ht.at1 ht.at0 u c).1;have hcl:=N_ ht.q u;have hlen:=ht.q.len;have hpos:=ht.q.pos _ hi;have hin:(0:Int)<=(iT t u:Int)/\(iT t u:Int)<(t.aE.length:Int):=by omega
  have hneg: ¬((iT t u:Int)<0):=by omega
  have d1:=h0 (c:=pcA t.aE (iT t u)) (u:=clT t u) hx.ok.a (by omega);have d2:=h1 (c:=pcA t.aE (iT t u)) (u:=clT t u) hx.ok.b (by omega);have d3:=h2 (c:=pcA t.aE (iT t u)) (u:=clT t u) hx.ok.c (by omega);unfold shT at*;rw[if_neg c]at hF;simp only[if_neg c]at w1 w2 w3⊢;simp only[Br,Bq,Bk,AI,List.cons_append,List.nil_append]at hL hA hF d1 d2 d3 m1 m2 m3;simp only[hC,hL,hA,hF,go_sem,m1,m2,m3,List.length_map,if_pos hin,Int.toNat_natCast,QO hi,if_neg hneg,d1,d2,d3,w1,w2,w3]
theorem Q96 {p:Pth} {x:Ax3} {t:Trk} (hp:GoodPath p) (hx:Ax3M x) (ht:TH t) (u:Int):FD (Br p++AO x++Bq t++[I u])=some (ptR (Jl p x t u)):=by
 have hs:=Q6z ht.q u;have hpl:=QG ht.q (clT t u);rw[Zv1 ht.q]at hpl;exact Zpu hp hx ht Wv hpl (Zu1 hp (by unfold i64;omega)) (Qrk ht.q u) (fun h1 h2=>Zom h1 h2) (fun v hb=>S8 hb v) (fun hb hu=>Z0z (S8 hb) hb hu) (fun hb hu=>Zcn (S8 hb) hb hu) (fun hb hu=>Zw3 (S8 hb) hb hu)
end Go.Bm
namespace Go.Bm
open Classical
theorem Q4a {x:Ax3} {mv:Int} {Q:Int->Pt->Prop} {a s:Int} {d:Pt} {l:List Pce} (h:D5 x mv Q a s d l) (hne:l≠[]):(pcA l 0).at_=a:=by
 cases l with
 |nil=>exact absurd rfl hne
 |cons c l=>rw[J3];exact h.1
theorem Q6n {x:Ax3} {mv:Int} {Q:Int->Pt->Prop}:∀{a s:Int} {d:Pt} {l:List Pce},D5 x mv Q a s d l->∀i,i+1<l.length->(pcA l (i+1)).at_=eI l i
 |a,s,d,[],h,i,hi=>by simp at hi
 |a,s,d,c::l,h,0,hi=>by
  obtain⟨h1,h2,h3,h4,h5⟩:=h;unfold eI;rw[Hh,J3,Q4a h5 (fun e=>by rw[e]at hi;simp at hi),h1]
 |a,s,d,c::l,h,i+1,hi=>by
  obtain⟨h1,h2,h3,h4,h5⟩:=h;have:=Q6n h5 i (by simpa using hi);unfold eI at*;rw[Hh,Hh];exact this
theorem Zmi {p:Pth} {x:Ax3} (d:Pt) (a b:Int) (hx:Ax3OK x) (hp:GoodPath p):TH (Ej p x d a b):=by
 obtain⟨d',h1,h2,-⟩:=Qao (d:=d) (a:=a) (b:=b) (Q:=fun _ _=>True) hx hp (fun _ _ _ _ _ _ _ _=>trivial);exact⟨Qvs d a b hx hp,Q4a h1.ch,Q6n h1.ch⟩
end Go.Bm
namespace Go.Bm
open Classical
def wF (z:Int):List Pce->Int
 |[]=> -1
 |c::l=>if c.move≠0/\0<=(z-c.s)*c.move/\(z-c.s)*c.move<=c.units then c.at_+(z-c.s)*c.move else wF z l
def B1 (t:Trk) (z:Int):Int:=if z=t.start then 0 else wF z t.aE
def plL:List Pce->Int->Int
 |[],_=>0
 |c::l,u=>if u<=c.at_+c.units then c.s+c.move*(u-c.at_)else plL l u
theorem Qox:∀{l:List Pce} {u:Int},fI l u<l.length->plL l u=(pcA l (fI l u)).s+(pcA l (fI l u)).move*(u-(pcA l (fI l u)).at_)
 |[],_,h=>by simp at h
 |c::l,u,h=>by
  unfold fI at h⊢;unfold plL;by_cases c0:u<=c.at_+c.units
  ·rw[if_pos c0,if_pos c0,J3]
  ·rw[if_neg c0]at h⊢;rw[if_neg c0,Hh];exact Qox (by simpa using h)
theorem LE {t:Trk} (h:TQ t) (u:Int) (hne:t.aE≠[]):AT t u=plL t.aE (clT t u):=by
 have hi:=Lv h u hne;unfold AT;rw[if_neg hne];exact(Qox hi).symm
theorem U6 {x:Ax3} {mv:Int} {Q:Int->Pt->Prop} (hv:mv=1\/mv= -1):∀{a s:Int} {d:Pt} {l:List Pce},D5 x mv Q a s d l->0<=mv*(CZ s l-s)
 |a,s,d,[],_=>by simp[CZ]
 |a,s,d,c::l,h=>by
  obtain⟨h1,h2,h3,h4,h5⟩:=h;have ih:=U6 hv h5;unfold CZ;generalize CZ (s+c.move*c.units) l=E at*;have hm:c.move=mv\/c.move=0:=by rcases h4 with h4|h4<;>simp[h4.1]
  rcases hm with hm|hm<;>rw[hm]at ih<;>rcases hv with rfl|rfl<;>omega
theorem Q44 {x:Ax3} {mv:Int} {Q:Int->Pt->Prop} (hv:mv=1\/mv= -1) (z:Int):∀{a s:Int} {d:Pt} {l:List Pce},D5 x mv Q a s d l->
  (mv*(z-s)<0->wF z l= -1)/\(0<mv*(z-CZ s l)->wF z l= -1)/\
  (0<mv*(z-s)->mv*(z-CZ s l)<=0->a<wF z l/\wF z l<=CK a l/\plL l (wF z l)=z/\∀v,a<=v->v<wF z l->mv*(plL l v-z)<0)
 |a,s,d,[],_=>by
  simp only[CZ,wF];exact⟨fun _=>trivial,fun _=>trivial,fun h1 h2=>absurd h1 (by omega)⟩
 |a,s,d,c::l,h=>by
  obtain⟨h1,h2,h3,h4,h5⟩:=h;obtain⟨i1,i2,i3⟩:=Q44 hv z h5;have hend:=U6 hv h5;have hge:=Qkm h5;have hm:c.move=mv\/c.move=0:=by rcases h4 with h4|h4<;>simp[h4.1]
  simp only[CZ,CK];generalize CZ (s+c.move*c.units) l=E at*;generalize CK (a+c.units) l=A at*;have key : (0 < mv * (z - (s + c.move * c.units)) -> mv * (z - E) <= 0 -> wF z (c :: l) = wF z l -> (∀ v, a <= v -> v <= a + c.units -> mv * (s + c.move * (v - a) - z) < 0) ->
    a<wF z (c::l)/\wF z (c::l)<=A/\plL (c::l) (wF z (c::l))=z/\∀v,a<=v->v<wF z (c::l)->mv*(plL (c::l) v-z)<0):=by
   intro g1 g2 g3 g4;obtain⟨k1,k2,k3,k4⟩:=i3 g1 g2;rw[g3];refine⟨by omega,k2,?_,?_⟩
   ·unfold plL;rw[if_neg (by omega)];exact k3
   ·intro v w1 w2;unfold plL;by_cases w3:v<=c.at_+c.units
    ·rw[if_pos w3,h1,h2];exact g4 v w1 (by omega)
    ·rw[if_neg w3];exact k4 v (by omega) w2
  rcases hm with hm|hm
  ·
   have hmne:c.move≠0:=by rcases hv with rfl|rfl<;>omega
   rw[hm]at i1 i3 key;by_cases c0:0<=(z-s)*mv/\(z-s)*mv<=c.units
   ·have hw:wF z (c::l)=a+(z-s)*mv:=by unfold wF;rw[h2,hm,h1,if_pos ⟨by omega,c0.1,c0.2⟩]
    rw[hw];refine⟨fun g=> ?_,fun g=> ?_,fun g1 g2=>⟨?_,?_,?_,?_⟩⟩
    ·rcases hv with rfl|rfl<;>omega
    ·rw[hm]at hend;rcases hv with rfl|rfl<;>omega
    ·rcases hv with rfl|rfl<;>omega
    ·omega
    ·unfold plL;rw[if_pos (by omega),h1,h2,hm];rcases hv with rfl|rfl<;>omega
    ·intro v w1 w2;unfold plL;rw[if_pos (by omega),h1,h2,hm];rcases hv with rfl|rfl<;>omega
   ·have hw:wF z (c::l)=wF z l:=by
     show(if _ then _ else _)=_;rw[h2,hm,if_neg fun g=>c0 g.2]
    refine⟨fun g=> ?_,fun g=> ?_,fun g1 g2=> ?_⟩
    ·rw[hw];exact i1 (by rcases hv with rfl|rfl<;>omega)
    ·rw[hw];exact i2 g
    ·refine key (by rcases hv with rfl|rfl<;>omega) g2 hw ?_;intro v w1 w2;rcases hv with rfl|rfl<;>omega
  ·have hw:wF z (c::l)=wF z l:=by
    show(if _ then _ else _)=_;rw[if_neg fun g=>g.1 hm]
   rw[hm]at i1 i3 key;simp only[Int.zero_mul,Int.add_zero]at i1 i3 key;refine⟨fun g=> ?_,fun g=> ?_,fun g1 g2=> ?_⟩
   ·rw[hw];exact i1 g
   ·rw[hw];exact i2 g
   ·refine key g1 g2 hw ?_;intro v w1 w2;rcases hv with rfl|rfl<;>omega
theorem Qol {t:Trk} (h:TQ t) {z:Int} (hz:i64 z):∀(k j:Nat),j+k=t.aE.length->wF z (t.aE.drop j)= -1/\An PR [I z, .view As (t.aE.map AI),I t.aE.length,I j]=some (2,[])\/
  An PR [I z, .view As (t.aE.map AI),I t.aE.length,I j]=some (1,[I (wF z (t.aE.drop j))])
 |0,j,hj=>by
  left;rw[List.drop_of_length_le (by omega)];refine⟨rfl,A_ (o:=(2,_)) ?_ (by simp)⟩;rw[Q2i,AZ (by omega)]
 |k+1,j,hj=>by
  have hlt:j<t.aE.length:=by omega
  have hcnt:=h.count;have hin:(0:Int)<=(j:Int)/\(j:Int)<(t.aE.length:Int):=by omega
  have hpos:=h.pos j hlt;have hl:=h.len;have hs:=h.s j hlt;have hmv:=h.move j hlt;have e:t.aE.drop j=pcA t.aE j::t.aE.drop (j+1):=by
   have e1:pcA t.aE j=t.aE[j]:=by unfold pcA;simp[hlt]
   rw[e1];exact Nt _ _ hlt
  have hst:PR [I z, .view As (t.aE.map AI),I t.aE.length,I j]=if(pcA t.aE j).move≠0/\0<=(z-(pcA t.aE j).s)*(pcA t.aE j).move/\(z-(pcA t.aE j).s)*(pcA t.aE j).move<=(pcA t.aE j).units then
    some (1,[I ((pcA t.aE j).at_+(z-(pcA t.aE j).s)*(pcA t.aE j).move)])else some (0,[I z, .view As (t.aE.map AI),I t.aE.length,I (j+1:Nat)]):=by
   rw[Q2i];simp only[go_sem,List.length_map,Int.toNat_natCast,QO hlt,if_pos hin,Ae (x:=(j:Int)+1) (by omega)];rw[if_pos (by omega)];unfold eI at hpos;unfold i64 at hz;generalize pcA t.aE j=c at*;have wrap2:∀y:Int,-9223372036854775808-2000000000000000<=y->y<=9223372036854775807+2000000000000000->(wrap .i64 y=y/\ -9223372036854775808<=y/\y<=9223372036854775807)\/(wrap .i64 y=y+18446744073709551616/\y< -9223372036854775808)\/(wrap .i64 y=y-18446744073709551616/\y>9223372036854775807):=by
    intro y y1 y2;have hw:=Zgo y;unfold i64 at hw;by_cases c1: -9223372036854775808<=y/\y<=9223372036854775807
    ·exact .inl ⟨Ae c1,c1⟩
    ·have:=YT y;omega
   by_cases c0:c.move=0
   ·have hP: ¬(c.move≠0/\0<=(z-c.s)*c.move/\(z-c.s)*c.move<=c.units):=fun g=>g.1 c0;rw[if_neg (by omega),if_neg hP];rfl
   ·rw[if_pos c0];have hm:c.move=1\/c.move= -1:=by omega
    have a1:=wrap2 (z-c.s) (by omega) (by omega);have hw2:wrap .i64 (wrap .i64 (z-c.s)*c.move)=(z-c.s)*c.move\/((wrap .i64 (wrap .i64 (z-c.s)*c.move)<0\/wrap .i64 (wrap .i64 (z-c.s)*c.move)>1000000000000000)/\((z-c.s)*c.move<0\/(z-c.s)*c.move>1000000000000000)):=by
     generalize wrap .i64 (z-c.s)=y at*;have a2:=wrap2 (y*c.move) (by rcases hm with hm|hm<;>rw[hm]<;>omega) (by rcases hm with hm|hm<;>rw[hm]<;>omega);rcases hm with hm|hm<;>rw[hm]at a2⊢<;>omega
    generalize wrap .i64 (wrap .i64 (z-c.s)*c.move)=n at*;by_cases c1:0<=(z-c.s)*c.move/\(z-c.s)*c.move<=c.units
    ·have en:n=(z-c.s)*c.move:=by omega
     have hP:c.move≠0/\0<=(z-c.s)*c.move/\(z-c.s)*c.move<=c.units:=⟨c0,c1⟩;rw[if_pos hP,en,if_pos c1.1,if_pos c1.2,Ae (by omega)]
    ·have hP: ¬(c.move≠0/\0<=(z-c.s)*c.move/\(z-c.s)*c.move<=c.units):=fun g=>c1 g.2;rw[if_neg hP];by_cases c2:0<=n
     ·rw[if_pos c2,if_neg (by omega)];rfl
     ·rw[if_neg c2];rfl
  rw[e];by_cases c:(pcA t.aE j).move≠0/\0<=(z-(pcA t.aE j).s)*(pcA t.aE j).move/\(z-(pcA t.aE j).s)*(pcA t.aE j).move<=(pcA t.aE j).units
  ·rw[if_pos c]at hst;right;rw[A_ hst (by simp)];unfold wF;rw[if_pos c]
  ·rw[if_neg c]at hst;rw[Bt hst];unfold wF;rw[if_neg c];exact Qol h hz k (j+1) (by omega)
theorem Ze2 {t:Trk} (h:TQ t) {z:Int} (hz:i64 z):Mw (Bq t++[I z])=some [I (B1 t z)]:=by
 have he:=Zo1 K6 (t.aE.map AI) t.length t.start t.dirs.x t.dirs.y t.dirs.z z;unfold Mw;refine Eq.trans he ?_;unfold B1;rw[List.length_map];by_cases c:z=t.start
 ·rw[if_pos c,BO (by simp[c])]
 ·rw[if_neg c,Bn (by simp[c])];rcases Qol h hz t.aE.length 0 (by omega)with⟨h1,h2⟩|h2
  ·rw[List.drop_zero]at h1;have h2':K6 [I z, .view As (t.aE.map AI),I t.aE.length,I 0]=some (2,[]):=h2;generalize K6=N at*;rw[h1];simp only[h2',go_sem];rfl
  ·rw[List.drop_zero]at h2;have h2':K6 [I z, .view As (t.aE.map AI),I t.aE.length,I 0]=some (1,[I (wF z t.aE)]):=h2;generalize K6=N at*;simp only[h2',go_sem]
end Go.Bm
namespace Go.Bm
open Classical
theorem Q66 {x:Ax3} {Q:Int->Pt->Prop}:∀{a s:Int} {d:Pt} {l:List Pce} {u:Int},D5 x 1 Q a s d l->l≠[]->u<=CK a l->plL l u<=CZ s l
 |_,_,_,[],_,_,h,_=>absurd rfl h
 |a,s,d,c::l,u,h,_,hu=>by
  obtain⟨h1,h2,h3,h4,h5⟩:=h;have hm:c.move=1\/c.move=0:=by rcases h4 with h4|h4<;>simp[h4.1]
  have he:=U6 (.inl rfl) h5;unfold plL;by_cases c0:u<=c.at_+c.units
  ·rw[if_pos c0];unfold CZ;generalize CZ (s+c.move*c.units) l=E at*;rcases hm with hm|hm<;>rw[hm]at he⊢<;>omega
  ·rw[if_neg c0];have hne:l≠[]:=by
    intro e;subst e;simp only[CK]at hu;omega
   exact Q66 h5 hne hu
theorem Tq {x:Ax3} {Q:Int->Pt->Prop}:∀{a s:Int} {d:Pt} {l:List Pce},D5 x 1 Q a s d l->l≠[]->∀v w:Int,a<=v->v<=w->w<=CK a l->s<=plL l v/\plL l v<=plL l w
 |_,_,_,[],_,h,_,_,_,_,_=>absurd rfl h
 |a,s,d,c::l,h,_,v,w,h0,h1,h2=>by
  obtain⟨g1,g2,g3,g4,g5⟩:=h;have hm:c.move=1\/c.move=0:=by rcases g4 with g4|g4<;>simp[g4.1]
  have more: ¬w<=a+c.units->l≠[]:=fun hw e=>by
   subst e;simp only[CK]at h2;omega
  simp only[CK]at h2;unfold plL;rw[g1,g2];by_cases cv:v<=a+c.units
  ·rw[if_pos cv];by_cases cw:w<=a+c.units
   ·rw[if_pos cw];rcases hm with hm|hm<;>rw[hm]<;>omega
   ·rw[if_neg cw];have ih:=Tq g5 (more cw) w w (by omega) (Int.le_refl _) h2;rcases hm with hm|hm<;>rw[hm]at ih⊢<;>omega
  ·rw[if_neg cv,if_neg (by omega)];have ih:=Tq g5 (more (by omega)) v w (by omega) h1 h2;rcases hm with hm|hm<;>rw[hm]at ih<;>omega
structure Fw (t : Trk) (n : Int) : Prop where
 wh:∀z,0<=z->z<=n->0<=B1 t z/\B1 t z<=t.length/\AT t (B1 t z)=z/\∀v,0<=v->v<B1 t z->AT t v<z
 up:∀u v,u<=v->AT t u<=AT t v
 rg:∀u,0<=AT t u/\AT t u<=n
 zero:AT t 0=0
 len:0<=t.length/\t.length<=900000000000000
theorem Fw.le {t:Trk} {n:Int} (h:Fw t n) {z u:Int} (h0:0<=z) (h1:z<=n) (hu:u<=B1 t z):AT t u<=z:=by
 have h2:=h.wh z h0 h1;have:=h.up u _ hu;omega
theorem Fw.ge {t:Trk} {n:Int} (h:Fw t n) {z u:Int} (h0:0<=z) (h1:z<=n) (hp:0<=u) (hu:z<=AT t u):B1 t z<=u:=by
 apply Decidable.byContradiction;intro c;have:=(h.wh z h0 h1).2.2.2 u hp (by omega);omega
theorem Fw.wmono {t:Trk} {n:Int} (h:Fw t n) {y z:Int} (h0:0<=y) (h1:y<=z) (h2:z<=n):B1 t y<=B1 t z:=by
 have hz:=h.wh z (by omega) h2;refine h.ge h0 (by omega) hz.1 ?_;rw[hz.2.2.1];exact h1
theorem Zz9 {p:Pth} {x:Ax3} {d:Pt} (hx:Ax3OK x) (hp:GoodPath p):Fw (Ej p x d 0 (AA p.aF)) (AA p.aF):=by
 have hn:=U_ hp;obtain⟨d',h1,h2,-⟩:=Qao (d:=d) (a:=0) (b:=AA p.aF) (Q:=fun _ _=>True) hx hp (fun _ _ _ _ _ _ _ _=>trivial);have ht:=Qvs d 0 (AA p.aF) hx hp;have c1:Bz 0 (AA p.aF)=0:=by unfold Bz;omega
 have c2:Bz (AA p.aF) (AA p.aF)=AA p.aF:=by unfold Bz;omega
 have hmv:mvP p 0 (AA p.aF)=1:=by unfold mvP;rw[c1,c2,if_neg (by omega)]
 rw[hmv,c2]at h1;rw[c1]at h2;generalize Ej p x d 0 (AA p.aF)=t at*;generalize AA p.aF=n at*;obtain⟨ch,hl,hs,-⟩:=h1;rw[h2]at ch hs;by_cases hne:t.aE=[]
 ·have hn0:n=0:=by rw[hne]at hs;exact hs.symm
  have hl0:t.length=0:=by rw[hne]at hl;exact hl.symm
  have pl:∀u,AT t u=0:=fun u=>by unfold AT;rw[if_pos hne,h2]
  refine⟨fun z z0 z1=> ?_,fun u v _=>by rw[pl,pl];omega,fun u=>by rw[pl];omega,pl 0,ht.len⟩;have hw:B1 t z=0:=by unfold B1;rw[if_pos (by rw[h2];omega)]
  rw[hw];exact⟨by omega,by omega,by rw[pl];omega,fun v h0 h1=>by omega⟩
 ·have cl:∀u,0<=clT t u/\clT t u<=t.length:=N_ ht;have cid:∀u,0<=u->u<=t.length->clT t u=u:=fun u h0 h1=>by unfold clT Bz;omega
  have cmono:∀u v,u<=v->clT t u<=clT t v:=fun u v h=>by unfold clT Bz;omega
  have up:∀u v,u<=v->AT t u<=AT t v:=fun u v h=>by
   rw[LE ht u hne,LE ht v hne];exact(Tq ch hne _ _ (cl u).1 (cmono u v h) (by rw[hl];exact(cl v).2)).2
  have lo:∀u,0<=AT t u:=fun u=>by
   rw[LE ht u hne];exact(Tq ch hne _ _ (cl u).1 (Int.le_refl _) (by rw[hl];exact(cl u).2)).1
  have hi:∀u,AT t u<=n:=fun u=>by
   rw[LE ht u hne];have:=Q66 ch hne (u:=clT t u) (by rw[hl];exact(cl u).2);rw[hs]at this;exact this
  have zero:AT t 0=0:=by
   rw[LE ht 0 hne,cid 0 (by omega) ht.len.1];obtain⟨c,l,e⟩:=List.exists_cons_of_ne_nil hne;rw[e]at ch⊢;obtain⟨g1,g2,g3,-⟩:=ch;unfold plL;rw[if_pos (by omega),g1,g2];simp
  refine⟨fun z z0 z1=> ?_,up,fun u=>⟨lo u,hi u⟩,zero,ht.len⟩;by_cases hz:z=0
  ·have hw:B1 t z=0:=by unfold B1;rw[if_pos (by rw[h2];exact hz)]
   rw[hw];exact⟨by omega,ht.len.1,by rw[zero,hz],fun v h0 h1=>by omega⟩
  ·have hw:B1 t z=wF z t.aE:=by unfold B1;rw[if_neg (by rw[h2];exact hz)]
   obtain⟨a1,a2,a3,a4⟩:=(Q44 (.inl rfl) z ch).2.2 (by omega) (by rw[hs];omega);rw[hl]at a2;rw[hw];refine⟨by omega,a2,?_,fun v h0 h1=> ?_⟩
   ·rw[LE ht _ hne,cid _ (by omega) a2,a3]
   ·rw[LE ht _ hne,cid v h0 (by omega)];have:=a4 v h0 h1;omega
end Go.Bm
namespace Go.Bm
theorem eB {α β:Type} {a:Option α} {f:α->Option β} {x:α} {r:Option β} (h:a=some x) (g:f x=r):a.bind f=r:=by rw[h];exact g
theorem eT {α:Type} {c:Bool} {a b r:α} (h:c=true) (g:a=r):cond c a b=r:=by rw[h];exact g
theorem eF {α:Type} {c:Bool} {a b r:α} (h:c=false) (g:b=r):cond c a b=r:=by rw[h];exact g
theorem eC {α:Type} {c:Bool} {a b r:α} (h:c=true->a=r) (g:c=false->b=r):cond c a b=r:=by cases c;exact g rfl;exact h rfl
theorem beF {a b:Int} (h:a≠b):(a==b)=false:=by simpa using h
theorem beT {a b:Int} (h:a=b):(a==b)=true:=by simpa using h
theorem bnF {a b:Int} (h:a=b):(a !=b)=false:=by simpa using h
theorem bnT {a b:Int} (h:a≠b):(a !=b)=true:=by simpa using h
theorem Fh {α β:Type} {a:Option α} {f:α->Option β} (h:a.isSome=true) (g:∀o,a=some o->(f o).isSome=true):(a.bind f).isSome=true:=by
 cases a with
 |none=>simp at h
 |some o=>exact g o rfl
theorem BR {α:Type} {c:Bool} {a b:Option α} (h:c=true->a.isSome=true) (g:c=false->b.isSome=true):(cond c a b).isSome=true:=by
 cases c
 ·exact g rfl
 ·exact h rfl
def Out {α:Type} (p:α->Prop) (a:Option α):Prop:=∃o,a=some o/\p o
theorem Out.is {α:Type} {p:α->Prop} {a:Option α} (h:Out p a):a.isSome=true:=by obtain⟨o,h,_⟩:=h;rw[h];rfl
theorem Out.of {α:Type} {a:Option α} (h:a.isSome=true):Out (fun _=>True) a:=by
 cases a with
 |none=>simp at h
 |some o=>exact⟨o,rfl,trivial⟩
theorem Out.bind {α β:Type} {p:α->Prop} {q:β->Prop} {a:Option α} {f:α->Option β} (h:Out p a) (g:∀o,p o->Out q (f o)):Out q (a.bind f):=by
 obtain⟨o,rfl,h⟩:=h;exact g o h
theorem Out.ibind {α β:Type} {q:β->Prop} {a:Option α} {f:α->Option β} (h:a.isSome=true) (g:∀o,a=some o->Out q (f o)):Out q (a.bind f):=by
 cases a with
 |none=>simp at h
 |some o=>exact g o rfl
theorem Out.cond {α:Type} {p:α->Prop} {c:Bool} {a b:Option α} (h:c=true->Out p a) (g:c=false->Out p b):Out p (cond c a b):=by
 cases c
 ·exact g rfl
 ·exact h rfl
theorem Out.some {α:Type} {p:α->Prop} {o:α} (h:p o):Out p (some o):=⟨o,rfl,h⟩
theorem Out.mono {α:Type} {p q:α->Prop} {a:Option α} (h:Out p a) (g:∀o,p o->q o):Out q a:=by obtain⟨o,h,h2⟩:=h;exact⟨o,h,g o h2⟩
theorem C9 {S:Type} {step:Lp} (enc:S->List AC) (Inv:S->Prop) (m:S->Nat) (Q:Nat×List AC->Prop)
  (h:∀s,Inv s->Out (fun o=>(o.1=0/\∃s',o.2=enc s'/\Inv s'/\m s'<m s)\/(o.1≠0/\Q o)) (step (enc s))) (s:S) (hs:Inv s):Out Q (An step (enc s)):=by
 obtain ⟨o, h1, _, h2⟩ := Qzi (step := step) enc Inv m Q (fun s hs => by
  obtain⟨o,h1,h2⟩:=h s hs;rcases h2 with⟨h2,s',h3,h4,h5⟩|⟨h2,h3⟩
  ·refine .inl ⟨s',?_,h4,h5⟩;rw[h1,<-h3,<-h2]
  ·exact .inr ⟨o,h1,h2,h3⟩) s hs
 exact⟨o,h1,h2⟩
theorem Bg {p:Prop} [Decidable p] (h:decide p=true):p:=of_decide_eq_true h
theorem Bj {p:Prop} [Decidable p] (h:decide p=false): ¬p:=of_decide_eq_false h
theorem inB {i:Int} {n:Nat} (h0:0<=i) (h1:i<(n:Int)):(decide (0<=i)&&decide (i<(n:Int)))=false->False:=by
 intro h;rcases Bool.and_eq_false_iff.1 h with c|c
 ·exact Bj c h0
 ·exact Bj c h1
theorem Cw {a b:Nat} (h:a<=b):Nat.ble a b=true:=Nat.ble_eq_true_of_le h
theorem Qvh (a b c d:Int):(Gq [I a,I b,I c,I d]).isSome=true:=by
 unfold Gq;rw[Y7]
 repeat' first|exact rfl|refine BR (fun _=> ?_) (fun _=> ?_)
 rename_i h1 h2;simp at h1 h2;omega
theorem PE (a b c:Int):EL [I a,I b,I c]=some [B (decide (1<=a/\a<=65536/\2<=b/\b<=65536/\1<=c/\c<=16777216))]:=by
 unfold EL;rw[Zc4];by_cases h1:1<=a<;>by_cases h2:a<=65536<;>by_cases h3:2<=b<;>by_cases h4:b<=65536<;>by_cases h5:1<=c<;>by_cases h6:c<=16777216<;>simp[h1,h2,h3,h4,h5,h6]
theorem Zlg {M:Fn} (h:∀a b c d,(M [I a,I b,I c,I d]).isSome=true) (a b c v x:Int):(P4 M [I a,I b,I c,I v,I x]).isSome=true:=by
 rw[Qbt]
 repeat' first|exact rfl|exact h _ _ _ _|refine BR (fun _=> ?_) (fun _=> ?_)|refine Fh ?_ fun _ _=> ?_
theorem Qad (a b c v x:Int):(Gc [I a,I b,I c,I v,I x]).isSome=true:=Zlg Qvh a b c v x
theorem Zje (x:Int): -9223372036854775808<=wrap .i64 x/\wrap .i64 x<=9223372036854775807:=by
 simp[IntKind.wrap,IntKind.signed,IntKind.bits];omega
end Go.Bm
namespace Go.Bm
theorem Zoj {ML MV:Fn} (hL:∀a b c d,(ML [I a,I b,I c,I d]).isSome=true) {v a b c low high:Int} (h1: -9000000000000<=low/\low<=9000000000000) (h2: -9000000000000<=high/\high<=9000000000000):
  Out (fun o=>o.1=1) (An (Ln ML MV) [I v,I low,I high,I a,I b,I c]):=by
 refine C9 (fun s:Int×Int=>[I v,I s.1,I s.2,I a,I b,I c]) (fun s=>(-9000000000000<=s.1/\s.1<=9000000000000)/\(-9000000000000<=s.2/\s.2<=9000000000000)) (fun s=>(s.2-s.1).toNat) _ ?_ (low,high) ⟨h1,h2⟩;rintro⟨l,h⟩ ⟨q1,q2⟩;dsimp only at*;rw[Qi3];refine .cond (fun c=> ?_) (fun c=> ?_)
 ·have c:=Bg c;have e:wrap .i64 (h-wrap .i64 ((wrap .i64 (h-l)).tdiv 2))=h-(h-l)/2:=by
   rw[Ae (x:=h-l) (by omega),Int.tdiv_eq_ediv_of_nonneg (by omega),Ae (x:=(h-l)/2) (by omega),Ae (by omega)]
  rw[e];refine .ibind (hL _ _ _ _) fun o _=> ?_;refine .cond (fun _=> ?_) (fun _=> ?_)
  ·exact .some (.inl ⟨rfl,(h-(h-l)/2,h),rfl,by dsimp only;omega,by dsimp only;omega⟩)
  ·refine .some (.inl ⟨rfl,(l,h-(h-l)/2-1),?_,by dsimp only;omega,by dsimp only;omega⟩);rw[Ae (x:=h-(h-l)/2-1) (by omega)]
 ·exact .some (.inr ⟨by simp,rfl⟩)
theorem Ze5 {ML MV:Fn} (hL:∀a b c d,(ML [I a,I b,I c,I d]).isSome=true) (hV:∀a b c,MV [I a,I b,I c]=some [B (decide (1<=a/\a<=65536/\2<=b/\b<=65536/\1<=c/\c<=16777216))]) (a b c v x:Int):
  (Rp ML MV (An (Ln ML MV)) [I a,I b,I c,I v,I x]).isSome=true:=by
 rw[Qy4,hV];simp only[Option.bind_some];refine BR (fun _=>rfl) fun h1=>BR (fun _=>rfl) fun h2=>BR (fun _=>rfl) fun h3=> ?_;simp only[go_sem,Bool.not_eq_false',decide_eq_true_eq]at h1;have h2:=Bj h2;have h3:=Bj h3;have hx: -1099511627776<=x/\x<=1099511627776:=by
  unfold mx at h2;unfold mn at h3;split at h2<;>split at h3<;>omega
 obtain⟨o,h4,h5⟩:=Zoj (MV:=MV) hL (v:=v) (a:=a) (b:=b) (c:=c) (low:=wrap .i64 (wrap .i64 (0-x)-b)) (high:=mn (wrap .i64 (b-x)) a)
  (by rw[Ae (x:=0-x) (by omega),Ae (by omega)];omega) (by rw[Ae (x:=b-x) (by omega)];unfold mn;split<;>omega)
 rw[h4];simp only[Option.bind_some,h5];rfl
theorem Zm4 (a b c v x:Int):(E7 [I a,I b,I c,I v,I x]).isSome=true:=Ze5 Qvh PE a b c v x
theorem Zzz {MB MR MV:Fn} (hB:∀a b c v x,(MB [I a,I b,I c,I v,I x]).isSome=true) {a b c v x:Int}:
  Out (fun o=>o.1=1\/o.1=2/\(wA o.2 0).length<=4096) (An (Ie MB MR MV) [.view Aa [],I v,I x,I a,I b,I c]):=by
 refine C9 (fun s:Rw×Int×Int=>[.view Aa s.1,I s.2.1,I s.2.2,I a,I b,I c]) (fun s=>s.1.length<=4096) (fun s=>4096-s.1.length) _ ?_ ([],v,x) (by simp);rintro⟨l,v,x⟩ h;dsimp only at*;rw[OU];refine .cond (fun _=> ?_) (fun _=> ?_)
 ·refine .cond (fun _=> ?_) (fun h2=> ?_)
  ·exact .some (.inr ⟨by simp, .inl rfl⟩)
  ·have h2: ¬((l.length:Int)=4096):=by simpa using h2
   refine .ibind (hB _ _ _ _ _) fun o _=> ?_;refine .cond (fun _=> ?_) (fun h3=> ?_)
   ·exact .some (.inl ⟨rfl,(_,_,_),rfl,by simp;omega,by simp;omega⟩)
   ·rw[Cw (by simp;omega)]at h3;cases h3
 ·exact .some (.inr ⟨by simp, .inr ⟨rfl,h⟩⟩)
theorem Zhc {MB MR MV:Fn} (hB:∀a b c v x,(MB [I a,I b,I c,I v,I x]).isSome=true) (hR:∀a b c v x,(MR [I a,I b,I c,I v,I x]).isSome=true) (hV:∀a b c,MV [I a,I b,I c]=some [B (decide (1<=a/\a<=65536/\2<=b/\b<=65536/\1<=c/\c<=16777216))]) (a b c v x:Int):
  Out (fun o=>(wA o 0).length<=4096) (OP MB MR MV (An (Ie MB MR MV)) [I a,I b,I c,I v,I x]):=by
 rw[Qmh,hV];simp only[Option.bind_some];refine .cond (fun _=> .some (by simp[gA,wA,bA,jA,nth,Ce])) fun _=> .ibind (hR _ _ _ _ _) fun o _=> .cond (fun _=> .some (by simp[gA,wA,bA,jA,nth,Ce])) fun _=> ?_;refine .bind (Zzz hB) fun o h=> ?_;rcases h with h|⟨h,h2⟩
 ·rw[h];exact .some (by simp[gA,wA,bA,jA,nth,Ce])
 ·rw[h];exact .some h2
theorem Q8f (a b c v x:Int):Out (fun o=>(wA o 0).length<=4096) (Jv [I a,I b,I c,I v,I x]):=Zhc Zm4 Qad PE a b c v x
theorem Qs5 {M:Fn} {u:Int} {sp out:Rw} (h0:out.length=sp.length) (h1:sp.length<=4096):
  Out (fun o=>o.1=1/\(wA o.2 0).length=sp.length) (An (G5 M) [.view Aa out,I u, .view Aa sp,I (sp.length:Int),I 0]):=by
 refine C9 (fun s:Rw×Int×Nat=>[.view Aa s.1,I s.2.1, .view Aa sp,I (sp.length:Int),I (s.2.2:Int)]) (fun s=>s.1.length=sp.length/\s.2.2<=sp.length) (fun s=>sp.length-s.2.2) _ ?_ (out,u,0) ⟨h0,by simp⟩;rintro⟨l,u,i⟩ ⟨g1,g2⟩;dsimp only at*;rw[ZX];refine .cond (fun c=> ?_) (fun _=> ?_)
 ·have c:=Bg c;refine .cond (fun _=> ?_) (fun h=> ?_)
  ·refine .cond (fun _=> ?_) (fun h=> ?_)
   ·have e:=Ae (x:=(i:Int)+1) (by omega);rw[e];generalize wrap .i64 (u+gA (nth [] sp (i:Int).toNat) 0)=z;exact .some (.inl ⟨rfl,(l.set (i:Int).toNat [I z],z,i+1),rfl,by simp;omega,by simp;omega⟩)
   ·simp at h;omega
  ·simp at h;omega
 ·exact .some (.inr ⟨by simp,rfl,g1⟩)
theorem Zmt {M:Fn} (hS:∀a b c v x,Out (fun o=>(wA o 0).length<=4096) (M [I a,I b,I c,I v,I x])) (a b c x3 x4 x5 x6 x7 x8:Int):
  Out (fun o=>(wA o 0).length<=4096) (L5 M (An (G5 M)) [I a,I b,I c,I x3,I x4,I x5,I x6,I x7,I x8]):=by
 rw[Sd];refine .bind (hS _ _ _ _ _) fun o h=> ?_;generalize wA o 0=sp at*;refine .cond (fun _=> .some (by simp[gA,wA,bA,jA,nth,Ce])) fun _=> ?_;refine .cond (fun _=> ?_) fun c=>by simp at c
 refine .cond (fun _=> ?_) fun c=>by simp at c;omega
 refine .bind (Qs5 (by simp) h) fun o g=> ?_;rw[g.1];exact .some (by show(wA o.2 0).length<=4096;omega)
theorem Qfe (a b c x3 x4 x5 x6 x7 x8:Int):Out (fun o=>(wA o 0).length<=4096) (EE [I a,I b,I c,I x3,I x4,I x5,I x6,I x7,I x8]):=Zmt Q8f a b c x3 x4 x5 x6 x7 x8
theorem Zpr {M:Fn} (hF:∀a b c x3 x4 x5 x6 x7 x8,Out (fun o=>(wA o 0).length<=4096) (M [I a,I b,I c,I x3,I x4,I x5,I x6,I x7,I x8])) (a b c x3 x4 x5 x6 x7 x8:Int):
  (LJ M [I a,I b,I c,I x3,I x4,I x5,I x6,I x7,I x8]).isSome=true:=by
 rw[S3];obtain⟨o,h1,h2⟩:=hF a b c x3 x4 x5 x6 x7 x8;rw[h1];simp only[Option.bind_some];generalize wA o 0=sp at*;refine BR (fun _=>rfl) fun _=>BR (fun _=>rfl) fun c=>BR (fun _=>rfl) fun d=> ?_;have c: ¬((sp.length:Int)=0):=by simpa using c
 rw[Ae (by omega)]at d;simp at d;omega
theorem Qw1 (a b c x3 x4 x5 x6 x7 x8:Int):(Fm [I a,I b,I c,I x3,I x4,I x5,I x6,I x7,I x8]).isSome=true:=Zpr Qfe a b c x3 x4 x5 x6 x7 x8
end Go.Bm
namespace Go.Bm
theorem Zcj (l:Rw) (h:l.length<=100000):Out (fun o=>(wA o 0).length<=l.length) (P3 [.view Aa l]):=by
 show Out _ (Yb (An Qap) [.view Aa l]);rw[Z1y];refine .bind (p:=fun o=>o.1=1/\(wA o.2 0).length<=l.length) ?_ fun o g=>by rw[g.1];exact .some g.2
 refine C9 (fun s:Rw×Nat=>[.view Aa s.1, .view Aa l,I (s.2:Int)]) (fun s=>1<=s.2/\s.2<=l.length+1/\s.1.length+1<=s.2) (fun s=>l.length+1-s.2) _ ?_ ([],1) (by simp);rintro⟨v,i⟩ ⟨g1,g2,g3⟩;dsimp only at*;rw[Zt5];rw[Ae (x:=(i:Int)-1) (by omega),Ae (x:=(i:Int)+1) (by omega)];refine .cond (fun c=> ?_) (fun c=> ?_)
 ·have c:=Bg c;refine .cond (fun _=> ?_) fun c=>by simp at c;omega
  refine .cond (fun _=> ?_) fun c=>by simp at c;omega
  refine .cond (fun _=> ?_) fun c=>by rw[Cw (by simp;omega)]at c;cases c
  exact .some (.inl ⟨rfl,(_,i+1),rfl,by simp;omega,by simp;omega⟩)
 ·have c:=Bj c;exact .some (.inr ⟨by simp,rfl,by show v.length<=l.length;omega⟩)
theorem Zk7 (l:Rw) (n:Int) (h:l.length<=100000):(PV [.view Aa l,I n]).isSome=true:=by
 show(WE (An Qlp) [.view Aa l,I n]).isSome=true;rw[Q92];refine Out.is (p:=fun _=>True) ?_;refine .bind (p:=fun o=>o.1=1\/o.1=2) ?_ fun o g=>by rcases g with g|g<;>rw[g]<;>exact .some trivial
 refine C9 (fun s:Nat=>[I n, .view Aa l,I (l.length:Int),I (s:Int)]) (fun s=>s<=l.length) (fun s=>l.length-s) _ ?_ 0 (by simp);intro i g;rw[Zpk];rw[Ae (x:=(i:Int)+1) (by omega)];refine .cond (fun c=> ?_) (fun c=> ?_)
 ·have c:=Bg c;refine .cond (fun _=> ?_) fun c=>by simp at c;omega
  refine .cond (fun _=> .some (.inr ⟨by simp, .inl rfl⟩)) fun _=> .cond (fun _=> .some (.inr ⟨by simp, .inl rfl⟩)) fun _=> ?_;exact .some (.inl ⟨rfl,i+1,rfl,by omega,by omega⟩)
 ·exact .some (.inr ⟨by simp, .inr rfl⟩)
theorem Zr5 {MB MD:Fn} (hD:∀l:Rw,l.length<=100000->Out (fun o=>(wA o 0).length<=l.length) (MD [.view Aa l])) (hB:∀(l:Rw) n,l.length<=100000->(MB [.view Aa l,I n]).isSome=true)
  (x0 x1 x2 x3 x4 x5 x6 x7 x8:Int) (x9 l:Rw) (h:l.length<=100000):(Qm0 MB MD [I x0,I x1,I x2,I x3,I x4,I x5,I x6,I x7,I x8, .view Aa x9, .view Aa l]).isSome=true:=by
 rw[Znk];obtain⟨a,ha,ga⟩:=hD l h;rw[ha];simp only[Option.bind_some];generalize wA a 0=la at*;obtain⟨b,hb,gb⟩:=hD la (by omega);rw[hb];simp only[Option.bind_some];generalize wA b 0=lb at*;obtain⟨c,hc,gc⟩:=hD lb (by omega);rw[hc];simp only[Option.bind_some];generalize wA c 0=lc at*;refine Fh (hB _ _ (by omega)) fun _ _=>BR (fun _=>rfl) fun _=>Fh (hB _ _ (by omega)) fun _ _=>BR (fun _=>rfl) fun _=>Fh (hB _ _ (by omega)) fun _ _=>BR (fun _=>rfl) fun _=>rfl
theorem Q9v (x0 x1 x2 x3 x4 x5 x6 x7 x8:Int) (x9 l:Rw) (h:l.length<=100000):(KZ [I x0,I x1,I x2,I x3,I x4,I x5,I x6,I x7,I x8, .view Aa x9, .view Aa l]).isSome=true:=Zr5 Zcj Zk7 x0 x1 x2 x3 x4 x5 x6 x7 x8 x9 l h
theorem Zz7 {M:Fn} {x:Ax3} {k:Int} (hk:0<=k/\k<=2) {l out:Rw} (h0:out.length=l.length) (h1:l.length<=100000):
  Out (fun o=>o.1=1/\∃v:Rw,o.2= .view Aa v:: .view kPt l::I k::I k::AO x/\v.length=l.length) (An (KH M) (.view Aa out:: .view kPt l::I k::I k::I (l.length:Int)::I 0::AO x)):=by
 refine C9 (fun s:Rw×Nat=> .view Aa s.1:: .view kPt l::I k::I k::I (l.length:Int)::I (s.2:Int)::AO x) (fun s=>s.1.length=l.length/\s.2<=l.length) (fun s=>l.length-s.2) _ ?_ (out,0) ⟨h0,by simp⟩;rintro⟨v,i⟩ ⟨g1,g2⟩;dsimp only at*;rw[Zgi];rw[Ae (x:=(i:Int)+1) (by omega)];refine .cond (fun c=> ?_) (fun c=> ?_)
 ·have c:=Bg c;refine .cond (fun _=> ?_) fun c=>by simp at c;omega
  refine .cond (fun _=> ?_) fun c0=> .cond (fun _=> ?_) fun c1=> .cond (fun _=> ?_) fun c2=> ?_
  ·refine .cond (fun _=> ?_) fun c=>by simp at c;omega
   exact .some (.inl ⟨rfl,(_,i+1),rfl,by simp;omega,by simp;omega⟩)
  ·refine .cond (fun _=> ?_) fun c=>by simp at c;omega
   exact .some (.inl ⟨rfl,(_,i+1),rfl,by simp;omega,by simp;omega⟩)
  ·refine .cond (fun _=> ?_) fun c=>by simp at c;omega
   exact .some (.inl ⟨rfl,(_,i+1),rfl,by simp;omega,by simp;omega⟩)
  ·have c0:=Bj c0;have c1:=Bj c1;have c2:=Bj c2
   simp at c0 c1 c2;omega
 ·exact .some (.inr ⟨by simp,rfl,v,rfl,g1⟩)
theorem Zft {M:Fn} (hM:∀(x0 x1 x2 x3 x4 x5 x6 x7 x8:Int) (x9 l:Rw),l.length<=100000->(M [I x0,I x1,I x2,I x3,I x4,I x5,I x6,I x7,I x8, .view Aa x9, .view Aa l]).isSome=true) (x:Ax3) {l:Rw} (h1:l.length<=100000):
  (Q_ M (An (KH M)) (An (SV M (An (KH M)))) (AO x++[.view kPt l])).isSome=true:=by
 show(Q_ M (An (KH M)) (An (SV M (An (KH M)))) [I x.a.step,I x.a.speed,I x.a.accel,I x.a.jerk,I x.a.low,I x.a.high,I x.a.back,I x.a.origin,I x.a.spacing, .view Aa (x.a.pitch.map Ap),I x.b.step,I x.b.speed,I x.b.accel,I x.b.jerk,I x.b.low,I x.b.high,I x.b.back,I x.b.origin,I x.b.spacing, .view Aa (x.b.pitch.map Ap),I x.c.step,I x.c.speed,I x.c.accel,I x.c.jerk,I x.c.low,I x.c.high,I x.c.back,I x.c.origin,I x.c.spacing, .view Aa (x.c.pitch.map Ap), .view kPt l]).isSome=true;rw[Znm];refine Out.is (p:=fun _=>True) ?_;refine .bind (p:=fun o=>o.1=1\/o.1=2) ?_ fun o g=>by rcases g with g|g<;>rw[g]<;>exact .some trivial
 refine C9 (fun s:Nat=> .view kPt l::I (s:Int)::AO x) (fun s=>s<=3) (fun s=>3-s) _ ?_ 0 (by omega);intro k hk;rw[Zxs];refine .cond (fun c=> ?_) (fun c=> ?_)
 ·have c:=Bg c;refine .cond (fun _=> ?_) fun c=>by simp at c
  refine .cond (fun _=> ?_) fun c=>by simp at c;omega
  refine .bind (Zz7 (M:=M) (x:=x) (k:=(k:Int)) (by omega) (by simp) h1) fun o g=> ?_;obtain⟨g1,v,g2,g3⟩:=g;obtain⟨o1,o2⟩:=o;subst g1;subst g2;refine .cond (fun _=> ?_) fun c=>by simp at c
  have e:wrap .i64 ((k:Int)+1)=((k+1:Nat):Int):=by rw[Ae (by omega)];rfl
  have hw:∀(x0 x1 x2 x3 x4 x5 x6 x7 x8:Int) (x9:Rw),(M [I x0,I x1,I x2,I x3,I x4,I x5,I x6,I x7,I x8, .view Aa x9, .view Aa v]).isSome=true:=fun x0 x1 x2 x3 x4 x5 x6 x7 x8 x9=>hM x0 x1 x2 x3 x4 x5 x6 x7 x8 x9 v (by omega);refine .cond (fun _=> ?_) fun c0=> .cond (fun _=> ?_) fun c1=> .cond (fun _=> ?_) fun c2=> ?_
  ·refine .ibind (hw _ _ _ _ _ _ _ _ _ _) fun _ _=> .cond (fun _=> .some (.inr ⟨by simp, .inl rfl⟩)) fun _=> .some (.inl ⟨rfl,k+1,?_,by omega,by omega⟩);simp only[gA,wA,bA,jA,nth,Af,Ce,e]
  ·refine .ibind (hw _ _ _ _ _ _ _ _ _ _) fun _ _=> .cond (fun _=> .some (.inr ⟨by simp, .inl rfl⟩)) fun _=> .some (.inl ⟨rfl,k+1,?_,by omega,by omega⟩);simp only[gA,wA,bA,jA,nth,Af,Ce,e]
  ·refine .ibind (hw _ _ _ _ _ _ _ _ _ _) fun _ _=> .cond (fun _=> .some (.inr ⟨by simp, .inl rfl⟩)) fun _=> .some (.inl ⟨rfl,k+1,?_,by omega,by omega⟩);simp only[gA,wA,bA,jA,nth,Af,Ce,e]
  ·have c0:=Bj c0;have c1:=Bj c1;have c2:=Bj c2
   simp[gA,wA,bA,jA,nth,Af]at c0 c1 c2;omega
 ·exact .some (.inr ⟨by simp, .inr rfl⟩)
theorem Zf5 (x:Ax3) {l:Rw} (h1:l.length<=100000):(Mv (AO x++[.view kPt l])).isSome=true:=Zft Q9v x h1
theorem Qyn (u:Int):(ID [I u]).isSome=true:=by
 show(Ym [I u]).isSome=true;rw[Zwv];exact BR (fun _=>rfl) fun _=>rfl
end Go.Bm
namespace Go.Bm
structure Fix (p : Pth) (x : Ax3) (t : Trk) : Prop where
 p:GoodPath p
 x:Ax3M x
 t:TH t
theorem X_ {p:Pth} {x:Ax3} {t:Trk} (h:Fix p x t) (u:Int):FD (pxt p x t [I u])=some (ptR (Jl p x t u)):=Q96 h.p h.x h.t u
theorem Zi0 {MA MM MU:Fn} {p:Pth} {x:Ax3} {t:Trk} (hA:∀{l:Rw},l.length<=100000->(MA (AO x++[.view kPt l])).isSome=true) (hM:∀u,(MM (pxt p x t [I u])).isSome=true) (hU:∀u,(MU [I u]).isSome=true) {way:Rw} (hw:way.length<=100000):
  (Qi8 MA MM MU (An (VP MA MM MU)) (pxt p x t [.view Aa way])).isSome=true:=by
 rw[Zvr];refine Out.is (p:=fun _=>True) ?_;refine .bind (p:=fun o=>o.1=1\/o.1=2) ?_ fun o g=>by rcases g with g|g<;>rw[g]<;>exact .some trivial
 refine C9 (fun s:Rw×Nat=> .view kPt s.1:: .view Aa way::I (way.length:Int)::I (s.2:Int)::pxt p x t []) (fun s=>s.1.length<=4/\s.2<=way.length) (fun s=>way.length-s.2) _ ?_ ([],0) (by simp);rintro⟨v,i⟩ ⟨g1,g2⟩;dsimp only at g1 g2;rw[Q90];try dsimp only[g_s_planner_smooth_3_1]
 rw[Ae (x:=(i:Int)+1) (by omega)];refine .cond (fun c=> ?_) (fun c=> ?_)
 ·have c:=Bg c;refine .cond (fun _=> ?_) fun c=>by simp at c;omega
  refine .ibind (hU _) fun a _=> .ibind (hM _) fun b _=> ?_;refine .cond (fun _=> ?_) fun c=>by rw[Cw (by simp;omega)]at c;cases c
  generalize [jA b 0,jA b 1,jA b 2]=q;refine .cond (fun _=> ?_) fun c4=> ?_
  ·refine .cond (fun _=> ?_) fun c=>by simp at c;omega
   refine .cond (fun _=> ?_) fun c=>by rw[Cw (by simp)]at c;cases c
   refine .ibind (hA (l:=List.drop (Int.toNat 1) (v++[q])) (by simp;omega)) fun _ _=> .cond (fun _=> .some (.inr ⟨by simp, .inl rfl⟩)) fun _=> ?_;exact .some (.inl ⟨rfl,(_,i+1),rfl,by simp;omega,by simp;omega⟩)
  ·have c4:=Bj c4;simp at c4;refine .ibind (hA (l:=v++[q]) (by simp;omega)) fun _ _=> .cond (fun _=> .some (.inr ⟨by simp, .inl rfl⟩)) fun _=> ?_;exact .some (.inl ⟨rfl,(_,i+1),rfl,by simp;omega,by simp;omega⟩)
 ·exact .some (.inr ⟨by simp, .inr rfl⟩)
theorem Qtf {p:Pth} {x:Ax3} {t:Trk} (h:Fix p x t) {way:Rw} (hw:way.length<=100000):(Ov (pxt p x t [.view Aa way])).isSome=true:=
 Zi0 (Zf5 x) (fun u=>by rw[X_ h u];rfl) Qyn hw
theorem Zs3 (x0 x1:Int) (b0 b1 b2:Bool) (x5 x6 x7 x8 x9 x10 x11 x12 x13 x14:Int):(PF [I x0,I x1,B b0,B b1,B b2,I x5,I x6,I x7,I x8,I x9,I x10,I x11,I x12,I x13,I x14]).isSome=true:=by
 show(Qgj [I x0,I x1,B b0,B b1,B b2,I x5,I x6,I x7,I x8,I x9,I x10,I x11,I x12,I x13,I x14]).isSome=true;rw[Zad]
 repeat' first|exact rfl|refine BR (fun _=> ?_) (fun _=> ?_)
theorem Qjt {p:Pth} {x:Ax3} {t:Trk} (h:Fix p x t) (u:Int):i64 (AT t u):=by
 have:=Q6z h.t.q u;unfold i64;omega
end Go.Bm
namespace Go.Bm
theorem Qm9:∀(l:List Sgm) (s:Int),l≠[]->(Bf l s).1<l.length
 |[],_,h=>absurd rfl h
 |[g],s,_=>by unfold Bf;split<;>simp
 |g::h::l,s,_=>by
  by_cases c:s<g.len
  ·rw[Bf,if_pos c];simp
  ·rw[Q2c c];have:=Qm9 (h::l) (s-g.len) (by simp);simp at this⊢;omega
theorem Zcz {p:Pth} {x:Ax3} {t:Trk} (h:Fix p x t) {s:Int} (hs:i64 s):∃i v:Int,Ez (Br p++[I s])=some [I i,I v]/\(i= -1\/0<=i/\i<p.aF.length)/\(p.aF≠[]->0<=i):=by
 rw[Un (h.p.ok) hs];by_cases c:p.aF=[]
 ·rw[if_pos c];exact⟨-1,0,rfl, .inl rfl,fun h=>absurd c h⟩
 ·rw[if_neg c];have:=Qm9 p.aF (max s 0) c;exact⟨_,_,rfl, .inr ⟨by omega,by omega⟩,fun _=>by omega⟩
theorem Za0 {MO MF MP MU:Fn} {p:Pth} {t:Trk} (hO:∀(x0 x1:Int) (b0 b1 b2:Bool) (x5 x6 x7 x8 x9 x10 x11 x12 x13 x14:Int),(MO [I x0,I x1,B b0,B b1,B b2,I x5,I x6,I x7,I x8,I x9,I x10,I x11,I x12,I x13,I x14]).isSome=true)
  (hF:∀s,i64 s->∃i v:Int,MF (Br p++[I s])=some [I i,I v]/\(i= -1\/0<=i/\i<p.aF.length)/\(p.aF≠[]->0<=i)) (hP:∀u,∃s,MP (Bq t++[I u])=some [I s]/\i64 s) (hU:∀u,(MU [I u]).isSome=true) (hne:p.aF≠[])
  (a b c o0 o1:Int) (b0 b1 b2:Bool) (u:Int):
  (Qjk MO MF MP MU (ES p t [I a,I b,I c,I o0,I o1,B b0,B b1,B b2,I u])).isSome=true:=by
 rw[Zbw];refine Fh (hU _) fun q _=> ?_;obtain⟨s,h1,h2⟩:=hP (gA q 0);rw[h1];simp only[Option.bind_some];obtain⟨i,v,g1,g2,g3⟩:=hF s h2;simp only[gA,wA,bA,jA,nth,Af];rw[g1];simp only[Option.bind_some,gA,wA,bA,jA,nth,Af];have g3:=g3 hne;refine BR (fun _=>Fh (hO _ _ _ _ _ _ _ _ _ _ _ _ _ _ _) fun _ _=>rfl) fun c=> ?_;simp at c;have:=c (decide_eq_true g3);omega
theorem Zup {p:Pth} {x:Ax3} {t:Trk} (h:Fix p x t) (hne:p.aF≠[]) (a b c o0 o1:Int) (b0 b1 b2:Bool) (u:Int):
  (Of (ES p t [I a,I b,I c,I o0,I o1,B b0,B b1,B b2,I u])).isSome=true:=
 Za0 Zs3 (fun _ hs=>Zcz h hs) (fun u=>⟨_,QG h.t.q u,Qjt h u⟩) Qyn hne a b c o0 o1 b0 b1 b2 u
theorem Zk5 {MT MF:Fn} {p:Pth} {t:Trk} {a b c o0 o1:Int} {b0 b1 b2:Bool} (hT:p.aF≠[]->∀u,(MT (ES p t [I a,I b,I c,I o0,I o1,B b0,B b1,B b2,I u])).isSome=true)
  (hF:∀a b c x3 x4 x5 x6 x7 x8,Out (fun o=>(wA o 0).length<=4096) (MF [I a,I b,I c,I x3,I x4,I x5,I x6,I x7,I x8])) (m0 m1 m2 m3 m4 m5:Int):
  (WA MT MF (An (Qis MT MF)) (ES p t [I a,I b,I c,I o0,I o1,B b0,B b1,B b2,I m0,I m1,I m2,I m3,I m4,I m5])).isSome=true:=by
 rw[Q7v];obtain⟨o,h1,h2⟩:=hF a b c m0 m1 m2 m3 m4 m5;rw[h1];simp only[Option.bind_some];generalize wA o 0=sp at*;refine BR (fun _=>rfl) fun _=>BR (fun _=>rfl) fun c0=> ?_;have hne:p.aF≠[]:=by
  intro e;rw[e]at c0;simp at c0
 have hT:=hT hne;refine Fh (hT _) fun _ _=>BR (fun _=>rfl) fun _=> ?_;refine Out.is (p:=fun _=>True) ?_;refine .bind (p:=fun o=>o.1=1\/o.1=2) ?_ fun o g=>by rcases g with g|g<;>rw[g]<;>exact .some trivial
 refine C9 (fun s:Int×Nat=>I s.1:: .view Aa sp::I (sp.length:Int)::I (s.2:Int)::ES p t [I a,I b,I c,I o0,I o1,B b0,B b1,B b2]) (fun s=>s.2<=sp.length) (fun s=>sp.length-s.2) _ ?_ (m0,0) (by simp);rintro⟨v,i⟩ g;dsimp only at g;rw[Z17];rw[Ae (x:=(i:Int)+1) (by omega)];refine .cond (fun c=> ?_) (fun c=> ?_)
 ·have c:=Bg c;refine .cond (fun _=> ?_) fun c=>by simp at c;omega
  refine .ibind (hT _) fun _ _=> .cond (fun _=> .some (.inr ⟨by simp, .inl rfl⟩)) fun _=> ?_;exact .some (.inl ⟨rfl,(_,i+1),rfl,by dsimp only;omega,by dsimp only;omega⟩)
 ·exact .some (.inr ⟨by simp, .inr rfl⟩)
theorem Zvl {p:Pth} {x:Ax3} {t:Trk} (h:Fix p x t) (a b c o0 o1:Int) (b0 b1 b2:Bool) (m0 m1 m2 m3 m4 m5:Int):
  (KW (ES p t [I a,I b,I c,I o0,I o1,B b0,B b1,B b2,I m0,I m1,I m2,I m3,I m4,I m5])).isSome=true:=
 Zk5 (fun hne u=>Zup h hne a b c o0 o1 b0 b1 b2 u) Qfe m0 m1 m2 m3 m4 m5
end Go.Bm
namespace Go.Bm
theorem Q8g {a b v u q r:Nat} (hU:v<a*4294967296+b) (hu:u<4294967296) (hq:v=q*a+r) (h:4294967296<=q\/r*4294967296+u<q*b):(v*4294967296+u)/(a*4294967296+b)<q:=by
 have hy:0<a*4294967296+b:=by omega
 rw[Nat.div_lt_iff_lt_mul hy];rcases h with h|h
 ·have h1:4294967296*(a*4294967296+b)<=q*(a*4294967296+b):=Nat.mul_le_mul_right _ h;omega
 ·have e:q*(a*4294967296+b)=q*a*4294967296+q*b:=by rw[Nat.mul_add,Nat.mul_assoc]
  rw[e];clear e;generalize q*a=p at*;generalize q*b=t at*;subst hq;rw[Nat.add_mul p r 4294967296,Nat.add_assoc];exact Nat.add_lt_add_left h _
theorem Q0f {a b v u q r:Nat} (hU:v<a*4294967296+b) (hq:v=q*a+r) (h:q*b<=r*4294967296+u):q<=(v*4294967296+u)/(a*4294967296+b):=by
 have hy:0<a*4294967296+b:=by omega
 rw[Nat.le_div_iff_mul_le hy];have e:q*(a*4294967296+b)=q*a*4294967296+q*b:=by rw[Nat.mul_add,Nat.mul_assoc]
 rw[e];generalize q*a=p at*;generalize q*b=t at*;omega
theorem Q0p {a b v u:Nat} (hU:v<a*4294967296+b) (hu:u<4294967296):(v*4294967296+u)/(a*4294967296+b)<4294967296:=by
 rw[Nat.div_lt_iff_lt_mul (by omega)];omega
theorem Q0o {q b:Nat} (hq:q<4294967296) (hb:b<4294967296):q*b<=18446744065119617025:=by
 have:=Nat.mul_le_mul (show q<=4294967295 by omega) (show b<=4294967295 by omega);omega
theorem XY {α:Type} {F G:Nat->Nat->Option α} {a b v u Q:Nat} (hQ:(v*4294967296+u)/(a*4294967296+b)=Q) (hb:b<4294967296) (ha:2147483648<=a) (ha2:a<4294967296) (hU:v<a*4294967296+b) (hu:u<4294967296) {X:α}
  (hF:∀q r:Nat,q<=4294967297->r<4294967296->F q r=if 4294967296<=q\/r*4294967296+u<q*b then(if 4294967296<=r+a then G (q-1) 0 else F (q-1) (r+a))else G q 0)
  (hG:G Q 0=some X):∀(k q r:Nat),q<=Q+k->Q<=q->v=q*a+r->r<4294967296->q<=4294967297->F q r=some X
 |k,q,r,hk,h1,h2,h3,h4=>by
  rw[hF q r h4 h3];by_cases c:4294967296<=q\/r*4294967296+u<q*b
  ·rw[if_pos c];have h5:=Q8g hU hu h2 c;rw[hQ]at h5;have e:v=(q-1)*a+(r+a):=by
    have:(q-1)*a+a=q*a:=by rw[<-Nat.succ_mul];congr 1;omega
    omega
   by_cases c2:4294967296<=r+a
   ·rw[if_pos c2];have h6:(q-1)*b<=(r+a)*4294967296+u:=by
     have:=Nat.mul_le_mul (show q-1<=4294967296 by omega) (show b<=4294967296 by omega);omega
    have h7:=Q0f hU e h6;rw[hQ]at h7;rw[show q-1=Q by omega];exact hG
   ·rw[if_neg c2]
    match k with
    |0=>omega
    |k+1=>exact XY hQ hb ha ha2 hU hu hF hG k (q-1) (r+a) (by omega) (by omega) e (by omega) (by omega)
  ·rw[if_neg c];have h7:=Q0f (u:=u) hU h2 (by omega);rw[hQ]at h7;rw[show q=Q by omega];exact hG
theorem Qud {a b v u:Nat} (hb:b<4294967296) (ha:2147483648<=a) (hU:v<a*4294967296+b) (hu:u<4294967296):(v*4294967296+u)/(a*4294967296+b)<=v/a/\v/a<=4294967297/\v=v/a*a+v%a/\v%a<a:=by
 have e:v=v/a*a+v%a:=by have:=Nat.div_add_mod v a;rw[Nat.mul_comm]at this;omega
 have hm:v%a<a:=Nat.mod_lt _ (by omega);refine⟨?_,?_,e,hm⟩
 ·rw[<-Nat.lt_succ_iff,Nat.div_lt_iff_lt_mul (by omega)];have e2:(v/a).succ*(a*4294967296+b)=(v/a*a+a)*4294967296+(v/a).succ*b:=by rw[Nat.mul_add,<-Nat.mul_assoc,Nat.succ_mul]
  rw[e2];omega
 ·rw[<-Nat.lt_succ_iff,Nat.div_lt_iff_lt_mul (by omega)];omega
theorem wr {x:Nat} (h:x<=18446744073709551615):wrap .u64 (x:Int)=x:=Hx (by omega)
theorem Zp3 {M:Fn} {y s v0:Int} {a b v u:Nat} (hb:b<4294967296) (ha:2147483648<=a) (ha2:a<4294967296) (hU:v<a*4294967296+b) (hu:u<4294967296):
  An (Ls M) [U y,U s,U a,U b,U v,U u,U v0,U ((v/a:Nat):Int),U ((v%a:Nat):Int)]=some (1,[U y,U s,U a,U b,U v,U u,U v0,U (((v*4294967296+u)/(a*4294967296+b):Nat):Int)]):=by
 obtain⟨f1,f2,f3,f4⟩:=Qud hb ha hU hu;refine XY (F:=fun q r=>An (Ls M) [U y,U s,U a,U b,U v,U u,U v0,U q,U r]) (G:=fun q _=>some (1,[U y,U s,U a,U b,U v,U u,U v0,U q])) rfl hb ha ha2 hU hu ?_ rfl (v/a) _ _ (Nat.le_add_left _ _) f1 f3 (by omega) f2;intro q r hq hr;have w1:wrap .u64 ((r:Int)+(a:Int))=((r+a:Nat):Int):=by rw[<-Int.natCast_add,wr (by omega)]
 have w3:wrap .u64 (wrap .u64 (4294967296*(r:Int))+(u:Int))=((r*4294967296+u:Nat):Int):=by rw[show(4294967296:Int)*r=((r*4294967296:Nat):Int) by omega,wr (by omega),<-Int.natCast_add,wr (by omega)]
 have w4:4294967296<=q->wrap .u64 ((q:Int)-1)=((q-1:Nat):Int):=fun h=>by rw[show(q:Int)-1=((q-1:Nat):Int) by omega,wr (by omega)]
 have hst:=Zi4 (DC:=M) y s a b v u v0 q r;rw[w1,w3]at hst;by_cases c1:4294967296<=q
 ·rw[Dx (show(q:Int)>=4294967296 by omega),w4 c1]at hst;show _=if _ then _ else _;rw[if_pos (.inl c1)];by_cases c2:4294967296<=r+a
  ·rw[Dx (show((r+a:Nat):Int)>=4294967296 by omega)]at hst;rw[if_pos c2];exact A_ hst (by simp)
  ·rw[AZ (show¬((r+a:Nat):Int)>=4294967296 by omega)]at hst;rw[if_neg c2];exact Bt hst
 ·have hqb:=Q0o (q:=q) (b:=b) (by omega) hb;rw[AZ (show¬(q:Int)>=4294967296 by omega),<-Int.natCast_mul,wr (Nat.le_trans hqb (by decide))]at hst;show _=if _ then _ else _;by_cases c3:r*4294967296+u<q*b
  ·rw[Dx (show((q*b:Nat):Int)>((r*4294967296+u:Nat):Int) by omega)]at hst;rw[if_pos (.inr c3)];have hq0:0<q:=by
    rcases Nat.eq_zero_or_pos q with h|h
    ·rw[h]at c3;omega
    ·exact h
   rw[show(q:Int)-1=((q-1:Nat):Int) by omega,wr (by omega)]at hst;by_cases c2:4294967296<=r+a
   ·rw[Dx (show((r+a:Nat):Int)>=4294967296 by omega)]at hst;rw[if_pos c2];exact A_ hst (by simp)
   ·rw[AZ (show¬((r+a:Nat):Int)>=4294967296 by omega)]at hst;rw[if_neg c2];exact Bt hst
  ·rw[AZ (show¬((q*b:Nat):Int)>((r*4294967296+u:Nat):Int) by omega)]at hst;rw[if_neg (fun h=>h.elim c1 c3)];exact A_ hst (by simp)
theorem Zs1 {M:Fn} {N:Lp} {y s q1 w:Int} {a b v u:Nat} (hb:b<4294967296) (ha:2147483648<=a) (ha2:a<4294967296) (hU:v<a*4294967296+b) (hu:u<4294967296):
  An (P2 M N) [U y,U s,U a,U b,U u,U q1,U ((v%a:Nat):Int),U w,U ((v/a:Nat):Int)]=some (1,[U y,U s,U u,U q1,U w,U (((v*4294967296+u)/(a*4294967296+b):Nat):Int)]):=by
 obtain⟨f1,f2,f3,f4⟩:=Qud hb ha hU hu;refine XY (F:=fun q r=>An (P2 M N) [U y,U s,U a,U b,U u,U q1,U r,U w,U q]) (G:=fun q _=>some (1,[U y,U s,U u,U q1,U w,U q])) rfl hb ha ha2 hU hu ?_ rfl (v/a) _ _ (Nat.le_add_left _ _) f1 f3 (by omega) f2;intro q r hq hr;have w1:wrap .u64 ((r:Int)+(a:Int))=((r+a:Nat):Int):=by rw[<-Int.natCast_add,wr (by omega)]
 have w3:wrap .u64 (wrap .u64 (4294967296*(r:Int))+(u:Int))=((r*4294967296+u:Nat):Int):=by rw[show(4294967296:Int)*r=((r*4294967296:Nat):Int) by omega,wr (by omega),<-Int.natCast_add,wr (by omega)]
 have w4:4294967296<=q->wrap .u64 ((q:Int)-1)=((q-1:Nat):Int):=fun h=>by rw[show(q:Int)-1=((q-1:Nat):Int) by omega,wr (by omega)]
 have hst:=Zpz (DC:=M) (N17:=N) y s a b u q1 r w q;rw[w1,w3]at hst;by_cases c1:4294967296<=q
 ·rw[Dx (show(q:Int)>=4294967296 by omega),w4 c1]at hst;show _=if _ then _ else _;rw[if_pos (.inl c1)];by_cases c2:4294967296<=r+a
  ·rw[Dx (show((r+a:Nat):Int)>=4294967296 by omega)]at hst;rw[if_pos c2];exact A_ hst (by simp)
  ·rw[AZ (show¬((r+a:Nat):Int)>=4294967296 by omega)]at hst;rw[if_neg c2];exact Bt hst
 ·have hqb:=Q0o (q:=q) (b:=b) (by omega) hb;rw[AZ (show¬(q:Int)>=4294967296 by omega),<-Int.natCast_mul,wr (Nat.le_trans hqb (by decide))]at hst;show _=if _ then _ else _;by_cases c3:r*4294967296+u<q*b
  ·rw[Dx (show((q*b:Nat):Int)>((r*4294967296+u:Nat):Int) by omega)]at hst;rw[if_pos (.inr c3)];have hq0:0<q:=by
    rcases Nat.eq_zero_or_pos q with h|h
    ·rw[h]at c3;omega
    ·exact h
   rw[show(q:Int)-1=((q-1:Nat):Int) by omega,wr (by omega)]at hst;by_cases c2:4294967296<=r+a
   ·rw[Dx (show((r+a:Nat):Int)>=4294967296 by omega)]at hst;rw[if_pos c2];exact A_ hst (by simp)
   ·rw[AZ (show¬((r+a:Nat):Int)>=4294967296 by omega)]at hst;rw[if_neg c2];exact Bt hst
  ·rw[AZ (show¬((q*b:Nat):Int)>((r*4294967296+u:Nat):Int) by omega)]at hst;rw[if_neg (fun h=>h.elim c1 c3)];exact A_ hst (by simp)
theorem Qyl {s:Nat} (hs:s<=63):(2:Int)^min (Int.toNat (s:Int)) IntKind.u64.bits=((2^s:Nat):Int):=by
 have e:min (Int.toNat (s:Int)) IntKind.u64.bits=s:=by
  show min (Int.toNat (s:Int)) 64=s;omega
 rw[e];simp
theorem Zmc {s:Nat} (hs:s<=63):(2:Int)^min (Int.toNat ((64-s:Nat):Int)) IntKind.u64.bits=((2^(64-s):Nat):Int):=by
 have e:min (Int.toNat ((64-s:Nat):Int)) IntKind.u64.bits=64-s:=by
  show min (Int.toNat ((64-s:Nat):Int)) 64=64-s;omega
 rw[e];simp
theorem Qwj (x y:Nat):((x:Int)).fdiv (y:Int)=((x/y:Nat):Int):=by
 rw[Int.fdiv_eq_ediv_of_nonneg _ (by omega)];rfl
theorem Vl (x y:Nat):((x:Int)).tdiv (y:Int)=((x/y:Nat):Int):=by
 rw[Int.tdiv_eq_ediv_of_nonneg (by omega)];rfl
theorem orP {A B s:Nat} (hB:B<2^s) (h:A*2^s+B<w64):wrap .u64 (((BitVec.ofInt IntKind.u64.bits ((A*2^s:Nat):Int)|||BitVec.ofInt IntKind.u64.bits (B:Int)).toNat:Nat):Int)=((A*2^s+B:Nat):Int):=by
 rw[BJ]at h;have e:(BitVec.ofInt IntKind.u64.bits ((A*2^s:Nat):Int)|||BitVec.ofInt IntKind.u64.bits (B:Int)).toNat=A*2^s+B:=by
  rw[BitVec.toNat_or];have e1:∀v:Nat,v<18446744073709551616->(BitVec.ofInt IntKind.u64.bits (v:Int)).toNat=v:=by
   intro v hv;simp only[IntKind.bits,BitVec.toNat_ofInt];omega
  have:=(Nat.two_pow_add_eq_or_of_lt hB A).symm;rw[Nat.mul_comm]at this;generalize A*2^s=X at*;rw[e1 _ (by omega),e1 _ (by omega)];exact this
 rw[e,wr (by omega)]
theorem Qtv {v u q1 y:Nat} (hy:y<w64) (hq:q1=(v*4294967296+u)/y) (hy0:0<y):wrap .u64 (wrap .u64 (wrap .u64 ((v:Int)*4294967296)+(u:Int))-wrap .u64 ((q1:Int)*(y:Int)))=(((v*4294967296+u)%y:Nat):Int):=by
 have h1:=Nat.div_add_mod (v*4294967296+u) y;have h2:=Nat.mod_lt (v*4294967296+u) hy0;rw[<-hq,Nat.mul_comm]at h1;rw[BJ]at hy;rw[NK,NK,NK,NK,<-Int.natCast_mul];generalize q1*y=p at*;generalize(v*4294967296+u)%y=r at*;omega
theorem Q24 {v a:Nat} (ha:0<a) (hv:v<w64):wrap .u64 ((v:Int)-wrap .u64 (wrap .u64 ((v/a:Nat):Int)*(a:Int)))=((v%a:Nat):Int):=by
 have h1:=Nat.div_add_mod v a;have h2:=Nat.mod_lt v ha;have h3:=Nat.div_le_self v a;rw[BJ]at hv;rw[wr (x:=v/a) (by omega),<-Int.natCast_mul];rw[Nat.mul_comm]at h1;generalize v/a*a=p at*;generalize v%a=r at*;rw[wr (x:=p) (by omega),show(v:Int)-(p:Int)=(r:Int) by omega,wr (by omega)]
theorem Zmk {v u1 u0 Y:Nat} (hY:0<Y):(v*w64+(u1*4294967296+u0))/Y=(v*4294967296+u1)/Y*4294967296+((v*4294967296+u1)%Y*4294967296+u0)/Y/\
  (v*w64+(u1*4294967296+u0))%Y=((v*4294967296+u1)%Y*4294967296+u0)%Y:=by
 have e:v*w64+(u1*4294967296+u0)=((v*4294967296+u1)%Y*4294967296+u0)+(v*4294967296+u1)/Y*4294967296*Y:=by
  have h:=Nat.div_add_mod (v*4294967296+u1) Y;rw[Nat.mul_comm]at h;rw[BJ];generalize(v*4294967296+u1)%Y=r at*;have e2:(v*4294967296+u1)/Y*4294967296*Y=(v*4294967296+u1)/Y*Y*4294967296:=by rw[Nat.mul_assoc,Nat.mul_comm 4294967296,<-Nat.mul_assoc]
  rw[e2];generalize(v*4294967296+u1)/Y*Y=p at*;omega
 rw[e,Nat.add_mul_div_right _ _ hY,Nat.add_mul_mod_self_right];exact⟨Nat.add_comm _ _,rfl⟩
theorem Zou {M:Fn} {hi lo y s:Nat} (h0:0<hi) (h1:hi<y) (hyw:y<w64) (hlo:lo<w64) (hs:s<=63) (h2:9223372036854775808<=y*2^s) (h3:y*2^s<w64) (hM:M [U y]=some [I s]):
  VM M (An (Ls M)) (An (P2 M (An (Ls M)))) [U hi,U lo,U y]=some [U (((hi*w64+lo)/y:Nat):Int),U (((hi*w64+lo)%y:Nat):Int)]:=by
 have hP:0<2^s:=Nat.two_pow_pos _;have hPT:2^s*2^(64-s)=w64:=by rw[BJ,<-Nat.pow_add,show s+(64-s)=64 by omega]
 have hT:0<2^(64-s):=Nat.two_pow_pos _;have es:wrap .u64 (s:Int)=s:=wr (by omega);have et:wrap .u64 (64-(s:Int))=((64-s:Nat):Int):=by rw[show(64:Int)-s=((64-s:Nat):Int) by omega,wr (by omega)]
 have hB:lo/2^(64-s)<2^s:=by rw[Nat.div_lt_iff_lt_mul hT,hPT];exact hlo
 have hv:hi*2^s+lo/2^(64-s)<y*2^s:=by
  have:hi*2^s+2^s<=y*2^s:=by rw[<-Nat.succ_mul];exact Nat.mul_le_mul_right _ h1
  omega
 have hN:(hi*w64+lo)*2^s=(hi*2^s+lo/2^(64-s))*w64+lo*2^s%w64:=by
  have e1:lo*2^s/w64=lo/2^(64-s):=by
   rw[<-hPT,Nat.mul_comm lo,Nat.mul_div_mul_left _ _ hP]
  have e2:=Nat.div_add_mod (lo*2^s) w64;rw[e1]at e2;rw[Nat.add_mul,Nat.add_mul,Nat.add_assoc,Nat.mul_comm (lo/2^(64-s)),e2];congr 1;rw[Nat.mul_assoc,Nat.mul_comm w64,Nat.mul_assoc]
 have hU:lo*2^s%w64<w64:=Nat.mod_lt _ PH;have ey:wrap .u64 ((y:Int)*((2^s:Nat):Int))=((y*2^s:Nat):Int):=by rw[<-Int.natCast_mul,wr (Nat.le_of_lt_succ (by rw[BJ]at h3;exact h3))]
 have eh:wrap .u64 ((hi:Int)*((2^s:Nat):Int))=((hi*2^s:Nat):Int):=by
  rw[<-Int.natCast_mul,wr (Nat.le_of_lt_succ (by have:=Nat.mul_lt_mul_of_pos_right h1 hP;rw[BJ]at h3;exact Nat.lt_trans this h3))]
 have el:wrap .u64 ((lo:Int)*((2^s:Nat):Int))=((lo*2^s%w64:Nat):Int):=by
  rw[<-Int.natCast_mul,NK,BJ];rfl
 have eo:=orP (A:=hi) (B:=lo/2^(64-s)) (s:=s) hB (by omega);have hq:(hi*w64+lo)/y=(hi*w64+lo)*2^s/(y*2^s):=(Nat.mul_div_mul_right _ _ hP).symm;have hr:(hi*w64+lo)%y=(hi*w64+lo)*2^s%(y*2^s)/2^s:=by rw[Nat.mul_mod_mul_right,Nat.mul_div_cancel _ hP]
 rw[hq,hr,hN];rw[Qpn];simp only[hM,Option.bind_some,HC,LA,LU,O8,Qd,Sx,Vi,Ue,Hl,gA,jA,wA,bA,es,et,Qyl hs,Zmc hs,ey,eh,el,Qwj,eo];rw[Bn (by simp;omega),AZ (show¬(y:Int)<=hi by omega),Bn (by simp;omega),AZ (show¬(s:Int)<0 by omega),AZ (show¬(s:Int)<0 by omega),AZ (show¬((64-s:Nat):Int)<0 by omega),AZ (show¬(s:Int)<0 by omega)];rw[Q5v,Q2w _ h3,Q5v,Q2w _ hU];have hY:y*2^s=y*2^s/4294967296*4294967296+y*2^s%4294967296:=by omega
 have hW:lo*2^s%w64=lo*2^s%w64/4294967296*4294967296+lo*2^s%w64%4294967296:=by omega
 have hb:y*2^s%4294967296<4294967296:=Nat.mod_lt _ (by omega);have hu0:lo*2^s%w64%4294967296<4294967296:=Nat.mod_lt _ (by omega);have hu1:lo*2^s%w64/4294967296<4294967296:=by rw[BJ]at hU⊢;omega
 have ha:2147483648<=y*2^s/4294967296:=by omega
 have ha2:y*2^s/4294967296<4294967296:=by rw[BJ]at h3;omega
 clear hN hq hr eh el eo ey hB;generalize hi*2^s+lo/2^(64-s)=v at*;generalize lo*2^s%w64=w at*;generalize y*2^s=Y at*;generalize w/4294967296=u1 at*;generalize w%4294967296=u0 at*;generalize Y/4294967296=a at*;generalize Y%4294967296=b at*;subst hW;rw[AZ (show¬(a:Int)=0 by omega),Vl,Q24 (by omega) (Nat.lt_trans hv h3),wr (x:=v/a) (by have:=Nat.div_le_self v a;rw[BJ]at h3;omega)];have hl:=Zp3 (M:=M) (y:=(Y:Int)) (s:=s) (v0:=u0) hb ha ha2 (by rw[<-hY];exact hv) hu1;rw[hl];rw[<-hY];have hY0:0<Y:=by omega
 have hr1:=Qtv (v:=v) (u:=u1) (y:=Y) h3 rfl hY0;have hq1:(v*4294967296+u1)/Y<4294967296:=by rw[hY];exact Q0p (by rw[<-hY];exact hv) hu1
 have hm1:=Nat.mod_lt (v*4294967296+u1) hY0;obtain⟨k1,k2⟩:=Zmk (v:=v) (u1:=u1) (u0:=u0) hY0;rw[k1,k2];clear hl k1 k2;obtain⟨q1,g1⟩:∃q1,(v*4294967296+u1)/Y=q1:=⟨_,rfl⟩;obtain⟨r1,g2⟩:∃r1,(v*4294967296+u1)%Y=r1:=⟨_,rfl⟩;rw[g1]at hr1 hq1⊢;rw[g2]at hr1 hm1⊢;simp only[Option.bind_some,HC,LA,LU,O8,Qd,Sx,Vi,Ue,Hl,hr1];rw[show Nat.beq 1 1=true from rfl,cond_true,AZ (show¬(a:Int)=0 by omega),Vl,Q24 (by omega) (Nat.lt_trans hm1 h3),wr (x:=r1/a) (by have:=Nat.div_le_self r1 a;rw[BJ]at h3;omega)];have hl2:=Zs1 (M:=M) (N:=An (Ls M)) (y:=(Y:Int)) (s:=s) (q1:=q1) (w:=r1) hb ha ha2 (by rw[<-hY];exact hm1) hu0;rw[hl2];rw[<-hY];have hr0:=Qtv (v:=r1) (u:=u0) (y:=Y) h3 rfl hY0;have hq0:(r1*4294967296+u0)/Y<4294967296:=by rw[hY];exact Q0p (by rw[<-hY];exact hm1) hu0
 obtain⟨q0,g3⟩:∃q0,(r1*4294967296+u0)/Y=q0:=⟨_,rfl⟩;obtain⟨r0,g4⟩:∃r0,(r1*4294967296+u0)%Y=r0:=⟨_,rfl⟩;rw[g3]at hr0 hq0⊢;rw[g4]at hr0⊢;simp only[Option.bind_some,HC,LA,LU,O8,Qd,Sx,Hl,hr0];rw[show Nat.beq 1 1=true from rfl,cond_true,AZ (show¬(s:Int)<0 by omega),Qyl hs,Qwj];have w1:wrap .u64 (wrap .u64 ((q1:Int)*4294967296)+(q0:Int))=((q1*4294967296+q0:Nat):Int):=by
  rw[show(q1:Int)*4294967296=((q1*4294967296:Nat):Int) by omega,wr (by omega),<-Int.natCast_add,wr (by omega)]
 rw[w1]
theorem Zkf {y:Nat} (h0:0<y) (h:y<w64):∃s:Nat,H_ [U y]=some [I s]/\s<=63/\9223372036854775808<=y*2^s/\y*2^s<w64:=by
 have hw:=BJ;obtain⟨b1,b2,b3⟩:=Lib.bitLenAux_bounds 64 y (by rw[<-show w64=2^64 by rw[hw]];exact h) (by omega);have hL:Lib.bitLen y=Lib.bitLenAux 64 y:=rfl;generalize hb:Lib.bitLenAux 64 y=L at*;have hL64:L<=64:=by
  by_cases c:L<=64
  ·exact c
  ·have:=Nat.pow_le_pow_right (show 0<2 by omega) (show 64<=L-1 by omega);rw[show(2:Nat)^64=18446744073709551616 from rfl]at this;omega
 refine⟨64-L,?_,by omega,?_,?_⟩
 ·unfold H_;have e64:FF=18446744073709551616:=rfl;have hu:inU (y:Int)=true:=by
   simp only[inU,e64,Bool.and_eq_true,decide_eq_true_eq];omega
  simp only[HC,Hl,gA,jA,wA,bA,hu,cond_true,Int.toNat_natCast,hL];rw[show(64:Int)-(L:Int)=((64-L:Nat):Int) by omega]
 ·have e:2^(L-1)*2^(64-L)=9223372036854775808:=by rw[<-Nat.pow_add,show L-1+(64-L)=63 by omega]
  rw[<-e];exact Nat.mul_le_mul_right _ b2
 ·have e:2^L*2^(64-L)=w64:=by rw[<-Nat.pow_add,show L+(64-L)=64 by omega,hw]
  rw[<-e];exact Nat.mul_lt_mul_of_pos_right b3 (Nat.two_pow_pos _)
theorem Q2s {hi lo y:Nat} (h1:hi<y) (hy:y<w64) (hlo:lo<w64):GD [U hi,U lo,U y]=some [U (((hi*w64+lo)/y:Nat):Int),U (((hi*w64+lo)%y:Nat):Int)]:=by
 rcases Nat.eq_zero_or_pos hi with h|h
 ·subst h;rw[Nat.zero_mul,Nat.zero_add];exact Qxu hlo h1
 ·obtain⟨s,e,e1,e2,e3⟩:=Zkf (show 0<y by omega) hy;exact Zou h h1 hy hlo e1 e2 e3 e
end Go.Bm
namespace Go.Bm
theorem Zns {M1 M2 M3 M4 M5 M6 M7:Fn} (h1:∀x b,(M1 [U x,B b]).isSome=true) (h2:∀x y b c,(M2 [I x,I y,B b,B c]).isSome=true) (h3:∀x y,(M3 [I x,I y]).isSome=true)
  (h4:∀{hi lo y:Nat},hi<y->y<w64->lo<w64->(M4 [U hi,U lo,U y]).isSome=true) (h5:∀{x y:Nat},x<w64->y<w64->M5 [U x,U y]=some [U ((x*y/w64:Nat):Int),U ((x*y%w64:Nat):Int)])
  (h6:∀{x:Int},i64 x->M6 [I x]=some [U (x.natAbs:Int)]) (h7:∀x,(M7 [I x]).isSome=true) {a b c:Int} (ha:i64 a) (hb:i64 b) (hc:i64 c) (m:Int):
  (Tc M1 M2 M3 M4 M5 M6 M7 [I a,I b,I c,I m]).isSome=true:=by
 have hw:∀{x:Int},i64 x->x.natAbs<w64:=by
  intro x hx;unfold i64 at hx;rw[BJ];omega
 rw[Q10,h6 ha,h6 hb,h6 hc];refine BR (fun _=>rfl) fun _=>Fh (h7 _) fun _ _=>BR (fun _=>rfl) fun _=> ?_;simp only[Option.bind_some,gA,wA,bA,jA,nth,Af];rw[h5 (hw ha) (hw hb)];simp only[Option.bind_some,gA,wA,bA,jA,nth,Af];refine BR (fun _=>rfl) fun c0=> ?_;have c0:=Bj c0;have hlo:a.natAbs*b.natAbs%w64<w64:=Nat.mod_lt _ (by rw[BJ];decide);refine Fh (h4 (by omega) (hw hc) hlo) fun _ _=>Fh (h3 _ _) fun _ _=> ?_
 repeat' first|exact rfl|exact h1 _ _|exact h2 _ _ _ _|exact h3 _ _|refine BR (fun _=> ?_) (fun _=> ?_)|refine Fh ?_ fun _ _=> ?_
theorem Zop (x:Int) (b:Bool):(EY [U x,B b]).isSome=true:=by
 show(Qn4 [U x,B b]).isSome=true;rw[Va]
 repeat' first|exact rfl|refine BR (fun _=> ?_) (fun _=> ?_)
theorem Zi2 (x y:Int) (b c:Bool):(Ht [I x,I y,B b,B c]).isSome=true:=by
 show(Qld [I x,I y,B b,B c]).isSome=true;rw[Q1f]
 repeat' first|exact rfl|refine BR (fun _=> ?_) (fun _=> ?_)
theorem Z0r (x y:Int):(Fs [I x,I y]).isSome=true:=by
 show(VQ [I x,I y]).isSome=true;rw[Qpu]
 repeat' first|exact rfl|refine BR (fun _=> ?_) (fun _=> ?_)
theorem Q8k (x:Int):(Fu [I x]).isSome=true:=by
 show(Qe4 [I x]).isSome=true;rw[Quy]
 repeat' first|exact rfl|refine BR (fun _=> ?_) (fun _=> ?_)
theorem Qlk {a b c:Int} (ha:i64 a) (hb:i64 b) (hc:i64 c) (m:Int):(Bs [I a,I b,I c,I m]).isSome=true:=
 Zns Zop Zi2 Z0r (fun h1 h2 h3=>by rw[Q2s h1 h2 h3];rfl) (fun h1 h2=>Qun h1 h2) (fun h=>HY h) Q8k ha hb hc m
theorem QB (x:Int):i64 (wrap .i64 x):=Zje x
theorem Q30 {M:Fn} {l:List AC} (h:(M l).isSome=true) {f:List AC->List AC}:((M l).bind fun o=>some (f o)).isSome=true:=Fh h fun _ _=>rfl
theorem Qpg {a b:Int} (ha:i64 a) (hb:i64 b):(Po [I a,I b]).isSome=true:=by
 show(Xc Bs [I a,I b]).isSome=true;have h:=Qlk ha hb (show i64 4096 by unfold i64;omega) 0;generalize Bs=M at*;rw[Znw];exact Q30 h
theorem Q54 {a:Int} (ha:i64 a):(EZ [I a]).isSome=true:=by
 show(Se Bs [I a]).isSome=true;have h:=Qlk ha (show i64 1048576 by unfold i64;omega) (show i64 60000 by unfold i64;omega) 2;generalize Bs=M at*;rw[Qt7];exact Q30 h
theorem Q3n (a b:Int):∃v,Pr [I a,I b]=some [I v]/\i64 v:=by
 refine⟨mx (wrap .i64 (a-b)) (wrap .i64 (b-a)),?_,?_⟩
 ·show Wc [I a,I b]=_;rw[Zwc]
 ·have h1:=QB (a-b);have h2:=QB (b-a)
  unfold mx;split<;>assumption
theorem Qqo (a:Int):(Gk [I a]).isSome=true:=by
 show(Qj2 [I a]).isSome=true;rw[Zdx]
 repeat' first|exact rfl|refine BR (fun _=> ?_) (fun _=> ?_)
theorem Zaz {a b:Int} (hb:b≠0):(JB [I a,I b]).isSome=true:=by
 show(XC [I a,I b]).isSome=true;rw[Zn3];refine BR (fun c=>absurd (Bg c) hb) fun _=>BR (fun c=>absurd (Bg c) hb) fun _=>BR (fun _=>rfl) fun _=>rfl
theorem Zmg (x0 x1 x2 x3 x4:Int) {x5:Int} (h5:i64 x5):(Lk [I x0,I x1,I x2,I x3,I x4,I x5]).isSome=true:=by
 show(Qb9 EZ Gk [I x0,I x1,I x2,I x3,I x4,I x5]).isSome=true;have h:=Q54 h5;have h2:=Qqo x4;generalize EZ=M at*;generalize Gk=N at*;rw[Zxm]
 repeat' first|exact rfl|exact h|exact h2|refine BR (fun _=> ?_) (fun _=> ?_)|refine Fh ?_ fun _ _=> ?_
theorem Zyh (x0 x1 x2 x3 x4:Int) {x5:Int} (h5:i64 x5):(Mn [I x0,I x1,I x2,I x3,I x4,I x5]).isSome=true:=by
 show(TZ EZ Gk [I x0,I x1,I x2,I x3,I x4,I x5]).isSome=true;have h:=Q54 h5;have h2:=Qqo x4;generalize EZ=M at*;generalize Gk=N at*;rw[Zo4]
 repeat' first|exact rfl|exact h|exact h2|refine BR (fun _=> ?_) (fun _=> ?_)|refine Fh ?_ fun _ _=> ?_
end Go.Bm
namespace Go.Bm
end Go.Bm
namespace Go.Bm
structure Plan3 (a b c : Int) : Prop where
 a:1<=a/\a<=65536
 b:2<=b/\b<=65536
 c:1<=c/\c<=16777216
end Go.Bm
namespace Go.Bm
abbrev D7 (m0 m1 m3 m4 v:Int):List AC:=[I (wrap .i64 (m0+v)),I v,I (wrap .i64 (v-m1)),I m0,I m3,I m4]
theorem Rs (m0 m1 m2 m3 m4 m5 v:Int):Iq [I m0,I m1,I m2,I m3,I m4,I m5,I v]=some (D7 m0 m1 m3 m4 v):=by
 show Qkr [I m0,I m1,I m2,I m3,I m4,I m5,I v]=some (D7 m0 m1 m3 m4 v);rw[Zy8]
end Go.Bm
namespace Go.Bm
theorem EP (a:AC) (l:List AC):nth .dead (a::l) 0=a:=rfl
theorem H4 (a:AC) (l:List AC) (n:Nat):nth .dead (a::l) (n+1)=nth .dead l n:=rfl
theorem Gx (n:Int):Af (.int .i64 n)=n:=rfl
theorem Zgs {M:Fn} {p:Pth} {x:Ax3} {t:Trk} (hM:∀u,(M (pxt p x t [I u])).isSome=true) (ht:0<=t.length/\t.length<=900000000000000) (u1 u2:Int) (hd:u2-u1<=1000000000000):
  (Qfi M (An (Uv M)) (pxt p x t [I u1,I u2])).isSome=true:=by
 rw[Zdi];have h1:0<=mx 0 (mn u1 t.length)/\mx 0 (mn u1 t.length)<=t.length/\mx 0 (mn u2 t.length)-mx 0 (mn u1 t.length)<=1000000000000/\mx 0 (mn u2 t.length)<=t.length:=by
  unfold mx mn
  (repeat' split)<;>omega
 obtain⟨k1,k2,k3,k4⟩:=h1;generalize mx 0 (mn u1 t.length)=f at*;generalize mx 0 (mn u2 t.length)=e at*;refine Fh (hM _) fun o _=> ?_;refine Out.is (p:=fun _=>True) ?_;refine .bind (p:=fun o=>o.1=1) ?_ fun o g=>by rw[g];exact .some trivial
 show Out _ (An _ (.view kPt []::I e::I f::pxt p x t [I (gA o 0),I (gA o 1),I (gA o 2)]));generalize gA o 0=w0;generalize gA o 1=w1;generalize gA o 2=w2;refine C9 (fun s:Rw×Int×Int×Int×Int=> .view kPt s.1::I e::I s.2.1::pxt p x t [I s.2.2.1,I s.2.2.2.1,I s.2.2.2.2]) (fun s=>f<=s.2.1/\s.2.1<=t.length/\(s.1.length:Int)<=3*(s.2.1-f)) (fun s=>(e-s.2.1).toNat) _ ?_ ([],f,w0,w1,w2) (by simp;omega);rintro⟨v,u,a0,a1,a2⟩ ⟨q1,q2,q3⟩;dsimp only at*;rw[Zxc];try dsimp only[Nj]
 rw[Ae (x:=u+1) (by omega)];refine .cond (fun c=> ?_) (fun _=> .some (.inr ⟨by simp,rfl⟩));have c:=Bg c;refine .ibind (hM _) fun o _=> ?_
 repeat' first
  |(refine .cond (fun _=> ?_) fun c=>by rw[Cw (by simp;omega)]at c;cases c)
  |refine .cond (fun _=> ?_) (fun _=> ?_)
 all_goals refine Out.some (Or.inl ⟨rfl,(_,u+1,_,_,_),rfl,by simp;omega,by show(e-(u+1)).toNat<(e-u).toNat;omega⟩)
theorem Zoq {p:Pth} {x:Ax3} {t:Trk} (h:Fix p x t) (u1 u2:Int) (hd:u2-u1<=1000000000000):(Kv (pxt p x t [I u1,I u2])).isSome=true:=
 Zgs (fun u=>by rw[X_ h u];rfl) h.t.q.len u1 u2 hd
end Go.Bm
namespace Go.Bm
def BK (k b:Int):Int:=if b<=0 then 0 else(b-1)/k*b-k*((b-1)/k*((b-1)/k+1)/2)
def Cq (j k v a:Int):Prop:= -j<=a/\a<=j/\BK k (-a)<=v/\v<=16777216-BK k a/\(v=0->a<=k)
instance (j k v a:Int):Decidable (Cq j k v a):=by unfold Cq;infer_instance
theorem Q0s {k b:Int} (hk:2<=k/\k<=65536) (hb:0<b/\b<=1048576):
  0<=(b-1)/k/\(b-1)/k<=524288/\k*((b-1)/k)<=b-1/\0<=(b-1)/k*b/\(b-1)/k*b<=549755813888/\0<=(b-1)/k*((b-1)/k+1)/\(b-1)/k*((b-1)/k+1)<=274878431232:=by
 have h0:0<=(b-1)/k:=Int.ediv_nonneg (by omega) (by omega);have h1:k*((b-1)/k)<=b-1:=Int.mul_ediv_self_le (by omega);have h2:2*((b-1)/k)<=k*((b-1)/k):=Int.mul_le_mul_of_nonneg_right hk.1 h0;have h3:(b-1)/k<=524288:=by omega
 have h4:(b-1)/k*b<=524288*1048576:=Int.mul_le_mul h3 hb.2 (by omega) (by omega);have h5:(b-1)/k*((b-1)/k+1)<=524288*524289:=Int.mul_le_mul h3 (by omega) (by omega) (by omega);exact⟨h0,h3,h1,Int.mul_nonneg h0 (by omega),by omega,Int.mul_nonneg h0 (by omega),by omega⟩
theorem IT {k b:Int} (h:b<=0):BK k b=0:=by simp[BK,h]
theorem Quc {k b:Int} (h:b<=k):BK k b=0:=by
 unfold BK;split
 ·rfl
 ·rw[Int.ediv_eq_zero_of_lt (by omega) (by omega)];simp
theorem Q7t (m:Int):m*(m+1)/2=(m-1)*m/2+m:=by
 have:m*(m+1)=(m-1)*m+m*2:=by
  rw[Int.sub_mul,Int.mul_add,Int.mul_one,Int.one_mul];omega
 rw[this,Int.add_mul_ediv_right _ _ (by omega)]
theorem Xn {k b:Int} (hk:0<k) (h:k<b):BK k b=(b-k)+BK k (b-k):=by
 have e1:(b-1)/k=(b-k-1)/k+1:=by
  have:b-1=(b-k-1)+k*1:=by omega
  rw[this,Int.add_mul_ediv_left _ _ (by omega)]
 unfold BK;rw[if_neg (by omega),if_neg (by omega),e1];generalize(b-k-1)/k=m;rw[Q7t (m+1)];have e2:m+1-1=m:=by omega
 rw[e2,Int.mul_add k,Int.add_mul m 1 b,Int.mul_sub m b k,Int.mul_add k m 1,Int.mul_comm k m];omega
theorem Qzp {k:Int} (hk:0<k):∀(n:Nat) (b:Int),b<=n->0<=BK k b
 |0,b,h=>by rw[IT (by omega)];omega
 |n+1,b,h=>by
  by_cases hb:b<=k
  ·rw[Quc hb];omega
  ·rw[Xn hk (by omega)];have:=Qzp hk n (b-k) (by omega);omega
theorem JS {k b:Int} (hk:0<k):0<=BK k b:=Qzp hk b.toNat b (by omega)
theorem Qw9 {k b:Int} (hk:2<=k/\k<=65536) (hb:b<=1048576):BK k b<=549755813888:=by
 unfold BK;split
 ·omega
 ·have p:=Q0s (k:=k) (b:=b) hk ⟨by omega,hb⟩;generalize(b-1)/k=m at p⊢;obtain⟨p1,p2,p3,p4,p5,p6,p7⟩:=p;have q1:0<=k*(m*(m+1)/2):=Int.mul_nonneg (by omega) (by omega);omega
def bs (k v:Int):Nat->Int->Int->Int
 |0,low,_=>low
 |n+1,low,high=>if low<high then
   if BK k (high-(high-low)/2)<=v-(high-(high-low)/2)then bs k v n (high-(high-low)/2) high else bs k v n low (high-(high-low)/2-1)
  else low
def AD (j k v a:Int):Int:= -(bs k v 20 (-a-k) (min (k-a) j))
theorem Qhw (k v:Int):∀(n:Nat) (low high:Int),low<=bs k v n low high/\bs k v n low high<=max low high
 |0,low,high=>by simp only[bs];omega
 |n+1,low,high=>by
  unfold bs;split
  ·split
   ·have:=Qhw k v n (high-(high-low)/2) high;omega
   ·have:=Qhw k v n low (high-(high-low)/2-1);omega
  ·omega
theorem TT (k v:Int):∀(n:Nat) (low high:Int),low<=high->high-low<2^n->BK k low<=v-low->
  BK k (bs k v n low high)<=v-bs k v n low high/\low<=bs k v n low high/\bs k v n low high<=high/\(bs k v n low high=high\/v-(bs k v n low high+1)<BK k (bs k v n low high+1))
 |0,low,high,h1,h2,h3=>by
  simp only[bs];have:high-low<1:=by simpa using h2
  exact⟨h3,by omega,h1, .inl (by omega)⟩
 |n+1,low,high,h1,h2,h3=>by
  have hp:(2:Int)^(n+1)=2*2^n:=by rw[Int.pow_succ];omega
  unfold bs;by_cases hlt:low<high
  ·rw[if_pos hlt];by_cases hc:BK k (high-(high-low)/2)<=v-(high-(high-low)/2)
   ·rw[if_pos hc];obtain⟨a,b,c,d⟩:=TT k v n (high-(high-low)/2) high (by omega) (by omega) hc;exact⟨a,by omega,c,d⟩
   ·rw[if_neg hc];obtain⟨a,b,c,d⟩:=TT k v n low (high-(high-low)/2-1) (by omega) (by omega) h3;refine⟨a,b,by omega, .inr ?_⟩;rcases d with d|d
    ·have e:bs k v n low (high-(high-low)/2-1)+1=high-(high-low)/2:=by omega
     rw[e];omega
    ·exact d
  ·rw[if_neg hlt];exact⟨h3,by omega,h1, .inl (by omega)⟩
theorem Qnq {j k r v a:Int} (hp:Plan3 j k r) (hr:Cq j k v a) {B:Int} (hB:B=bs k v 20 (-a-k) (min (k-a) j)):
  BK k B<=v-B/\ -a-k<=B/\B<=k-a/\B<=j/\(B=min (k-a) j\/v-(B+1)<BK k (B+1))/\0<=v:=by
 obtain⟨⟨p1,p2⟩,⟨p3,p4⟩,p5,p6⟩:=hp;obtain⟨h1,h2,h3,h4,h5⟩:=hr;have hk:0<k:=by omega
 have l0:=JS (b:= -a) hk;have hlow:BK k (-a-k)<=v-(-a-k):=by
  by_cases hc:k< -a
  ·rw[Xn hk hc]at h3;omega
  ·rw[IT (by omega)];omega
 obtain⟨q1,q2,q3,q4⟩:=TT k v 20 (-a-k) (min (k-a) j) (by omega) (by simp;omega) hlow;rw[<-hB]at q1 q2 q3 q4;exact⟨q1,q2,by omega,by omega,q4,by omega⟩
theorem closed {j k r v a:Int} (hp:Plan3 j k r) (hr:Cq j k v a):
  Cq j k (v+AD j k v a) (AD j k v a)/\AD j k v a-a<=k/\a-AD j k v a<=k/\(0<a\/(v=0/\AD j k v a=0)\/AD j k v a<0):=by
 obtain⟨B,hB⟩:∃B,B=bs k v 20 (-a-k) (min (k-a) j):=⟨_,rfl⟩;have hb:AD j k v a= -B:=by unfold AD;rw[hB]
 obtain⟨q1,q2,q3,q4,q5,q6⟩:=Qnq hp hr hB;rw[hb];obtain⟨⟨p1,p2⟩,⟨p3,p4⟩,p5,p6⟩:=hp;obtain⟨h1,h2,h3,h4,h5⟩:=hr;have hk:0<k:=by omega
 have top:B+1<=0->B=min (k-a) j:=by
  intro h;rcases q5 with q5|q5
  ·exact q5
  ·rw[IT h]at q5;omega
 have hB0: -a<=B\/0<=B:=by
  by_cases hn:B+1<=0
  ·have:=top hn;omega
  ·right;omega
 have hneg:a<=0->0<=B:=fun ha=>by
  by_cases hn:B+1<=0
  ·have:=top hn;omega
  ·omega
 have la:=JS (b:=a) hk;have hjB: -j<=B:=by
  by_cases hn:B+1<=0
  ·have:=top hn;omega
  ·omega
 have e1: -(-B)=B:=by omega
 refine⟨⟨by omega,by omega,by rw[e1];omega,?_,?_⟩,by omega,by omega,?_⟩
 ·by_cases hn:0<=B
  ·rw[IT (b:= -B) (by omega)];omega
  ·have ht:=top (by omega);have hka:B=k-a:=by omega
   have e2: -B=a-k:=by omega
   have hs:=Xn (k:=k) (b:=a) hk (by omega);rw[e2];omega
 ·intro hv;omega
 ·by_cases ha:0<a
  ·exact .inl ha
  ·right;have hB1:=hneg (by omega);by_cases hv:v=0
   ·left;have:=JS (b:=B) hk;exact⟨hv,by omega⟩
   ·right;by_cases hz:B=0
    ·rcases q5 with q5|q5
     ·omega
     ·rw[hz,Quc (k:=k) (b:=0+1) (by omega)]at q5;omega
    ·omega
def By (j k:Int):Nat->Int->Int->List Int×Bool
 |0,v,_=>([],decide (v<=0))
 |n+1,v,a=>if v<=0 then([],true)else((v+AD j k v a)::(By j k n (v+AD j k v a) (AD j k v a)).1,(By j k n (v+AD j k v a) (AD j k v a)).2)
theorem Q3e (j k:Int):∀(n:Nat) (v a:Int),(By j k n v a).2=true->By j k (n+1) v a=By j k n v a
 |0,v,a,h=>by
  have h:v<=0:=of_decide_eq_true h;unfold By;rw[if_pos h];show([],true)=([],decide (v<=0));rw[decide_eq_true h]
 |n+1,v,a,h=>by
  unfold By at h⊢;by_cases c:v<=0
  ·rw[if_pos c,if_pos c]
  ·rw[if_neg c]at h;rw[if_neg c,if_neg c,Q3e j k n _ _ h]
theorem E3 {j k r v a:Int} (hp:Plan3 j k r) (hr:Cq j k v a): -65536<=a/\a<=65536/\0<=v/\v<=16777216:=by
 obtain⟨h1,h2,h3,h4,-⟩:=hr;have p1:=hp.a;have p2:=hp.b
 have q1:=JS (k:=k) (b:=a) (by omega);have q2:=JS (k:=k) (b:= -a) (by omega);omega
end Go.Bm
noncomputable section
namespace Go.Bm
theorem Qxw {a k c:Int} (hk:2<=k/\k<=65536) {d:Int} (hd:d<=1048576):Gq [I a,I k,I c,I d]=some [I (BK k d)]:=by
  show SW _=_;rw[Y7];by_cases h:d<=0
  · rw[BO (decide_eq_true h),IT h]
  · rw[Bn (decide_eq_false h),Bn (decide_eq_false (by omega)),Bn (decide_eq_false (by omega))]
    obtain⟨p1,p2,p3,p4,p5,p6,p7⟩:=Q0s hk (show 0<d/\d<=1048576 by omega);rw[Ae (x:=d-1) (by omega),Int.tdiv_eq_ediv_of_nonneg (show 0<=d-1 by omega)];unfold BK;rw[if_neg h];have hm:0<=k*((d-1)/k*((d-1)/k+1)/2):=Int.mul_nonneg (by omega) (by omega);have hm2:k*((d-1)/k*((d-1)/k+1)/2)<=65536*274878431232:=Int.mul_le_mul hk.2 (by omega) (by omega) (by omega);generalize hq:(d-1)/k=q at*;rw[Ae (x:=q) (by omega),Ae (x:=q*d) (by omega),Ae (x:=q+1) (by omega),Ae (x:=q*(q+1)) (by omega),Int.tdiv_eq_ediv_of_nonneg p6];generalize q*(q+1)=y at*;generalize q*d=z at*;rw[Ae (x:=y/2) (by omega),Ae (x:=k*(y/2)) (by omega),Ae (by omega)]
theorem Zaf {M:Fn} {a k c:Int} (hp:Plan3 a k c) (hM:∀{d:Int},d<=1048576->M [I a,I k,I c,I d]=some [I (BK k d)]) (v x:Int):P4 M [I a,I k,I c,I v,I x]=some [B (decide (Cq a k v x))]:=by
  have ha:=hp.a;have hk:=hp.b
  rw[Qbt,Ae (x:=0-a) (by omega)];refine eC (fun h=> ?_) fun h=> ?_
  · have h:x<0-a:=Bg h
    rw[decide_eq_false (fun q=>by have:=q.1;omega)]
  have h: ¬x<0-a:=Bj h;refine eC (fun h2=> ?_) fun h2=> ?_
  · have h2:x>a:=Bg h2
    rw[decide_eq_false (fun q=>by have:=q.2.1;omega)]
  have h2: ¬x>a:=Bj h2;have l1:=Qw9 (b:= -x) hk (by omega);have l2:=Qw9 (b:=x) hk (by omega);have l3:=JS (k:=k) (b:=x) (by omega);have fin: ¬(v=0/\x>k)->((M [I a,I k,I c,I (wrap .i64 (0-x))]).bind fun o=>bif decide (v>=gA o 0)then(M [I a,I k,I c,I x]).bind fun o2=>some [B (decide (v<=wrap .i64 (16777216-gA o2 0)))]else some [B false])=some [B (decide (Cq a k v x))]:=fun hz=>by
    rw[Ae (x:=0-x) (by omega),show(0:Int)-x= -x by omega];refine eB (hM (by omega)) (eC (fun q=> ?_) fun q=> ?_)
    · have q:v>=BK k (-x):=Bg q
      refine eB (hM (by omega)) ?_;show some [B (decide (v<=wrap .i64 (16777216-BK k x)))]=_;rw[Ae (by omega)];have e:(v<=16777216-BK k x)↔Cq a k v x:=⟨fun e=>⟨by omega,by omega,q,e,fun z=>by omega⟩,fun e=>e.2.2.2.1⟩;rw[decide_eq_decide.2 e]
    · have q: ¬v>=BK k (-x):=Bj q
      rw[decide_eq_false (fun w=>q w.2.2.1)]
  refine eC (fun h0=>eC (fun h1=> ?_) fun h1=> ?_) fun h0=> ?_
  · have h0:v=0:=eq_of_beq h0
    have h1:x>k:=Bg h1;rw[decide_eq_false (fun q=>by have:=q.2.2.2.2 h0;omega)]
  · exact fin fun w=>Bj h1 w.2
  · exact fin fun w=>by rw[beT w.1]at h0;cases h0
theorem Q9u {a k c:Int} (hp:Plan3 a k c) (v x:Int):Gc [I a,I k,I c,I v,I x]=some [B (decide (Cq a k v x))]:=Zaf hp (fun hd=>Qxw hp.b hd) v x
theorem Zjd {k v:Int}:∀(n:Nat) {low high:Int},¬low<high->bs k v n low high=low
  |0,_,_,_=>rfl
  |n+1,_,_,h=>by unfold bs;rw[if_neg h]
theorem Zey {M MV:Fn} {a k c v:Int} (hM:∀{d:Int},d<=1048576->M [I a,I k,I c,I d]=some [I (BK k d)]) (hv: -1099511627776<=v/\v<=1099511627776):∀(n:Nat) (low high:Int),high-low<2^n-> -262144<=low->high<=262144->low<=262144-> -262145<=high->
    An (Ln M MV) [I v,I low,I high,I a,I k,I c]=some (1,[I (bs k v n low high)]):=by
  have endd:∀(n:Nat) {low high:Int},¬low<high->An (Ln M MV) [I v,I low,I high,I a,I k,I c]=some (1,[I (bs k v n low high)]):=fun n low high h=>by
    rw[Zjd n h];refine A_ ?_ (by simp);rw[Qi3,Bn (decide_eq_false h)]
  intro n;induction n with
  | zero => intro low high h _ _ _ _; exact endd 0 (by have h : high - low < 1 := by simpa using h
                                                       omega)
  |succ n ih=>
    intro low high h h1 h2 h3 h4;have hp:(2:Int)^(n+1)=2*2^n:=by rw[Int.pow_succ];omega
    rw[hp]at h;by_cases cc:low<high
    · have e1:wrap .i64 (high-wrap .i64 ((wrap .i64 (high-low)).tdiv 2))=high-(high-low)/2:=by
        rw[Ae (x:=high-low) (by omega),Int.tdiv_eq_ediv_of_nonneg (show 0<=high-low by omega),Ae (x:=(high-low)/2) (by omega),Ae (by omega)]
      have e2:wrap .i64 (v-(high-(high-low)/2))=v-(high-(high-low)/2):=Ae (by omega);have e3:wrap .i64 (high-(high-low)/2-1)=high-(high-low)/2-1:=Ae (by omega);have hs:=Qi3 M MV v low high a k c;rw[BO (decide_eq_true cc),e1,e2,e3,hM (by omega)]at hs;unfold bs;rw[if_pos cc];by_cases q:BK k (high-(high-low)/2)<=v-(high-(high-low)/2)
      · rw[if_pos q]
        rw[Bt (hs.trans (eB rfl (eT (decide_eq_true (show v-(high-(high-low)/2)>=BK k (high-(high-low)/2)from q)) rfl)))];exact ih _ _ (by omega) (by omega) (by omega) (by omega) (by omega)
      · rw[if_neg q]
        rw[Bt (hs.trans (eB rfl (eF (decide_eq_false (show¬v-(high-(high-low)/2)>=BK k (high-(high-low)/2)from q)) rfl)))];exact ih _ _ (by omega) (by omega) (by omega) (by omega) (by omega)
    · exact endd (n+1) cc
theorem Zj6 {M MV:Fn} {a k c v x:Int} (hp:Plan3 a k c) (hr:Cq a k v x) (hM:∀{d:Int},d<=1048576->M [I a,I k,I c,I d]=some [I (BK k d)]) (hV:MV [I a,I k,I c]=some [B true]):
    Rp M MV (An (Ln M MV)) [I a,I k,I c,I v,I x]=some [I (AD a k v x)]:=by
  have hrg:=E3 hp hr;have ha:=hp.a;have hk:=hp.b
  rw[Qy4];have m1:mx x v=max x v:=by unfold mx;split<;>omega
  have m2:mn x v=min x v:=by unfold mn;split<;>omega
  rw[m1,m2];refine eB hV (eF rfl (eF (decide_eq_false (by omega)) (eF (decide_eq_false (by omega)) ?_)));have m3:mn (wrap .i64 (k-x)) a=min (k-x) a:=by rw[Ae (x:=k-x) (by omega)];unfold mn;split<;>omega
  rw[m3,Ae (x:=0-x) (by omega),Ae (x:=0-x-k) (by omega),show(0:Int)-x-k= -x-k by omega];refine eB (Zey (MV:=MV) hM (by omega) 20 (-x-k) (min (k-x) a) (by simp;omega) (by omega) (by omega) (by omega) (by omega)) (eT rfl ?_);have hb:=Qhw k v 20 (-x-k) (min (k-x) a);show some [I (wrap .i64 (0-bs k v 20 (-x-k) (min (k-x) a)))]=_;unfold AD;rw[Ae (by omega),Int.zero_sub]
theorem Qq4 {a k c:Int} (hp:Plan3 a k c):EL [I a,I k,I c]=some [B true]:=by
  rw[PE,decide_eq_true];exact⟨hp.a.1,hp.a.2,hp.b.1,hp.b.2,hp.c.1,hp.c.2⟩
theorem Qpy {a k c v x:Int} (hp:Plan3 a k c) (hr:Cq a k v x):E7 [I a,I k,I c,I v,I x]=some [I (AD a k v x)]:=
  Zj6 hp hr (fun hd=>Qxw hp.b hd) (Qq4 hp)
end Go.Bm
