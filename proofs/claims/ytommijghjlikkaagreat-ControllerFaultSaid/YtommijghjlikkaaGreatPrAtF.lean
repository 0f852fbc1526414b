/- laid together -/
import Derived.Test.YtommijghjlikkaaGreatPrI
import Derived.Test.YtommijghjlikkaaGreatMx2
set_option linter.unusedVariables false
set_option linter.unusedSimpArgs false
set_option maxRecDepth 100000
namespace Go.Bm
structure Made (it : Itm) : Prop where
 kind:1<=it.kind/\it.kind<=6
 line:it.kind≠3->(it.to.x-it.fr.x).natAbs<=16/\(it.to.y-it.fr.y).natAbs<=16/\(it.to.z-it.fr.z).natAbs<=16
 arc:it.kind=3->ArcMade 8 it
 feed:it.kind≠1->1<=it.feed/\it.feed<=60000000
 blend:0<=it.blend/\it.blend<=9
 sync:it.kind=5\/it.kind=6->it.blend=0/\it.feed<=60
 free:it.kind<=4->it.perRev=false
 full:it.kind≠3->it.full=false
theorem Q7g {v:Int} (h:0<=v/\v<5):∃x,Af (nth .dead (nth [] [[I 300000],[I 1],[I 60000],[I 2000000],[I 60000000]] v.toNat) 0)=x/\1<=x/\x<=60000000:=by
 have hc:v=0\/v=1\/v=2\/v=3\/v=4:=by omega
 rcases hc with rfl|rfl|rfl|rfl|rfl<;>exact⟨_,rfl,by decide⟩
theorem Q2w {v:Int} (h:0<=v/\v<5):∃x,Af (nth .dead (nth [] [[I 0],[I 1],[I 2],[I 4],[I 9]] v.toNat) 0)=x/\0<=x/\x<=9:=by
 have hc:v=0\/v=1\/v=2\/v=3\/v=4:=by omega
 rcases hc with rfl|rfl|rfl|rfl|rfl<;>exact⟨_,rfl,by decide⟩
theorem Z02 {size:Int} {it:Itm} (h:ArcMade size it) (f b:Int) (pr:Bool) (n:Int):ArcMade size {it with feed:=f,blend:=b,perRev:=pr,n:=n}:=⟨h.kind,h.plane,h.dir,h.ends⟩
theorem Zqt {MA MN:Fn} {l:Rw} (hN:GA l MN)
  (hA:∀{p:Pt},bd 100000000 p->∀k:Nat,∃(it:Itm) (k':Nat),MA [I p.x,I p.y,I p.z,I 8, .view Aa l,I k]=some (Ag it++[.view Aa l,I k'])/\k<=k'/\it.fr=p/\ArcMade 8 it/\it.feed=0/\it.perRev=false/\it.blend=0/\it.n=0/\Fs it)
  {p:Pt} (hp:bd 100000000 p) {kind:Int} (hk:1<=kind/\kind<=6) (k:Nat):
  ∃(it:Itm) (k':Nat),Qix MN MA [I p.x,I p.y,I p.z,I kind, .view Aa l,I k]=some (Ag it++[.view Aa l,I k'])/\k<=k'/\it.fr=p/\it.kind=kind/\Made it/\Fs it:=by
 rw[Zku];obtain⟨hp1,hp2,hp3⟩:=hp;by_cases h3:kind=3
 ·subst h3;obtain⟨it,k1,e1,c1,g1,g2,g3,g4,g5,g6,g7,g8,g9,g10,g11⟩:=hA ⟨hp1,hp2,hp3⟩ k;obtain⟨v2,k2,e2,a2,b2,c2,-,-⟩:=hN k1 (n:=5) (by omega);obtain⟨v3,k3,e3,a3,b3,c3,-,-⟩:=hN k2 (n:=5) (by omega);simp only[go_sem,e1,Ag,List.cons_append,List.nil_append,e2,e3];rw[if_neg (by omega),if_pos (by simp;omega),if_pos (by simp;omega),if_neg (by omega),if_neg (by omega),if_neg (by omega)];obtain⟨f,hf,hf1,hf2⟩:=Q7g ⟨a2,b2⟩;obtain⟨b,hb,hb1,hb2⟩:=Q2w ⟨a3,b3⟩;rw[hf,hb];have hka:=g2.kind;refine⟨{it with feed:=f,blend:=b,perRev:=it.perRev,n:=it.n},k3,rfl,by omega,g1,hka,⟨?_,?_,?_,?_,?_,?_,?_,?_⟩,g7,g8,g9,g10,g11⟩
  ·show 1<=it.kind/\it.kind<=6;omega
  ·exact fun h=>absurd hka h
  ·exact fun _=>Z02 g2 f b _ _
  ·exact fun _=>⟨hf1,hf2⟩
  ·exact⟨hb1,hb2⟩
  ·intro h;change it.kind=5\/it.kind=6 at h;omega
  ·exact fun _=>g4
  ·exact fun h=>absurd hka h
 ·simp only[go_sem];rw[if_neg h3];obtain⟨v1,k1,e1,a1,b1,c1,-,-⟩:=hN k (n:=25) (by omega);obtain⟨v2,k2,e2,a2,b2,c2,-,-⟩:=hN k1 (n:=25) (by omega);obtain⟨v3,k3,e3,a3,b3,c3,-,-⟩:=hN k2 (n:=3) (by omega);obtain⟨v4,k4,e4,a4,b4,c4,-,-⟩:=hN k3 (n:=9) (by omega);obtain⟨v5,k5,e5,a5,b5,c5,-,-⟩:=hN k4 (n:=2) (by omega);simp only[go_sem,e1,e2,e3,e4,e5];have hm:0<=v3*v4/\v3*v4<=16:=by
   have hc:v3=0\/v3=1\/v3=2:=by omega
   rcases hc with rfl|rfl|rfl<;>omega
  generalize v3*v4=m at hm;have w1:IntKind.i64.wrap (IntKind.i64.wrap (p.x+v1)-12)=p.x+v1-12:=by rw[Ae (x:=p.x+v1) (by omega),Ae (by omega)]
  have w2:IntKind.i64.wrap (IntKind.i64.wrap (p.y+v2)-12)=p.y+v2-12:=by rw[Ae (x:=p.y+v2) (by omega),Ae (by omega)]
  have w3:IntKind.i64.wrap (IntKind.i64.wrap (p.z+IntKind.i64.wrap m)-IntKind.i64.wrap (8*v5))=p.z+m-8*v5:=by
   rw[Ae (x:=m) (by omega),Ae (x:=p.z+m) (by omega),Ae (x:=8*v5) (by omega),Ae (by omega)]
  rw[w1,w2,w3]
  have mk:∀(f b n:Int) (pr:Bool),(kind≠1->1<=f/\f<=60000000)->(0<=b/\b<=9)->(kind=5\/kind=6->b=0/\f<=60)->(kind<=4->pr=false)->
    ∃it:Itm,Ag it=[I kind,I 0,I p.x,I p.y,I p.z,I (p.x+v1-12),I (p.y+v2-12),I (p.z+m-8*v5),I 0,I 0,I 0,I 0,I 0,B false,I f,B pr,I 0,I 0,I b,I n,I 0,B false]/\it.fr=p/\it.kind=kind/\Made it/\Fs it:=by
   intro f b n pr h1 h2 h4 h5;refine⟨⟨kind,0,p,⟨p.x+v1-12,p.y+v2-12,p.z+m-8*v5⟩,0,⟨0,0,0⟩,0,false,f,pr,0,0,b,n,0,false⟩,rfl,rfl,rfl,⟨hk,fun _=> ?_,fun h=>absurd h h3,h1,h2,h4,h5,fun _=>rfl⟩,rfl,rfl,rfl,rfl,rfl⟩;show(p.x+v1-12-p.x).natAbs<=16/\(p.y+v2-12-p.y).natAbs<=16/\(p.z+m-8*v5-p.z).natAbs<=16;omega
  have en:∀(f b n:Int) (pr:Bool) (k':Nat),k<=k'->(kind≠1->1<=f/\f<=60000000)->(0<=b/\b<=9)->(kind=5\/kind=6->b=0/\f<=60)->(kind<=4->pr=false)->
    ∃(it:Itm) (k'':Nat),some [I kind,I 0,I p.x,I p.y,I p.z,I (p.x+v1-12),I (p.y+v2-12),I (p.z+m-8*v5),I 0,I 0,I 0,I 0,I 0,B false,I f,B pr,I 0,I 0,I b,I n,I 0,B false, .view Aa l,I k']=some (Ag it++[.view Aa l,I k''])/\k<=k''/\it.fr=p/\it.kind=kind/\Made it/\Fs it:=by
   intro f b n pr k' h0 h1 h2 h4 h5;obtain⟨it,i1,i2⟩:=mk f b n pr h1 h2 h4 h5;refine⟨it,k',?_,h0,i2⟩;rw[i1];rfl
  by_cases h1:kind=1
  ·rw[if_pos h1];exact en _ _ _ _ _ (by omega) (fun h=>absurd h1 h) (by omega) (by omega) (fun _=>rfl)
  ·rw[if_neg h1];obtain⟨v6,k6,e6,a6,b6,c6,-,-⟩:=hN k5 (n:=5) (by omega);obtain⟨v7,k7,e7,a7,b7,c7,-,-⟩:=hN k6 (n:=5) (by omega);obtain⟨v8,k8,e8,a8,b8,c8,-,-⟩:=hN k7 (n:=60) (by omega);obtain⟨v9,k9,e9,a9,b9,c9,-,-⟩:=hN k8 (n:=2) (by omega);simp only[go_sem,e6,e7,e8,e9];rw[if_pos (by simp;omega),if_pos (by simp;omega)];obtain⟨f,hf,hf1,hf2⟩:=Q7g ⟨a6,b6⟩;obtain⟨b,hb,hb1,hb2⟩:=Q2w ⟨a7,b7⟩;rw[hf,hb,Ae (x:=1+v8) (by omega),Ae (x:=3+v9) (by omega)];by_cases h5:kind=5
   ·rw[if_pos h5,if_neg (by omega)];exact en _ _ _ _ _ (by omega) (by omega) (by omega) (by omega) (by omega)
   ·rw[if_neg h5];by_cases h6:kind=6
    ·rw[if_pos h6,if_pos h6];exact en _ _ _ _ _ (by omega) (by omega) (by omega) (by omega) (by omega)
    ·rw[if_neg h6];by_cases h4:kind=4
     ·rw[if_pos h4];exact en _ _ _ _ _ (by omega) (by omega) (by omega) (by omega) (fun _=>rfl)
     ·rw[if_neg h4];exact en _ _ _ _ _ (by omega) (by omega) (by omega) (by omega) (fun _=>rfl)
theorem Zew {l:Rw} (hl:Src l) {p:Pt} (hp:bd 100000000 p) {kind:Int} (hk:1<=kind/\kind<=6) (k:Nat):
  ∃(it:Itm) (k':Nat),K6 [I p.x,I p.y,I p.z,I kind, .view Aa l,I k]=some (Ag it++[.view Aa l,I k'])/\k<=k'/\it.fr=p/\it.kind=kind/\Made it/\Fs it:=
 Zqt (Hc hl) (fun hp k=>Zhe hl hp (by omega) k) hp hk k
end Go.Bm
namespace Go.Bm
def Q5m:Pt->List Itm->Prop
 |_,[]=>True
 |p,it::l=>it.fr=p/\Q5m it.to l
structure Motions (B : Nat) (p : Pt) (l : List Itm) : Prop where
 Fj:Q5m p l
 made:∀it∈l,Made it/\Fs it/\it.kind<=3/\bd B it.fr/\bd B it.to
theorem Qdl {size:Int} {b:Nat} {it:Itm} (h:ArcMade size it) (hs:size<=1000) (hf:bd b it.fr):bd (b+2*(12+size.toNat)) it.to/\bd (b+8+size.toNat) it.ce:=by
 obtain⟨r,k,t,g,x,h1,h2,h3,h4,h5,h6,h7,h8,h9,h10,h11,h12,h13⟩:=h.ends;obtain⟨q1,q2,q3⟩:=HA (pl:=it.plane) hf;obtain⟨⟨r1,r2⟩,r3,r4⟩:=Me (r:=r) (k:=k) (by omega);obtain⟨⟨r5,r6⟩,r7,r8⟩:=Me (r:=r+g) (k:=k+t) (by omega);rw[h12,h13];unfold bd spP;constructor<;>split<;>(try split)<;>refine⟨?_,?_,?_⟩<;>simp only<;>omega
theorem Qzk {b:Nat} {it:Itm} (h:Made it) (hf:bd b it.fr):bd (b+40) it.to:=by
 by_cases h3:it.kind=3
 ·exact AV (Qdl (h.arc h3) (by omega) hf).1 (by omega)
 ·obtain⟨h1,h2,h4⟩:=h.line h3;obtain⟨g1,g2,g3⟩:=hf;exact⟨by omega,by omega,by omega⟩
end Go.Bm
namespace Go.Bm
instance (pl:Int):Decidable (C8 pl):=by unfold C8;infer_instance
instance (A:Nat) (p:Pt):Decidable (bd A p):=by unfold bd;infer_instance
def dU (it:Itm) (p:Pt):Int:=plU it.plane p-plU it.plane it.ce
def dW (it:Itm) (p:Pt):Int:=plW it.plane p-plW it.plane it.ce
def sq2 (u w:Int):Int:=u*u+w*w
def crs (u w x y:Int):Int:=u*y-w*x
def dt2 (u w x y:Int):Int:=u*x+w*y
def qA (it:Itm):Int:=sq2 (dU it it.fr) (dW it it.fr)
def qB (it:Itm):Int:=sq2 (dU it it.to) (dW it it.to)
def cAB (it:Itm):Int:=crs (dU it it.fr) (dW it it.fr) (dU it it.to) (dW it it.to)
def dAB (it:Itm):Int:=dt2 (dU it it.fr) (dW it it.fr) (dU it it.to) (dW it it.to)
def Ie (X Y:Int):Prop:=X+Y-16<=0\/(X+Y-16)*(X+Y-16)<=4*X*Y
def Xg (it:Itm):Prop:=64<=qA it/\64<=qB it/\Ie (qA it) (qB it)/\(it.full=true->dU it it.fr=dU it it.to/\dW it it.fr=dW it it.to)/\(it.full=false->cAB it≠0\/dAB it<0)
def Z4a (it:Itm):Prop:=C8 it.plane/\(it.dir=1\/it.dir= -1)/\bd 1048576 it.ce/\Xg it
def Dp (it:Itm):Prop:=(1<=it.kind/\it.kind<=6)/\bd 1048576 it.fr/\bd 1048576 it.to/\(it.kind=3->Z4a it)
theorem Qn5 {it:Itm} {p:Pt} {b c:Nat} (hc:bd c it.ce) (h:bd b p):(dU it p).natAbs<=b+c/\(dW it p).natAbs<=b+c:=by
 obtain⟨h1,h2,h3⟩:=HA (pl:=it.plane) h;obtain⟨g1,g2,g3⟩:=HA (pl:=it.plane) hc;unfold dU dW;omega
theorem Q2i (x:Int) {b:Nat} (h:x.natAbs<=b):0<=x*x/\x*x<=((b*b:Nat):Int):=by
 have h1:=Hi h h;have h2:0<=x*x:=by rw[<-Int.natAbs_mul_self];omega
 omega
theorem Qy8 {u w:Int} {b:Nat} (hu:u.natAbs<=b) (hw:w.natAbs<=b):0<=sq2 u w/\sq2 u w<=((2*(b*b):Nat):Int):=by
 have h1:=Q2i u hu;have h2:=Q2i w hw;unfold sq2;omega
theorem Qu6 {u w x y:Int} {b c:Nat} (hu:u.natAbs<=b) (hw:w.natAbs<=b) (hx:x.natAbs<=c) (hy:y.natAbs<=c):(dt2 u w x y).natAbs<=2*(b*c)/\(crs u w x y).natAbs<=2*(b*c):=by
 have h1:=Hi hu hx;have h2:=Hi hw hy;have h3:=Hi hu hy;have h4:=Hi hw hx;unfold dt2 crs;omega
theorem Zss {X Y:Int} (hX:64<=X) (hY:64<=Y):Ie X Y↔(max X Y-min X Y-16<=0\/(max X Y-min X Y-16)*(max X Y-min X Y-16)<=64*min X Y):=by
 unfold Ie;have key:∀M m:Int,64<=M->64<=m->m<=M->((M+m-16<=0\/(M+m-16)*(M+m-16)<=4*M*m)↔(M-m-16<=0\/(M-m-16)*(M-m-16)<=64*m)):=by
  intro M m h1 h2 h3;have e:(M-m-16)*(M-m-16)-64*m=(M+m-16)*(M+m-16)-4*M*m:=by grind
  by_cases hk:M-m-16<=0
  ·refine iff_of_true (.inr ?_) (.inl hk);have h5:(16-(M-m))*(M-m+16)>=0:=Int.mul_nonneg (by omega) (by omega);have h6:(M+m-16)*(M+m-16)-4*M*m=512-(16-(M-m))*(M-m+16)-32*(M+m):=by grind
   omega
  ·constructor
   ·rintro(h|h)
    ·omega
    ·exact .inr (by omega)
   ·rintro(h|h)
    ·omega
    ·exact .inr (by omega)
 by_cases h:X<=Y
 ·rw[Int.max_eq_right h,Int.min_eq_left h,<-key Y X hY hX h];have e1:X+Y-16=Y+X-16:=by omega
  have e2:4*X*Y=4*Y*X:=by grind
  rw[e1,e2]
 ·rw[Int.max_eq_left (by omega),Int.min_eq_right (by omega),<-key X Y hX hY (by omega)]
end Go.Bm
namespace Go.Bm
theorem Zxk (p:Pt):Oh [I p.x,I p.y,I p.z]=some [B (decide (bd 1048576 p))]:=by
 unfold Oh;rw[Znk];simp only[go_sem];by_cases h:bd 1048576 p
 ·obtain⟨h1,h2,h3⟩:=h;rw[if_neg (by omega),if_neg (by omega),if_neg (by omega),if_neg (by omega),if_neg (by omega),if_neg (by omega)];congr 3;symm;exact decide_eq_true ⟨h1,h2,h3⟩
 ·have e:decide (bd 1048576 p)=false:=decide_eq_false h;rw[e];unfold bd at h;by_cases c1:p.x< -1048576
  ·rw[if_pos c1]
  rw[if_neg c1];by_cases c2:p.x>1048576
  ·rw[if_pos c2]
  rw[if_neg c2];by_cases c3:p.y< -1048576
  ·rw[if_pos c3]
  rw[if_neg c3];by_cases c4:p.y>1048576
  ·rw[if_pos c4]
  rw[if_neg c4];by_cases c5:p.z< -1048576
  ·rw[if_pos c5]
  rw[if_neg c5,if_pos (by omega)]
def axI (pl:Int):Int×Int×Int:=if pl=17 then(0,1,2)else if pl=18 then(2,0,1)else if pl=19 then(1,2,0)else(0,0,0)
theorem Ql9 (pl:Int):FK [I pl]=some [I (axI pl).1,I (axI pl).2.1,I (axI pl).2.2,B (decide (C8 pl))]:=by
 unfold FK;rw[Zdz];simp only[go_sem];unfold axI C8;by_cases h1:pl=17
 ·rw[if_pos h1,if_pos h1];simp[h1]
 rw[if_neg h1,if_neg h1];by_cases h2:pl=18
 ·rw[if_pos h2,if_pos h2];simp[h2]
 rw[if_neg h2,if_neg h2];by_cases h3:pl=19
 ·rw[if_pos h3,if_pos h3];simp[h3]
 rw[if_neg h3,if_neg h3];simp[h1,h2,h3]
theorem Znh {M:Fn} (hM:∀pl:Int,M [I pl]=some [I (axI pl).1,I (axI pl).2.1,I (axI pl).2.2,B (decide (C8 pl))]) {p:Pt} {pl:Int} (hp:C8 pl):
  Qhq M [I p.x,I p.y,I p.z,I pl]=some [I (plU pl p),I (plW pl p),I (plH pl p)]:=by
 rw[Ztf];simp only[go_sem,hM];rw[if_neg (by simpa using hp)];rcases hp with rfl|rfl|rfl<;>rfl
theorem Qsf {p:Pt} {pl:Int} (hp:C8 pl):Io [I p.x,I p.y,I p.z,I pl]=some [I (plU pl p),I (plW pl p),I (plH pl p)]:=Znh Ql9 hp
def Ax (p:Pt):Pt:=⟨p.x*16,p.y*16,p.z*16⟩
theorem Ff {b:Nat} {p:Pt} (h:bd b p):bd (b*16) (Ax p):=by
 obtain⟨h1,h2,h3⟩:=h;unfold Ax;exact⟨by simp only;omega,by simp only;omega,by simp only;omega⟩
theorem Tl (pl:Int) (p:Pt):plU pl (Ax p)=plU pl p*16/\plW pl (Ax p)=plW pl p*16/\plH pl (Ax p)=plH pl p*16:=by
 unfold plU plW plH Ax;refine⟨?_,?_,?_⟩<;>split<;>(try split)<;>rfl
theorem Q8j {p:Pt} (h:bd 100000000 p):HH [I p.x,I p.y,I p.z]=some (ptR (Ax p)):=by
 unfold HH;rw[Zod];obtain⟨h1,h2,h3⟩:=h;rw[Ae (by omega),Ae (by omega),Ae (by omega)];rfl
theorem Ql1 {u w r h x y s g:Int} (hu:u.natAbs<=1000000000) (hw:w.natAbs<=1000000000) (hx:x.natAbs<=1000000000) (hy:y.natAbs<=1000000000):Gr [I u,I w,I r,I h,I x,I y,I s,I g]=some [I (dt2 u w x y)]:=by
 unfold Gr;rw[Zli];have h1:=Hi hu hx;have h2:=Hi hw hy;unfold dt2;rw[Ae (x:=u*x) (by omega),Ae (x:=w*y) (by omega),Ae (by omega)]
theorem Qe0 {u w r h x y s g:Int} (hu:u.natAbs<=1000000000) (hw:w.natAbs<=1000000000) (hx:x.natAbs<=1000000000) (hy:y.natAbs<=1000000000):G6 [I u,I w,I r,I h,I x,I y,I s,I g]=some [I (crs u w x y)]:=by
 unfold G6;rw[Zw9];have h1:=Hi hu hy;have h2:=Hi hw hx;unfold crs;rw[Ae (x:=u*y) (by omega),Ae (x:=w*x) (by omega),Ae (by omega)]
theorem Zez {M:Fn} (hM:∀{a b c d:Int},i64 a->i64 b->i64 c->i64 d->M [I a,I b,I c,I d]=some [I (Ky (a*b) (c*d))]) {X Y:Int} (hX:64<=X/\X<=1000000000000000) (hY:64<=Y/\Y<=1000000000000000):
  ∃v,Qig M [I X,I Y]=some [B v]/\(v=true↔Ie X Y):=by
 rw[Zqe,Zss hX.1 hY.1];have hmx:mx X Y=max X Y:=by unfold mx;rw[Int.max_def];split<;>split<;>omega
 have hmn:mn X Y=min X Y:=by unfold mn;rw[Int.min_def];split<;>split<;>omega
 have hx1:max X Y<=1000000000000000/\64<=max X Y:=by omega
 have hx2:min X Y<=1000000000000000/\64<=min X Y:=by omega
 rw[hmx,hmn];generalize max X Y=a at*;generalize min X Y=b at*;simp only[go_sem];rw[Ae (x:=a-b) (by omega),Ae (x:=a-b-16) (by omega)];by_cases c1:a-b-16<=0
 ·rw[if_pos c1];exact⟨_,rfl,iff_of_true rfl (.inl c1)⟩
 ·rw[if_neg c1,hM (by unfold i64;omega) (by unfold i64;omega) (by unfold i64;omega) (by unfold i64;omega)];refine⟨_,rfl,?_⟩;simp only[go_sem,decide_eq_true_eq,Zrv];exact⟨fun h=> .inr h,fun h=>h.resolve_left c1⟩
theorem Zwq {X Y:Int} (hX:64<=X/\X<=1000000000000000) (hY:64<=Y/\Y<=1000000000000000):∃v,OO [I X,I Y]=some [B v]/\(v=true↔Ie X Y):=Zez Z08 hX hY
theorem Zim {MP MS:Fn} {it:Itm} (hP:∀p:Pt,MP [I p.x,I p.y,I p.z,I it.plane]=some [I (plU it.plane p),I (plW it.plane p),I (plH it.plane p)]) (hS:∀{p:Pt},bd 100000000 p->MS [I p.x,I p.y,I p.z]=some (ptR (Ax p)))
  (h1:bd 1048576 it.fr) (h2:bd 1048576 it.to) (h3:bd 1048576 it.ce):
  Qk5 MP MS (An (UN MP MS)) (Ag it)=some [I (dU it it.fr*16),I (dW it it.fr*16),I 0,I (plH it.plane it.fr*16),I (dU it it.to*16),I (dW it it.to*16),I 0,I (plH it.plane it.to*16)]:=by
 rw[Zov];obtain⟨q1,q2,q3⟩:=HA (pl:=it.plane) h1;obtain⟨q4,q5,q6⟩:=HA (pl:=it.plane) h2;obtain⟨q7,q8,q9⟩:=HA (pl:=it.plane) h3;simp only[hS (AV h3 (by omega)),hP,go_sem];have w0:IntKind.i64.wrap (0+1)=1:=Ae (by omega);have w1:IntKind.i64.wrap (1+1)=2:=Ae (by omega);have f1:=Tl it.plane it.fr;have f2:=Tl it.plane it.to;have f3:=Tl it.plane it.ce;have u1:IntKind.i64.wrap (plU it.plane (Ax it.fr)-plU it.plane (Ax it.ce))=dU it it.fr*16:=by rw[f1.1,f3.1];unfold dU;rw[Ae (by omega)];omega
 have u2:IntKind.i64.wrap (plW it.plane (Ax it.fr)-plW it.plane (Ax it.ce))=dW it it.fr*16:=by rw[f1.2.1,f3.2.1];unfold dW;rw[Ae (by omega)];omega
 have u3:IntKind.i64.wrap (plU it.plane (Ax it.to)-plU it.plane (Ax it.ce))=dU it it.to*16:=by rw[f2.1,f3.1];unfold dU;rw[Ae (by omega)];omega
 have u4:IntKind.i64.wrap (plW it.plane (Ax it.to)-plW it.plane (Ax it.ce))=dW it it.to*16:=by rw[f2.2.1,f3.2.1];unfold dW;rw[Ae (by omega)];omega
 have b1:bd 100000000 it.fr:=AV h1 (by omega);have b2:bd 100000000 it.to:=AV h2 (by omega);have e1:=hS b1;have e2:=hS b2;rw[Bv (by rw[Yg];simp only[go_sem,e1,e2,hP,u1,u2,w0];rfl),Bv (by rw[Yg];simp only[go_sem,e1,e2,hP,u3,u4,w1];rfl),
  A5 (o:=(1,_)) (by rw[Yg];simp only[go_sem];rfl) (by simp)]
 simp only[go_sem,f1.2.2,f2.2.2]
theorem Qqs {it:Itm} (hp:C8 it.plane) (h1:bd 1048576 it.fr) (h2:bd 1048576 it.to) (h3:bd 1048576 it.ce):
  JQ (Ag it)=some [I (dU it it.fr*16),I (dW it it.fr*16),I 0,I (plH it.plane it.fr*16),I (dU it it.to*16),I (dW it it.to*16),I 0,I (plH it.plane it.to*16)]:=
 Zim (fun _=>Qsf hp) Q8j h1 h2 h3
theorem Zq4 {MN:Fn} {X Y C D au aw bu bw:Int} {full:Bool} (hX:0<=X/\X<=1000000000000000) (hY:0<=Y/\Y<=1000000000000000)
  (hN:∀{X Y:Int},(64<=X/\X<=1000000000000000)->(64<=Y/\Y<=1000000000000000)->∃v,MN [I X,I Y]=some [B v]/\(v=true↔Ie X Y)):
  ∃ v, (if X * 256 < IntKind.i64.wrap (128 * 128) then some [B false] else if Y * 256 < IntKind.i64.wrap (128 * 128) then some [B false] else
   (MN [I (IntKind.i64.wrap ((X*256).tdiv 256)),I (IntKind.i64.wrap ((Y*256).tdiv 256))]).bind fun o=>
   if¬CV (nth .dead o 0)=true then some [B false]else if full=true then if au*16=bu*16 then some [B (aw*16==bw*16)]else some [B false]else if C*256≠0 then some [B true]else some [B (decide (D*256<0))])=some [B v]/\
   (v=true↔64<=X/\64<=Y/\Ie X Y/\(full=true->au=bu/\aw=bw)/\(full=false->C≠0\/D<0)):=by
 rw[Ae (x:=128*128) (by omega),Int.mul_tdiv_cancel _ (by omega),Int.mul_tdiv_cancel _ (by omega),Ae (x:=X) (by omega),Ae (x:=Y) (by omega)];by_cases c1:X*256<128*128
 ·rw[if_pos c1];exact⟨_,rfl,iff_of_false (by simp) fun h=>by omega⟩
 rw[if_neg c1];by_cases c2:Y*256<128*128
 ·rw[if_pos c2];exact⟨_,rfl,iff_of_false (by simp) fun h=>by omega⟩
 rw[if_neg c2];obtain⟨v,h1,h2⟩:=hN (X:=X) (Y:=Y) (by omega) (by omega);simp only[h1,go_sem];by_cases c3:v=true
 case neg=>rw[if_pos c3];exact⟨_,rfl,iff_of_false (by simp) fun h=>c3 (h2.2 h.2.2.1)⟩
 rw[if_neg (by simpa using c3)];have hn':=h2.1 c3;cases full with
 |true=>
  rw[if_pos rfl];by_cases c4:au*16=bu*16
  ·rw[if_pos c4];refine⟨_,rfl,?_⟩;simp only[beq_iff_eq];exact⟨fun h=>⟨by omega,by omega,hn',fun _=>⟨by omega,by omega⟩,fun h=>by simp at h⟩,fun h=>by have:=(h.2.2.2.1 trivial).2;omega⟩
  ·rw[if_neg c4];exact⟨_,rfl,iff_of_false (by simp) fun h=>c4 (by have:=(h.2.2.2.1 rfl).1;omega)⟩
 |false=>
  rw[if_neg (by simp)];by_cases c4:C*256≠0
  ·rw[if_pos c4];exact⟨_,rfl,iff_of_true rfl ⟨by omega,by omega,hn',fun h=>by simp at h,fun _=> .inl (by omega)⟩⟩
  ·rw[if_neg c4];refine⟨_,rfl,?_⟩;simp only[decide_eq_true_eq];exact⟨fun h=>⟨by omega,by omega,hn',fun h=>by simp at h,fun _=> .inr (by omega)⟩,fun h=>by have:=(h.2.2.2.2 trivial);omega⟩
theorem Q4x (a b c d:Int):dt2 (a*16) (b*16) (c*16) (d*16)=dt2 a b c d*256/\crs (a*16) (b*16) (c*16) (d*16)=crs a b c d*256:=by
 unfold dt2 crs;constructor<;>grind
theorem Zfx {MC MN MD ME MA MW:Fn} (hA:∀pl:Int,MA [I pl]=some [I (axI pl).1,I (axI pl).2.1,I (axI pl).2.2,B (decide (C8 pl))]) (hW:∀p:Pt,MW [I p.x,I p.y,I p.z]=some [B (decide (bd 1048576 p))])
  {it:Itm} (hE:C8 it.plane->bd 1048576 it.fr->bd 1048576 it.to->bd 1048576 it.ce->ME (Ag it)=some [I (dU it it.fr*16),I (dW it it.fr*16),I 0,I (plH it.plane it.fr*16),I (dU it it.to*16),I (dW it it.to*16),I 0,I (plH it.plane it.to*16)])
  (hD:∀{u w r h x y s g:Int},u.natAbs<=1000000000->w.natAbs<=1000000000->x.natAbs<=1000000000->y.natAbs<=1000000000->MD [I u,I w,I r,I h,I x,I y,I s,I g]=some [I (dt2 u w x y)])
  (hX:∀{u w r h x y s g:Int},u.natAbs<=1000000000->w.natAbs<=1000000000->x.natAbs<=1000000000->y.natAbs<=1000000000->MC [I u,I w,I r,I h,I x,I y,I s,I g]=some [I (crs u w x y)])
  (hN:∀{X Y:Int},(64<=X/\X<=1000000000000000)->(64<=Y/\Y<=1000000000000000)->∃v,MN [I X,I Y]=some [B v]/\(v=true↔Ie X Y)):
  ∃v,Wh MC MN MD ME MA MW (Ag it)=some [B v]/\(v=true↔Dp it):=by
 rw[Ze5];simp only[go_sem,hW,hA];by_cases c1:it.kind<1
 ·rw[if_pos c1];exact⟨_,rfl,iff_of_false (by simp) fun h=>by have:=h.1;omega⟩
 rw[if_neg c1];by_cases c1':it.kind>6
 ·rw[if_pos c1'];exact⟨_,rfl,iff_of_false (by simp) fun h=>by have:=h.1;omega⟩
 rw[if_neg c1'];by_cases c2:bd 1048576 it.fr
 case neg=>rw[if_pos (by simpa using c2)];exact⟨_,rfl,iff_of_false (by simp) fun h=>c2 h.2.1⟩
 rw[if_neg (by simpa using c2)];by_cases c3:bd 1048576 it.to
 case neg=>rw[if_pos (by simpa using c3)];exact⟨_,rfl,iff_of_false (by simp) fun h=>c3 h.2.2.1⟩
 rw[if_neg (by simpa using c3)];by_cases c4:it.kind=3
 case neg=>rw[if_pos c4];exact⟨_,rfl,iff_of_true rfl ⟨by omega,c2,c3,fun h=>absurd h c4⟩⟩
 rw[if_neg (by simpa using c4)];by_cases c5:C8 it.plane
 case neg=>rw[if_pos (by simpa using c5)];exact⟨_,rfl,iff_of_false (by simp) fun h=>c5 (h.2.2.2 c4).1⟩
 rw[if_neg (by simpa using c5)];by_cases c7:bd 1048576 it.ce
 case neg=>
  refine⟨false,?_,iff_of_false (by simp) fun h=>c7 (h.2.2.2 c4).2.2.1⟩;split
  ·split
   ·rfl
   ·first|rfl|(rw[if_pos c7])
  ·first|rfl|(rw[if_pos c7])
 by_cases c6:it.dir=1\/it.dir= -1
 case neg=>
  rw[if_pos (c:=it.dir≠1) (by omega),if_pos (c:=it.dir≠-1) (by omega)];exact⟨false,rfl,iff_of_false (by simp) fun h=>c6 (h.2.2.2 c4).2.1⟩
 have hE':=hE c5 c2 c3 c7;obtain⟨b1,b2⟩:=Qn5 (it:=it) c7 c2;obtain⟨b3,b4⟩:=Qn5 (it:=it) c7 c3;simp only[Ag]at hE';have x1:=Qy8 b1 b2;have x2:=Qy8 b3 b4;have core:Dp it↔64<=qA it/\64<=qB it/\Ie (qA it) (qB it)/\(it.full=true->dU it it.fr=dU it it.to/\dW it it.fr=dW it it.to)/\(it.full=false->cAB it≠0\/dAB it<0):=
  ⟨fun h=>(h.2.2.2 c4).2.2.2,fun h=>⟨by omega,c2,c3,fun _=>⟨c5,c6,c7,h⟩⟩⟩
 rw[core];have x1':0<=qA it/\qA it<=1000000000000000:=⟨x1.1,by unfold qA;omega⟩;have x2':0<=qB it/\qB it<=1000000000000000:=⟨x2.1,by unfold qB;omega⟩;have D1:= @hD (dU it it.fr*16) (dW it it.fr*16) 0 (plH it.plane it.fr*16) (dU it it.fr*16) (dW it it.fr*16) 0 (plH it.plane it.fr*16) (by omega) (by omega) (by omega) (by omega);have D2:= @hD (dU it it.to*16) (dW it it.to*16) 0 (plH it.plane it.to*16) (dU it it.to*16) (dW it it.to*16) 0 (plH it.plane it.to*16) (by omega) (by omega) (by omega) (by omega);have D3:= @hD (dU it it.fr*16) (dW it it.fr*16) 0 (plH it.plane it.fr*16) (dU it it.to*16) (dW it it.to*16) 0 (plH it.plane it.to*16) (by omega) (by omega) (by omega) (by omega);have D4:= @hX (dU it it.fr*16) (dW it it.fr*16) 0 (plH it.plane it.fr*16) (dU it it.to*16) (dW it it.to*16) 0 (plH it.plane it.to*16) (by omega) (by omega) (by omega) (by omega);rw[(Q4x _ _ _ _).1]at D1 D2 D3;rw[(Q4x _ _ _ _).2]at D4;have e1:dt2 (dU it it.fr) (dW it it.fr) (dU it it.fr) (dW it it.fr)=qA it:=rfl;have e2:dt2 (dU it it.to) (dW it it.to) (dU it it.to) (dW it it.to)=qB it:=rfl;have e3:dt2 (dU it it.fr) (dW it it.fr) (dU it it.to) (dW it it.to)=dAB it:=rfl;have e4:crs (dU it it.fr) (dW it it.fr) (dU it it.to) (dW it it.to)=cAB it:=rfl;rw[e1]at D1;rw[e2]at D2;rw[e3]at D3;rw[e4]at D4;have T:= @Zq4 MN (qA it) (qB it) (cAB it) (dAB it) (dU it it.fr) (dW it it.fr) (dU it it.to) (dW it it.to) it.full x1' x2' hN;have n7: ¬ ¬bd 1048576 it.ce:=fun h=>h c7;by_cases d1:it.dir=1
 ·rw[if_neg (c:=it.dir≠1) (fun h=>h d1),if_neg n7];simp only[hE',go_sem,D1,D2,D3,D4];exact T
 ·rw[if_pos (c:=it.dir≠1) d1,if_neg (c:=it.dir≠-1) (by omega),if_neg n7];simp only[hE',go_sem,D1,D2,D3,D4];exact T
theorem Qm5 (it:Itm):∃v,GM (Ag it)=some [B v]/\(v=true↔Dp it):=
 Zfx Ql9 Zxk (fun h1 h2 h3 h4=>Qqs h1 h2 h3 h4) Ql1 Qe0 Zwq
end Go.Bm
namespace Go.Bm
def okS (s:Spk):Prop:=s.u.natAbs<=50000000/\s.w.natAbs<=50000000/\(0<=s.r/\s.r<=50000000)/\s.h.natAbs<=16777216
def hf (a b:Int):Int:=(a+b+1)/2
def Dk (a b:Spk) (dir:Int) (full:Bool):Int×Int:=
 if full=true then(-a.u,-a.w)
 else if 0<dt2 a.u a.w b.u b.w/\0<crs a.u a.w b.u b.w*dir then(a.u+b.u,a.w+b.w)
 else if 0<dt2 a.u a.w b.u b.w then(-(a.u+b.u),-(a.w+b.w))
 else(dir*(b.w-a.w),dir*(a.u-b.u))
noncomputable def G9 (a b:Spk) (u w:Int):Spk:=if u=0/\w=0 then⟨0,0,0,0⟩else⟨BY u (hf a.r b.r) (sq2 u w),BY w (hf a.r b.r) (sq2 u w),hf a.r b.r,hf a.h b.h⟩
noncomputable def EL (a b:Spk) (dir:Int) (full:Bool):Spk:=G9 a b (Dk a b dir full).1 (Dk a b dir full).2
theorem Nn {a b:Spk} (ha:okS a) (hb:okS b) {dir:Int} (hd:dir=1\/dir= -1) (full:Bool):(Dk a b dir full).1.natAbs<=100000000/\(Dk a b dir full).2.natAbs<=100000000:=by
 obtain⟨a1,a2,-⟩:=ha;obtain⟨b1,b2,-⟩:=hb;unfold Dk;split
 ·exact⟨by simp only;omega,by simp only;omega⟩
 ·split
  ·exact⟨by simp only;omega,by simp only;omega⟩
  ·split
   ·exact⟨by simp only;omega,by simp only;omega⟩
   ·rcases hd with rfl|rfl
    ·exact⟨by simp only;omega,by simp only;omega⟩
    ·exact⟨by simp only;omega,by simp only;omega⟩
theorem Qpi (u w:Int):u*u<=sq2 u w/\w*w<=sq2 u w:=by
 have h1:=FI u;have h2:=FI w;unfold sq2;omega
theorem QE {u w:Int} (h: ¬(u=0/\w=0)):0<sq2 u w:=by
 have h1:=FI u;have h2:=FI w;have z:∀u:Int,u*u=0->u=0:=fun u hu=>by
  rcases Int.mul_eq_zero.1 hu with h|h<;>exact h
 have h3: ¬(u*u=0/\w*w=0):=fun h4=>h ⟨z _ h4.1,z _ h4.2⟩;unfold sq2;omega
theorem Qvj {a b:Int} (ha:0<=a/\a<=50000000) (hb:0<=b/\b<=50000000):0<=hf a b/\hf a b<=50000000:=by unfold hf;omega
theorem Q8w {a b:Int} (ha:a.natAbs<=16777216) (hb:b.natAbs<=16777216):(hf a b).natAbs<=16777216:=by unfold hf;omega
theorem Qt4 {u w r:Int} (hu:u.natAbs<=100000000) (hw:w.natAbs<=100000000) (hr:0<=r/\r<=50000000) (h: ¬(u=0/\w=0)):
  (True/\(BY u r (sq2 u w)).natAbs<=r.natAbs)/\(True/\(BY w r (sq2 u w)).natAbs<=r.natAbs):=by
 have hp:=QE h;have h1:=DM hu;have h2:=DM hw;have h3:sq2 u w<=20000000000000000:=by unfold sq2;omega
 obtain⟨q1,q2⟩:=Qpi u w;have key:∀x:Int,x.natAbs<=100000000->x*x<=sq2 u w->True/\(BY x r (sq2 u w)).natAbs<=r.natAbs:=by
  intro x hx hq;obtain⟨g1,-,g3⟩:=Qx (x:=x) (r:=r) (n:=sq2 u w) (Nat.le_trans hx (by decide)) (by omega) (by omega) hq;refine⟨g1,TX (by omega) ?_ g3⟩;have:((x.natAbs*x.natAbs:Nat):Int)=x*x:=Int.natAbs_mul_self;omega
 exact⟨key u hu q1,key w hw q2⟩
theorem Zya {a b:Spk} (ha:okS a) (hb:okS b) {u w:Int} (hu:u.natAbs<=100000000) (hw:w.natAbs<=100000000):okS (G9 a b u w):=by
 unfold G9;split
 ·exact⟨by simp,by simp,by simp,by simp⟩
 ·rename_i h;have hr:=Qvj ha.2.2.1 hb.2.2.1;obtain⟨⟨-,n1⟩,-,n2⟩:=Qt4 hu hw hr h;exact⟨by simp only;omega,by simp only;omega,hr,Q8w ha.2.2.2 hb.2.2.2⟩
theorem Q7f {a b:Spk} (ha:okS a) (hb:okS b) {dir:Int} (hd:dir=1\/dir= -1) (full:Bool):okS (EL a b dir full):=
 Zya ha hb (Nn ha hb hd full).1 (Nn ha hb hd full).2
theorem Gj {x:Int} (h:x.natAbs<=50000000):x.natAbs<=1000000000:=Nat.le_trans h (by decide)
def HX (a b:Spk) (dir:Int) (full:Bool):Prop:=full=false/\0<crs a.u a.w b.u b.w*dir/\sq2 (a.u-b.u) (a.w-b.w)<=32*mn a.r b.r-64
instance {a b:Spk} {dir:Int} {full:Bool}:Decidable (HX a b dir full):=by unfold HX;infer_instance
noncomputable def DK (dir:Int):Nat->Bool->Spk->Spk->List Spk
 |0,_,_,b=>[b]
 |k+1,full,a,b=>if HX a b dir full then [b]else DK dir k false a (EL a b dir full)++DK dir k false (EL a b dir full) b
theorem Tj {dir:Int}:∀(k:Nat) (full:Bool) (a b:Spk),1<=(DK dir k full a b).length/\(DK dir k full a b).length<=2^k
 |0,_,_,b=>by simp[DK]
 |k+1,full,a,b=>by
  have hp:0<2^k:=Nat.two_pow_pos _;have e3:2^(k+1)=2^k+2^k:=by rw[Nat.pow_succ];omega
  unfold DK;split
  ·simp;omega
  ·have h1:=Tj k false a (EL a b dir full) (dir:=dir);have h2:=Tj k false (EL a b dir full) b (dir:=dir);rw[List.length_append];omega
theorem Qok {dir:Int} (hd:dir=1\/dir= -1):∀(k:Nat) (full:Bool) {a b:Spk},okS a->okS b->∀s∈DK dir k full a b,okS s
 |0,_,a,b,_,hb,s,hs=>by simp[DK]at hs;subst hs;exact hb
 |k+1,full,a,b,ha,hb,s,hs=>by
  unfold DK at hs;have hm:=Q7f ha hb hd full;split at hs
  ·simp at hs;subst hs;exact hb
  ·rcases List.mem_append.1 hs with hs|hs
   ·exact Qok hd k false ha hm s hs
   ·exact Qok hd k false hm hb s hs
end Go.Bm
namespace Go.Bm
theorem Zwg {n i j:Int} (hi:IZ n i) (hj:IZ n j):i=j:=by
 have key:∀{i j:Int},IZ n i->IZ n j-> ¬i<j:=by
  rintro i j ⟨h1,h2,-⟩ ⟨h4,h5,h6⟩ hlt;rcases h6 with h6|h6
  ·omega
  ·have h7:=Int.mul_le_mul (show i<=j-1 by omega) (show i+1<=j by omega) (by omega) (by omega);omega
 have h1:=key hi hj;have h2:=key hj hi;omega
open Classical in
noncomputable def FF (n:Int):Int:=if h:∃j,IZ n j then Classical.choose h else 0
theorem Q6 {n k:Int} (h:IZ n k):FF n=k:=by
 have hx:∃j,IZ n j:=⟨k,h⟩;unfold FF;rw[dif_pos hx];exact Zwg (Classical.choose_spec hx) h
theorem Rp {n r:Nat} (h1:r*r<=n) (h2:n<(r+1)*(r+1)):IZ n (if r*r+r<n then r+1 else r:Nat):=by
 have e0:(r+1)*(r+1)=r*r+r+r+1:=by grind
 unfold IZ;by_cases c:r*r+r<n
 ·rw[if_pos c];have e1:((r+1:Nat):Int)*(((r+1:Nat):Int)+1)=((r*r+r+r+r+2:Nat):Int):=by
   have:((r+1:Nat):Int)+1=((r+2:Nat):Int):=by omega
   rw[this,<-Int.natCast_mul];congr 1
   grind
  have e2:(((r+1:Nat):Int)-1)*((r+1:Nat):Int)=((r*r+r:Nat):Int):=by
   rw[show((r+1:Nat):Int)-1=(r:Int) by omega,<-Int.natCast_mul];congr 1
  rw[e1,e2];generalize r*r=A at*;exact⟨by omega,by omega, .inr (by omega)⟩
 ·rw[if_neg c];have e1:(r:Int)*((r:Int)+1)=((r*r+r:Nat):Int):=by
   rw[show(r:Int)+1=((r+1:Nat):Int) by omega,<-Int.natCast_mul];congr 1
  rw[e1];refine⟨by omega,by omega,?_⟩;rcases Nat.eq_zero_or_pos r with h|h
  ·left;omega
  ·right;have e2:((r:Int)-1)*(r:Int)=(((r-1)*r:Nat):Int):=by
    rw[show(r:Int)-1=((r-1:Nat):Int) by omega];exact(Int.natCast_mul _ _).symm
   have:=Nat.mul_lt_mul_of_pos_right (show r-1<r by omega) h;rw[e2];omega
noncomputable def Ed (it:Itm) (p:Pt):Spk:=⟨dU it p*16,dW it p*16,FF (sq2 (dU it p*16) (dW it p*16)),plH it.plane p*16⟩
theorem Zal {n:Nat} (hn:n<=2251799813685248):0<=FF n/\FF n<=50000000:=by
 obtain⟨r,-,h2,h3,-⟩:=To (n:=n) (by omega);have hm:=Rp h2 h3;rw[Q6 hm];have:r<50000000:=by
  by_cases c:r<50000000
  ·exact c
  ·have:=Nat.mul_le_mul (show 50000000<=r by omega) (show 50000000<=r by omega);omega
 split<;>omega
theorem Qr {it:Itm} {p:Pt} (hc:bd 1048576 it.ce) (hp:bd 1048576 p):(dU it p*16).natAbs<=33554432/\(dW it p*16).natAbs<=33554432/\0<=sq2 (dU it p*16) (dW it p*16)/\sq2 (dU it p*16) (dW it p*16)<=2251799813685248:=by
 obtain⟨h1,h2⟩:=Qn5 hc hp;have h3:(dU it p*16).natAbs<=33554432:=by omega
 have h4:(dW it p*16).natAbs<=33554432:=by omega
 have q1:=DM h3;have q2:=DM h4;refine⟨h3,h4,?_⟩;unfold sq2;omega
theorem RC {it:Itm} {p:Pt} (hc:bd 1048576 it.ce) (hp:bd 1048576 p):okS (Ed it p):=by
 obtain⟨h1,h2,h3,h4⟩:=Qr hc hp;have h5:=(HA (pl:=it.plane) hp).2.2;obtain⟨n,hn⟩:=Int.eq_ofNat_of_zero_le h3;refine⟨Nat.le_trans h1 (by decide),Nat.le_trans h2 (by decide),?_,?_⟩
 ·show 0<=FF _/\FF _<=_;rw[hn]at h4⊢;exact Zal (by omega)
 ·show(plH it.plane p*16).natAbs<=_;omega
noncomputable def DO (it:Itm):List Spk:=Ed it it.fr::DK it.dir 16 it.full (Ed it it.fr) (Ed it it.to)
theorem Qrv {it:Itm} (h:Dp it) (h3:it.kind=3):∀s∈DO it,okS s:=by
 obtain⟨-,h1,h2,ha⟩:=h;obtain⟨hp,hd,hc,-⟩:=ha h3;intro s hs;rcases List.mem_cons.1 hs with rfl|hs
 ·exact RC hc h1
 ·exact Qok hd 16 _ (RC hc h1) (RC hc h2) s hs
theorem Q55 (it:Itm):2<=(DO it).length/\(DO it).length<=65537:=by
 have:=Tj (dir:=it.dir) 16 it.full (Ed it it.fr) (Ed it it.to);have e:(2:Nat)^16=65536:=rfl;rw[e]at this;unfold DO;rw[List.length_cons];omega
noncomputable def IX (it:Itm) (s:Spk):Pt:=spP it.plane (plU it.plane (Ax it.ce)+s.u) (plW it.plane (Ax it.ce)+s.w) s.h
noncomputable def CM (it:Itm):List Pt:=if it.kind=3 then(DO it).map (IX it)else [Ax it.fr,Ax it.to]
theorem Q7r {pl u w h:Int} {b:Nat} (hu:u.natAbs<=b) (hw:w.natAbs<=b) (hh:h.natAbs<=b):bd b (spP pl u w h):=by
 unfold spP bd;split
 ·exact⟨hu,hw,hh⟩
 ·split
  ·exact⟨hw,hh,hu⟩
  ·exact⟨hh,hu,hw⟩
theorem Za5 {it:Itm} {s:Spk} (hc:bd 1048576 it.ce) (hs:okS s):bd 67108864 (IX it s):=by
 obtain⟨h1,h2,-⟩:=HA (pl:=it.plane) (Ff hc);obtain⟨s1,s2,-,s4⟩:=hs;exact Q7r (by omega) (by omega) (by omega)
theorem Qii {it:Itm} (h:Dp it):∀p∈CM it,bd 67108864 p:=by
 intro p hp;unfold CM at hp;split at hp
 ·rename_i h3;simp only[List.mem_map]at hp;obtain⟨s,hs,rfl⟩:=hp;exact Za5 (h.2.2.2 h3).2.2.1 (Qrv h h3 s hs)
 ·simp at hp;rcases hp with rfl|rfl
  ·exact AV (Ff h.2.1) (by decide)
  ·exact AV (Ff h.2.2.1) (by decide)
theorem Qqt (it:Itm):2<=(CM it).length/\(CM it).length<=65537:=by
 have:=Q55 it;unfold CM;split<;>simp<;>omega
end Go.Bm
namespace Go.Bm
def Hz (t:Itm) (speed:Int):Int:=if t.kind=1 then 0 else mx (Bd (mn (if t.perRev=true then t.feed*mx speed 1 else t.feed) 60000000*4096) 60000) 1
theorem Zjk {f s:Int} (hf:0<=f/\f<=60000000) (hs:0<=s/\s<=30000):0<=f*mx s 1/\f*mx s 1<=1800000000000:=by
 have h1:1<=mx s 1/\mx s 1<=30000:=by unfold mx;split<;>omega
 generalize mx s 1=m at*;have h2:=Int.mul_le_mul hf.2 h1.2 (by omega) (by omega);have h3:=Int.mul_nonneg hf.1 (show 0<=m by omega);omega
theorem Qpx {x:Int} (h:0<=x):0<=mn x 60000000/\mn x 60000000<=60000000:=by unfold mn;split<;>omega
theorem Zqx {M:Fn} {t:Itm} {speed:Int} (hf:0<=t.feed/\t.feed<=60000000) (hs:0<=speed/\speed<=30000)
  (hM:∀a:Int,0<=a/\a<=60000000->M [I a,I 4096,I 60000,I 2]=some [I (Bd (a*4096) 60000),B true]):Qjy M (Ag t++[I speed])=some [I (Hz t speed)]:=by
 have h1:=Zjk hf hs;have h2:=hM _ (Qpx h1.1);have h3:=hM _ (Qpx hf.1);have h4:IntKind.i64.wrap (t.feed*mx speed 1)=t.feed*mx speed 1:=Ae (by omega);simp only[Ag,List.cons_append,List.nil_append];rw[Qzf,h4];simp only[go_sem,h2,h3];unfold Hz;by_cases g1:t.kind=1
 ·rw[if_pos g1,if_pos g1]
 ·rw[if_neg g1,if_neg g1];by_cases g2:t.perRev=true
  ·rw[if_pos g2,if_pos g2]
  ·rw[if_neg g2,if_neg g2]
theorem Zrt {t:Itm} {speed:Int} (hf:0<=t.feed/\t.feed<=60000000) (hs:0<=speed/\speed<=30000):JH (Ag t++[I speed])=some [I (Hz t speed)]:=
 Zqx hf hs fun a ha=>SO (by unfold i64;omega) (by unfold i64;omega) (by omega) (by have:a.natAbs*(4096:Int).natAbs<=60000000*4096:=Nat.mul_le_mul (by omega) (by omega);omega)
end Go.Bm
namespace Go.Bm
def it0:Itm:=⟨0,0,⟨0,0,0⟩,⟨0,0,0⟩,0,⟨0,0,0⟩,0,false,0,false,0,0,0,0,0,false⟩
def itA (items:List Itm) (i:Nat):Itm:=items.getD i it0
theorem Qw {items:List Itm} {i:Nat} (h:i<items.length):itA items i=items[i]:=by unfold itA;simp[h]
theorem Q14 {items:List Itm} {i:Nat} (h:i<items.length):itA items i∈items:=by rw[Qw h];exact List.getElem_mem h
theorem E_ {items:List Itm} {i:Nat} (h:i<items.length):nth [] (items.map Ag) i=Ag (itA items i):=by rw[Qw h];exact IW _ _ _ _ h
theorem Zj {items:List Itm} {i:Nat} (h:i<items.length):items.drop i=itA items i::items.drop (i+1):=by rw[Qw h];exact NB _ _ h
def AF (it:Itm):Prop:=1<=it.kind/\it.kind<=6
def smI (it:Itm):Prop:=it.kind=2/\it.fr≠it.to
def syI (it:Itm):Prop:=it.kind=5\/it.kind=6
instance (it:Itm):Decidable (AF it):=by unfold AF;infer_instance
instance (it:Itm):Decidable (smI it):=by unfold smI;infer_instance
instance (it:Itm):Decidable (syI it):=by unfold syI;infer_instance
def A9 (it:Itm):Pt:=⟨(it.fr.x+it.to.x)*8,(it.fr.y+it.to.y)*8,(it.fr.z+it.to.z)*8⟩
theorem KG {it:Itm} (h1:bd 1048576 it.fr) (h2:bd 1048576 it.to):bd B24 (A9 it):=by
 unfold bd B24 A9 at*;simp only;omega
def G1:List Itm->Nat->Int
 |[],_=> -1
 |it::l,k=>if it.kind=10 then G1 l (k+1)else if smI it then k else-1
def B8 (items:List Itm) (i:Nat):Int:=if smI (itA items i)/\(itA items i).blend≠0 then G1 (items.drop (i+1)) (i+1)else-1
theorem Q45:∀(l:List Itm) (k:Nat),G1 l k= -1\/∃j:Nat,G1 l k=((k+j:Nat):Int)/\∃h:j<l.length,smI l[j]/\∀i (hi:i<l.length),i<j->l[i].kind=10
 |[],_=> .inl rfl
 |it::l,k=>by
  unfold G1;split
  ·rename_i h10;rcases Q45 l (k+1)with h|⟨j,h1,h2,h3,h4⟩
   ·exact .inl h
   ·refine .inr ⟨j+1,by rw[h1];omega,by simp;omega,by simpa using h3,?_⟩;intro i hi hij;cases i with
    |zero=>simpa using h10
    |succ i=>simpa using h4 i (by simpa using hi) (by omega)
  ·split
   ·rename_i hs;exact .inr ⟨0,by simp,by simp,by simpa using hs,fun i _ hi=>by omega⟩
   ·exact .inl rfl
theorem Qe4 (items:List Itm) (i:Nat):B8 items i= -1\/(smI (itA items i)/\(itA items i).blend≠0/\∃k:Nat,B8 items i=k/\i<k/\k<items.length/\smI (itA items k)/\∀j,i<j->j<k->(itA items j).kind=10):=by
 unfold B8;split
 ·rename_i h;rcases Q45 (items.drop (i+1)) (i+1)with h1|⟨j,h1,h2,h3,h4⟩
  ·exact .inl h1
  ·have h5:i+1+j<items.length:=by rw[List.length_drop]at h2;omega
   refine .inr ⟨h.1,h.2,i+1+j,h1,by omega,h5,?_,?_⟩
   ·rw[Qw h5];rw[List.getElem_drop]at h3;exact h3
   ·intro m hm1 hm2;have:=h4 (m-(i+1)) (by omega) (by omega);rw[List.getElem_drop]at this;rw[Qw (by omega)];have e:i+1+(m-(i+1))=m:=by omega
    simp only[e]at this;exact this
 ·exact .inl rfl
def SQ (it:Itm):Int:=if it.kind=10 then 5 else if it.kind=13 then 4 else 3
def Hn:List Itm->Int
 |[]=>2
 |it::l=>if AF it then(if syI it then 1 else 2)else Hn l
def Sd (items:List Itm) (i:Nat):Int:=if(itA items i).kind=4 then 6 else if(itA items i).blend=0 then 1 else if syI (itA items i)then 1 else Hn (items.drop (i+1))
noncomputable def Hr (items:List Itm) (i k:Nat):List Pt:=FQ (A9 (itA items i)) (Ax (itA items i).to) (A9 (itA items k)) ((itA items i).blend*16)
def drawn (it:Itm):Prop:=Dp it/\0<=it.blend/\it.blend<=1000
theorem Lh {items:List Itm} {i k:Nat} (h1:drawn (itA items i)) (h2:drawn (itA items k)):(∀p∈Hr items i k,bd B24 p)/\1<=(Hr items i k).length/\(Hr items i k).length<=65:=
 Q7d (KG h1.1.2.1 h1.1.2.2.1) (Ff h1.1.2.2.1) (KG h2.1.2.1 h2.1.2.2.1)
noncomputable def II (items:List Itm) (i:Nat) (frm:Int):List Pt:=if 0<=frm then(Hr items frm.toNat i).drop ((Hr items frm.toNat i).length/2)else(CM (itA items i)).take 1
noncomputable def KB (items:List Itm) (i:Nat):List Pt:=if 0<=B8 items i then(Hr items i (B8 items i).toNat).take ((Hr items i (B8 items i).toNat).length/2+1)else(CM (itA items i)).drop 1
noncomputable def Cn (items:List Itm) (i:Nat) (frm:Int):List Pt:=if smI (itA items i)then II items i frm++[A9 (itA items i)]++KB items i else CM (itA items i)
def LU (items:List Itm) (i:Nat) (frm:Int):Prop:=frm= -1\/∃f:Nat,frm=f/\f<items.length/\drawn (itA items f)
theorem Zmv {items:List Itm} {i:Nat} {frm:Int} (hd:drawn (itA items i)) (hf:LU items i frm):(∀p∈II items i frm,bd 67108864 p)/\(II items i frm).length<=65:=by
 unfold II;rcases hf with rfl|⟨f,rfl,hf1,hf2⟩
 ·rw[if_neg (by omega)];exact⟨fun p hp=>Qii hd.1 p (List.mem_of_mem_take hp),by rw[List.length_take];omega⟩
 ·rw[if_pos (by omega)];obtain⟨h1,h2,h3⟩:=Lh (items:=items) (i:=(f:Int).toNat) (k:=i) (by simpa using hf2) hd;exact⟨fun p hp=>AV (h1 p (List.mem_of_mem_drop hp)) (by decide),by rw[List.length_drop];omega⟩
theorem RM {items:List Itm} {i:Nat} (hall:∀k<items.length,AF (itA items k)->drawn (itA items k)) (hs:0<=B8 items i):∃k:Nat,B8 items i=k/\k<items.length/\drawn (itA items k):=by
 rcases Qe4 items i with h|⟨-,-,k,h1,-,h2,h3,-⟩
 ·omega
 ·exact⟨k,h1,h2,hall k h2 ⟨by have:=h3.1;omega,by have:=h3.1;omega⟩⟩
theorem Zrl {items:List Itm} {i:Nat} (hd:drawn (itA items i)) (h2:(itA items i).kind≠3) (hall:∀k<items.length,AF (itA items k)->drawn (itA items k)):(∀p∈KB items i,bd 67108864 p)/\(KB items i).length<=66:=by
 unfold KB;by_cases h:0<=B8 items i
 ·rw[if_pos h];obtain⟨k,hk,hk1,hk2⟩:=RM hall h;obtain⟨h1,h2,h3⟩:=Lh (items:=items) (i:=i) (k:=(B8 items i).toNat) hd (by rw[hk];simpa using hk2);exact⟨fun p hp=>AV (h1 p (List.mem_of_mem_take hp)) (by decide),by rw[List.length_take];omega⟩
 ·rw[if_neg h];refine⟨fun p hp=>Qii hd.1 p (List.mem_of_mem_drop hp),?_⟩;unfold CM;rw[if_neg h2];simp
theorem Qmk {items:List Itm} {i:Nat} {frm:Int} (hd:drawn (itA items i)) (hf:LU items i frm) (hall:∀k<items.length,AF (itA items k)->drawn (itA items k)):
  (∀p∈Cn items i frm,bd 67108864 p)/\(Cn items i frm).length<=65537:=by
 unfold Cn;by_cases hs:smI (itA items i)
 ·rw[if_pos hs];obtain⟨h1,h2⟩:=Zmv hd hf;obtain⟨h3,h4⟩:=Zrl hd (by have:=hs.1;omega) hall;refine⟨fun p hp=> ?_,by rw[List.length_append,List.length_append];simp;omega⟩;rcases List.mem_append.1 hp with hp|hp
  ·rcases List.mem_append.1 hp with hp|hp
   ·exact h1 p hp
   ·simp at hp;subst hp;exact AV (KG hd.1.2.1 hd.1.2.2.1) (by decide)
  ·exact h3 p hp
 ·rw[if_neg hs];exact⟨Qii hd.1,(Qqt _).2⟩
theorem Qpl (l:List Pt):List.drop (Int.toNat 1) (l.map ptR)=(l.drop 1).map ptR:=by rw[show Int.toNat 1=1 from rfl,List.map_drop]
theorem SH (l:List Pt):List.take (Int.toNat 1) (l.map ptR)=(l.take 1).map ptR:=by rw[show Int.toNat 1=1 from rfl,List.map_take]
end Go.Bm
namespace Go.Bm
open Classical
def Cd (it:Itm):Prop:=it.kind<1\/it.kind>14\/(AF it/\(¬Dp it\/(it.kind≠1/\(it.feed<1\/it.feed>60000000))\/it.blend<0\/it.blend>1000))\/(¬AF it/\it.kind=8/\(it.n<3\/it.n>5\/it.speed<0\/it.speed>30000))
noncomputable def Gn (items:List Itm):Nat->Nat->Int->Int
 |0,_,_=>0
 |k+1,i,last=>if Cd (itA items i)then 1 else if AF (itA items i)then(if 0<=last/\(itA items last.toNat).to≠(itA items i).fr then 13 else Gn items k (i+1) i)else Gn items k (i+1) last
noncomputable def Dd (items:List Itm):Int:=if items.length>20000 then 10 else Gn items items.length 0 (-1)
theorem Qmo {items:List Itm}:∀(k i:Nat) (last:Int),i+k=items.length->Gn items k i last=0->∀j,i<=j->j<items.length-> ¬Cd (itA items j)
 |0,i,last,hi,_,j,h1,h2=>by omega
 |k+1,i,last,hi,h,j,h1,h2=>by
  unfold Gn at h;split at h
  ·omega
  ·rename_i c;by_cases hij:j=i
   ·subst hij;exact c
   ·split at h
    ·split at h
     ·omega
     ·exact Qmo k (i+1) _ (by omega) h j (by omega) h2
    ·exact Qmo k (i+1) _ (by omega) h j (by omega) h2
theorem O2 {items:List Itm} (h:Dd items=0):items.length<=20000/\∀j,j<items.length-> ¬Cd (itA items j):=by
 unfold Dd at h;split at h
 ·omega
 ·exact⟨by omega,fun j hj=>Qmo _ 0 _ (by omega) h j (by omega) hj⟩
theorem LS {it:Itm} (h: ¬Cd it) (hm:AF it):drawn it/\(it.kind=1\/1<=it.feed/\it.feed<=60000000):=by
 unfold Cd at h;have hv:Dp it:=by
  by_cases c:Dp it
  ·exact c
  ·exact absurd (.inr (.inr (.inl ⟨hm, .inl c⟩))) h
 have h2: ¬((it.kind≠1/\(it.feed<1\/it.feed>60000000))\/it.blend<0\/it.blend>1000):=fun c=>h (.inr (.inr (.inl ⟨hm, .inr c⟩)));exact⟨⟨hv,by omega,by omega⟩,by omega⟩
theorem Zjs {it:Itm} (h: ¬Cd it) (h8:it.kind=8):0<=it.speed/\it.speed<=30000:=by
 unfold Cd at h;have hm: ¬AF it:=fun c=>by have:=c.2;omega
 have h2: ¬(it.n<3\/it.n>5\/it.speed<0\/it.speed>30000):=fun c=>h (.inr (.inr (.inr ⟨hm,h8,c⟩)));omega
noncomputable def A7 (item feed lead:Int) (s:List Sgm×Int×Pt) (q:Pt):List Sgm×Int×Pt:=if q=s.2.2 then s else(s.1++[⟨q,AB s.2.2 q,item,feed,lead⟩],s.2.1+AB s.2.2 q,q)
theorem S4 {item feed lead:Int}:∀(pts:List Pt) (s:List Sgm×Int×Pt),(∀p∈pts,bd 67108864 p)->bd 67108864 s.2.2->0<=s.2.1->
  (pts.foldl (A7 item feed lead) s).1.length<=s.1.length+pts.length/\s.2.1<=(pts.foldl (A7 item feed lead) s).2.1/\(pts.foldl (A7 item feed lead) s).2.1<=s.2.1+pts.length*268435456/\bd 67108864 (pts.foldl (A7 item feed lead) s).2.2
 |[],s,_,h2,h3=>⟨by simp,by simp,by simp,h2⟩
 |q::pts,s,h1,h2,h3=>by
  rw[List.foldl_cons];have hq:=h1 q (by simp);have hl:=Ih h2 hq;have hs:A7 item feed lead s q=s\/A7 item feed lead s q=(s.1++[⟨q,AB s.2.2 q,item,feed,lead⟩],s.2.1+AB s.2.2 q,q):=by unfold A7;split<;>simp
  rcases hs with hs|hs
  ·rw[hs];obtain⟨a,b,c,d⟩:=S4 pts s (fun p hp=>h1 p (by simp[hp])) h2 h3 (item:=item) (feed:=feed) (lead:=lead);exact⟨by simp;omega,b,by simp;omega,d⟩
  ·rw[hs];obtain⟨a,b,c,d⟩:=S4 pts (s.1++[⟨q,AB s.2.2 q,item,feed,lead⟩],s.2.1+AB s.2.2 q,q) (fun p hp=>h1 p (by simp[hp])) hq (by simp only;omega) (item:=item) (feed:=feed) (lead:=lead);simp only[List.length_append,List.length_cons,List.length_nil]at a b c;exact⟨by simp;omega,by omega,by simp;omega,d⟩
structure BSt where
 segs:List Sgm
 marks:List Mrk
 (len speed frm:Int)
 begun:Bool
 (start at_:Pt)
def NX (it:Itm):Int:=if syI it then mn (it.feed*16) 16777216 else 0
def Pi (it:Itm) (s:Int):Int:=if it.kind=8/\(it.n=3\/it.n=4)then it.speed else s
noncomputable def FM (items:List Itm) (i:Nat) (s:BSt):List Sgm×Int×Pt:=
 (Cn items i s.frm).foldl (A7 i (Hz (itA items i) s.speed) (NX (itA items i))) (s.segs,s.len,if s.begun=true then s.at_ else Ax (itA items i).fr)
noncomputable def FG (items:List Itm) (i:Nat) (s:BSt):BSt:=
 if AF (itA items i)then
  ⟨(FM items i s).1,s.marks++[⟨(FM items i s).2.1,Sd items i,i⟩],(FM items i s).2.1,s.speed,if 0<=B8 items i then i else-1,true,if s.begun=true then s.start else Ax (itA items i).fr,(FM items i s).2.2⟩
 else⟨s.segs,s.marks++[⟨s.len,SQ (itA items i),i⟩],s.len,Pi (itA items i) s.speed,s.frm,s.begun,s.start,s.at_⟩
noncomputable def Aw (items:List Itm):Nat->BSt
 |0=>⟨[],[],0,0,-1,false,⟨0,0,0⟩,⟨0,0,0⟩⟩
 |i+1=>FG items i (Aw items i)
structure BOK (items : List Itm) (i : Nat) (s : BSt) : Prop where
 segs:s.segs.length<=i*65537
 marks:s.marks.length=i
 len:0<=s.len/\s.len<=i*65537*268435456
 speed:0<=s.speed/\s.speed<=30000
 frm:LU items i s.frm
 at_:s.begun=true->bd 67108864 s.at_
theorem Qw7 {items:List Itm} {i:Nat} {s:BSt} (hi:i<items.length) (hright:∀j<items.length,¬Cd (itA items j)) (h:BOK items i s):BOK items (i+1) (FG items i s):=by
 have hall:∀k<items.length,AF (itA items k)->drawn (itA items k):=fun k hk hm=>(LS (hright k hk) hm).1;unfold FG;by_cases hm:AF (itA items i)
 ·rw[if_pos hm];have hd:=hall i hi hm;obtain⟨p1,p2⟩:=Qmk hd h.frm hall;have ha:bd 67108864 (if s.begun=true then s.at_ else Ax (itA items i).fr):=by
   by_cases hb:s.begun=true
   ·rw[if_pos hb];exact h.at_ hb
   ·rw[if_neg hb];exact AV (Ff hd.1.2.1) (by decide)
  obtain⟨a1,a2,a3,a4⟩:=S4 (item:=i) (feed:=Hz (itA items i) s.speed) (lead:=NX (itA items i)) (Cn items i s.frm) (s.segs,s.len,if s.begun=true then s.at_ else Ax (itA items i).fr) p1 ha h.len.1;have h1:=h.segs;have h2:=h.len;have e1:(i+1)*65537=i*65537+65537:=by rw[Nat.succ_mul]
  refine⟨?_,?_,?_,h.speed,?_,fun _=>a4⟩
  ·simp only at a1;show(FM items i s).1.length<=_;unfold FM;omega
  ·show(s.marks++[_]).length=_;rw[List.length_append,h.marks];rfl
  ·show 0<=(FM items i s).2.1/\(FM items i s).2.1<=_;unfold FM;simp only at a2 a3;have e2:(((i+1:Nat):Int))*65537*268435456=(i:Int)*65537*268435456+65537*268435456:=by
    rw[Int.natCast_add,Int.natCast_one,Int.add_mul,Int.add_mul];rfl
   constructor
   ·omega
   ·rw[e2];omega
  ·show LU items (i+1) (if 0<=B8 items i then(i:Int)else-1);split
   ·exact .inr ⟨i,rfl,hi,hd⟩
   ·exact .inl rfl
 ·rw[if_neg hm];have h2:=h.len;have h3:=h.segs;have e1:(i+1)*65537=i*65537+65537:=by rw[Nat.succ_mul]
  refine⟨by show s.segs.length<=_;rw[e1];exact Nat.le_trans h3 (Nat.le_add_right _ _),?_,?_,?_,h.frm,h.at_⟩
  ·show(s.marks++[_]).length=_;rw[List.length_append,h.marks];rfl
  ·have e2:(((i+1:Nat):Int))*65537*268435456=(i:Int)*65537*268435456+65537*268435456:=by
    rw[Int.natCast_add,Int.natCast_one,Int.add_mul,Int.add_mul];rfl
   show 0<=s.len/\s.len<=_;rw[e2];omega
  ·show 0<=Pi (itA items i) s.speed/\Pi (itA items i) s.speed<=30000;unfold Pi;split
   ·rename_i h8;exact Zjs (hright i hi) h8.1
   ·exact h.speed
theorem Zke (items:List Itm):BOK items 0 ⟨[],[],0,0,-1,false,⟨0,0,0⟩,⟨0,0,0⟩⟩:=by
 refine⟨Nat.zero_le _,List.length_nil,⟨Int.le_refl _,?_⟩,⟨Int.le_refl _,?_⟩, .inl rfl,fun h=>by cases h⟩
 ·show(0:Int)<=((0:Nat):Int)*65537*268435456;rw[show((0:Nat):Int)=0 from rfl,Int.zero_mul,Int.zero_mul];exact Int.le_refl _
 ·show(0:Int)<=30000;omega
theorem Nb {items:List Itm} (hright:∀j<items.length,¬Cd (itA items j)):∀i,i<=items.length->BOK items i (Aw items i)
 |0,_=>by rw[Aw];exact Zke items
 |i+1,hi=>by rw[Aw];exact Qw7 (by omega) hright (Nb hright i (by omega))
end Go.Bm
namespace Go.Bm
open Classical
end Go.Bm
namespace Go.Bm
open Classical
noncomputable def A3 (items:List Itm):Pth:=⟨(Aw items items.length).start,(Aw items items.length).segs,(Aw items items.length).marks⟩
end Go.Bm
namespace Go.Bm
open Classical
def Fb:Pt->List Sgm->Pt
 |a,[]=>a
 |_,g::l=>Fb g.to l
abbrev B26:Nat:=67108864
def Na:Pt->List Sgm->Prop
 |_,[]=>True
 |a,g::l=>g.len=AB a g.to/\g.to≠a/\bd B26 g.to/\Na g.to l
def AT:List Sgm->Int
 |[]=>0
 |g::l=>g.len+AT l
theorem RB (g:Sgm):∀(a:Pt) (l:List Sgm),Fb a (l++[g])=g.to
 |_,[]=>rfl
 |_,h::l=>by simp only[List.cons_append,Fb];exact RB g h.to l
theorem Qsk {g:Sgm}:∀{a:Pt} {l:List Sgm},Na a l->g.len=AB (Fb a l) g.to->g.to≠Fb a l->bd B26 g.to->Na a (l++[g])
 |a,[],_,h1,h2,h3=>⟨h1,h2,h3,trivial⟩
 |a,k::l,h,h1,h2,h3=>⟨h.1,h.2.1,h.2.2.1,Qsk h.2.2.2 h1 h2 h3⟩
theorem Qb7 (g:Sgm):∀(l:List Sgm),AT (l++[g])=AT l+g.len
 |[]=>by simp[AT]
 |k::l=>by simp only[List.cons_append,AT];rw[Qb7 g l];omega
def Qjr (start:Pt) (s:List Sgm×Int×Pt):Prop:=Na start s.1/\Fb start s.1=s.2.2/\AT s.1=s.2.1
theorem X3 {start:Pt} {item feed lead:Int}:∀(pts:List Pt) (s:List Sgm×Int×Pt),(∀p∈pts,bd B26 p)->Qjr start s->Qjr start (pts.foldl (A7 item feed lead) s)
 |[],s,_,h=>h
 |q::pts,s,hp,h=>by
  rw[List.foldl_cons];refine X3 pts _ (fun p hp'=>hp p (by simp[hp'])) ?_;unfold A7;by_cases c:q=s.2.2
  ·rw[if_pos c];exact h
  ·rw[if_neg c];obtain⟨h1,h2,h3⟩:=h;refine⟨Qsk h1 (by rw[h2]) (by rw[h2];exact c) (hp q (by simp)),RB _ _ _,?_⟩;simp only[Qb7,h3]
structure BInv (s : BSt) : Prop where
 begun:s.begun=true->bd B26 s.start/\Qjr s.start (s.segs,s.len,s.at_)
 empty:s.begun=false->s.segs=[]/\s.len=0/\s.start=⟨0,0,0⟩
theorem Zep {items:List Itm} {i:Nat} {s:BSt} (hi:i<items.length) (hright:∀j<items.length,¬Cd (itA items j)) (hok:BOK items i s) (h:BInv s):BInv (FG items i s):=by
 have hall:∀k<items.length,AF (itA items k)->drawn (itA items k):=fun k hk hm=>(LS (hright k hk) hm).1;unfold FG;by_cases hm:AF (itA items i)
 ·rw[if_pos hm];have hd:=hall i hi hm;obtain⟨p1,-⟩:=Qmk hd hok.frm hall;refine⟨fun _=> ?_,fun hb=>(by cases hb)⟩;unfold FM;by_cases hb:s.begun=true
  ·rw[if_pos hb,if_pos hb];obtain⟨g1,g2⟩:=h.begun hb;exact⟨g1,X3 _ _ p1 g2⟩
  ·rw[if_neg hb,if_neg hb];obtain⟨g1,g2,g3⟩:=h.empty (by simpa using hb);refine⟨AV (Ff hd.1.2.1) (by decide),X3 _ _ p1 ?_⟩;rw[g1,g2];exact⟨trivial,rfl,rfl⟩
 ·rw[if_neg hm];exact⟨h.begun,h.empty⟩
theorem Rj {items:List Itm} (hright:∀j<items.length,¬Cd (itA items j)):∀i,i<=items.length->BInv (Aw items i)
 |0,_=>by rw[Aw];exact⟨fun h=>(by cases h),fun _=>⟨rfl,rfl,rfl⟩⟩
 |i+1,hi=>by rw[Aw];exact Zep (by omega) hright (Nb hright i (by omega)) (Rj hright i (by omega))
structure GoodPath (p : Pth) : Prop where
 start:bd B26 p.start
 segs:Na p.start p.segs
 count:p.segs.length<=983055
theorem Qtk {items:List Itm} (hlen:items.length<=15) (hc:Dd items=0):GoodPath (A3 items):=by
 have hright:=(O2 hc).2;have h1:=Nb hright items.length (Nat.le_refl _);have h2:=Rj hright items.length (Nat.le_refl _);have hs:=h1.segs;unfold A3;by_cases hb:(Aw items items.length).begun=true
 ·obtain⟨g1,g2,-⟩:=h2.begun hb;exact⟨g1,g2,by simp only;omega⟩
 ·obtain⟨g1,-,g3⟩:=h2.empty (by simpa using hb);refine⟨?_,?_,?_⟩
  ·simp only[g3];unfold bd;simp
  ·simp only[g1];trivial
  ·simp only[g1];simp
theorem Qxu {a b:Pt} (ha:bd B26 a) (hb:bd B26 b) (h:b≠a):1<=AB a b/\AB a b<=268435456:=by
 obtain⟨-,h1,h2,-⟩:=Qm9 ha hb;have h3:sqD a b≠0:=fun e=>h (Wd.1 e).symm;have h4:=Qa a b;have h5:=Ih ha hb;refine⟨?_,h5.2⟩;by_cases c:AB a b=0
 ·rw[c]at h2;omega
 ·omega
theorem Qh5 {a:Pt} {l:List Sgm} (ha:bd B26 a) (h:Na a l):∀g∈l,1<=g.len/\g.len<=268435456/\bd B26 g.to:=by
 induction l generalizing a with
 |nil=>simp
 |cons k l ih=>
  obtain⟨h1,h2,h3,h4⟩:=h;intro g hg;rcases List.mem_cons.1 hg with rfl|hg
  ·rw[h1];exact⟨(Qxu ha h3 h2).1,(Qxu ha h3 h2).2,h3⟩
  ·exact ih h3 h4 g hg
theorem YK {l:List Sgm} (h:∀g∈l,1<=g.len/\g.len<=268435456/\bd B26 g.to):(l.length:Int)<=AT l/\AT l<=l.length*268435456:=by
 induction l with
 |nil=>simp[AT]
 |cons k l ih=>
  have:=ih fun g hg=>h g (by simp[hg]);have:=h k (by simp);simp only[AT,List.length_cons];omega
end Go.Bm
namespace Go.Bm
open Classical
def OB (a:Pt) (g:Sgm) (d:Int):Pt:=⟨a.x+Bd ((g.to.x-a.x)*d) g.len,a.y+Bd ((g.to.y-a.y)*d) g.len,a.z+Bd ((g.to.z-a.z)*d) g.len⟩
def atL:Pt->List Sgm->Int->Pt
 |a,[],_=>a
 |a,g::l,s=>if s<g.len then OB a g s else atL g.to l (s-g.len)
def atP (p:Pth) (s:Int):Pt:=atL p.start p.segs (max s 0)
def Bb:List Sgm->Int->Nat×Int
 |[],s=>(0,s)
 |[g],s=>if s<g.len then(0,s)else(0,g.len)
 |g::h::l,s=>if s<g.len then(0,s)else((Bb (h::l) (s-g.len)).1+1,(Bb (h::l) (s-g.len)).2)
def ER (a:Pt) (l:List Sgm) (i:Nat):Pt:=Fb a (l.take i)
def sg0:Sgm:=⟨⟨0,0,0⟩,0,0,0,0⟩
def sgA (l:List Sgm) (i:Nat):Sgm:=l.getD i sg0
theorem Nk {l:List Sgm} {i:Nat} (h:i<l.length):sgA l i=l[i]:=by unfold sgA;simp[h]
theorem Lr {l:List Sgm} {i:Nat} (h:i<l.length):nth [] (l.map Ay) i=Ay (sgA l i):=by rw[Nk h];exact IW _ _ _ _ h
theorem HG {l:List Sgm} {i:Nat} (h:i<l.length):sgA l i∈l:=by rw[Nk h];exact List.getElem_mem h
theorem JA (a:Pt) (l:List Sgm):ER a l 0=a:=by unfold ER;simp[Fb]
theorem Yx (a:Pt) (g:Sgm) (l:List Sgm) (i:Nat):ER a (g::l) (i+1)=ER g.to l i:=by unfold ER;rw[List.take_succ_cons];rfl
theorem Qhv (g:Sgm) (l:List Sgm) (i:Nat):sgA (g::l) (i+1)=sgA l i:=by unfold sgA;simp
theorem Ts:∀{l:List Sgm} {i:Nat} {a:Pt},i<l.length->ER a l (i+1)=(sgA l i).to
 |g::l,0,a,_=>by rw[Yx,JA];rfl
 |g::l,i+1,a,h=>by rw[Yx,Qhv];exact Ts (by simpa using h)
theorem Qiw {x n:Int} (hn:0<n):Bd (x*n) n=x:=Q1 hn
theorem Zui {a:Pt} {g:Sgm} (h:0<g.len):OB a g g.len=g.to:=by
 unfold OB;rw[Qiw h,Qiw h,Qiw h];rw[D8];exact⟨by simp only;omega,by simp only;omega,by simp only;omega⟩
theorem Qm8:∀{l:List Sgm} {a:Pt} {s:Int},l≠[]->(∀g∈l,1<=g.len)->0<=s->
  (Bb l s).1<l.length/\0<=(Bb l s).2/\(Bb l s).2<=(sgA l (Bb l s).1).len/\atL a l s=OB (ER a l (Bb l s).1) (sgA l (Bb l s).1) (Bb l s).2
 |[],_,_,h,_,_=>absurd rfl h
 |[g],a,s,_,hg,hs=>by
  have h1:=hg g (by simp);unfold Bb;by_cases c:s<g.len
  ·rw[if_pos c];refine⟨by simp,hs,by show s<=g.len;omega,?_⟩;unfold atL;rw[if_pos c,JA];rfl
  ·rw[if_neg c];refine⟨by simp,by simp only;omega,Int.le_refl _,?_⟩;unfold atL;rw[if_neg c,JA];show atL g.to [] _=OB a g g.len;rw[Zui (by omega)];rfl
 |g::h::l,a,s,_,hg,hs=>by
  have h1:=hg g (by simp);unfold Bb;by_cases c:s<g.len
  ·rw[if_pos c];refine⟨by simp,hs,by show s<=g.len;omega,?_⟩;unfold atL;rw[if_pos c,JA];rfl
  ·rw[if_neg c];obtain⟨k1,k2,k3,k4⟩:=Qm8 (l:=h::l) (a:=g.to) (s:=s-g.len) (by simp) (fun k hk=>hg k (by simp at hk⊢;exact .inr hk)) (by omega);refine⟨by simp at k1⊢;omega,k2,?_,?_⟩
   ·simp only[Qhv];exact k3
   ·rw[show atL a (g::h::l) s=atL g.to (h::l) (s-g.len)from by rw[atL,if_neg c]];simp only[Yx,Qhv];exact k4
theorem Qbk {x n:Int} {A:Nat} (hn:0<n) (h: -(A*n)<=x/\x<=A*n):(Bd x n).natAbs<=A:=by
 have m1:=Se hn h.2;have m2:=Se hn h.1;rw[show-((A:Int)*n)= -(A:Int)*n by rw[Int.neg_mul]]at m2;rw[Q1 hn]at m1 m2;omega
theorem Q7i {D L d:Int} (hL:0<L) (hD:D.natAbs<=134217728) (hd:0<=d/\d<=L):(Bd (D*d) L).natAbs<=134217728:=by
 refine Qbk hL ?_;have h1:D*d<=134217728*d:=Int.mul_le_mul_of_nonneg_right (by omega) hd.1;have h2: -134217728*d<=D*d:=Int.mul_le_mul_of_nonneg_right (by omega) hd.1;have e:((134217728:Nat):Int)=134217728:=rfl;rw[e];omega
structure SegOK (l : List Sgm) : Prop where
 seg:∀g∈l,1<=g.len/\g.len<=268435456/\bd B26 g.to
 count:l.length<=983055
theorem GoodPath.ok {p:Pth} (h:GoodPath p):SegOK p.segs:=⟨Qh5 h.start h.segs,h.count⟩
theorem Qz6 {a:Pt} {l:List Sgm} (ha:bd B26 a) (h:SegOK l) {i:Nat} (hi:i<l.length):bd B26 (ER a l i):=by
 cases i with
 |zero=>rw[JA];exact ha
 |succ i=>rw[Ts (by omega)];exact(h.seg _ (HG (by omega))).2.2
theorem Qqe {l:List Sgm} (h:SegOK l):∀(k i:Nat) (v:Int),i+k=l.length->0<=v->v+k*268435456<=4000000000000000000->
  An RQ [I v, .view Ah (l.map Ay),I l.length,I i]=some (1,[I (v+AT (l.drop i))])
 |0,i,v,hi,_,_=>by
  refine A5 ?_ (by simp);rw[Q6e,AX (by omega),List.drop_of_length_le (by omega)];simp[AT]
 |k+1,i,v,hi,h0,h1=>by
  have hlt:i<l.length:=by omega
  have hcn:=h.count;have hg:=h.seg _ (HG hlt);have hst:RQ [I v, .view Ah (l.map Ay),I l.length,I i]=some (0,[I (v+(sgA l i).len), .view Ah (l.map Ay),I l.length,I (i+1:Nat)]):=by
   rw[Q6e];simp only[go_sem,List.length_map,Int.toNat_natCast,Lr hlt];rw[if_pos (by omega),if_pos (by omega),Ae (x:=v+_) (by omega),Ae (by omega)];rfl
  rw[Bv hst,Qqe h k (i+1) _ (by omega) (by omega) (by omega)];have e:l.drop i=sgA l i::l.drop (i+1):=by rw[Nk hlt];exact NB _ _ hlt
  rw[e];simp only[AT,Int.add_assoc]
theorem Qt5 {p:Pth} (h:SegOK p.segs):IM (By p)=some [I (AT p.segs)]:=by
 have hl:=Qqe h p.segs.length 0 0 (by omega) (by omega) (by have:=h.count;omega);have hl':Ro [I 0, .view Ah (p.segs.map Ay),I p.segs.length,I 0]=some (1,[I (0+AT (p.segs.drop 0))]):=hl;rw[List.drop_zero,Int.zero_add]at hl';unfold IM;generalize Ro=N at*;rw[Znb];simp only[go_sem,List.length_map,hl']
theorem Qyg {g h:Sgm} {l:List Sgm} {s:Int} (c: ¬s<g.len):Bb (g::h::l) s=((Bb (h::l) (s-g.len)).1+1,(Bb (h::l) (s-g.len)).2):=by rw[Bb,if_neg c]
theorem Qz9 {p:Pth} (h:SegOK p.segs):∀(k i:Nat) (s:Int),i+k=p.segs.length->1<=k->0<=s/\s<=9223372036854775807->
  An Ra (I s:: .view Ah (p.segs.map Ay)::I p.segs.length::I i::By p)=some (1,[I (i+(Bb (p.segs.drop i) s).1:Nat),I (Bb (p.segs.drop i) s).2])
 |k+1,i,s,hi,_,hs=>by
  have hlt:i<p.segs.length:=by omega
  have hcnt:=h.count;have hg:=h.seg _ (HG hlt);have e:p.segs.drop i=sgA p.segs i::p.segs.drop (i+1):=by rw[Nk hlt];exact NB _ _ hlt
  have hst:Ra (I s:: .view Ah (p.segs.map Ay)::I p.segs.length::I i::By p)=if s<(sgA p.segs i).len then some (1,[I i,I s])else if k=0 then some (1,[I i,I (sgA p.segs i).len])else some (0,I (s-(sgA p.segs i).len):: .view Ah (p.segs.map Ay)::I p.segs.length::I (i+1:Nat)::By p):=by
   rw[Q6z];simp only[go_sem,List.length_map,Int.toNat_natCast,Lr hlt];rw[if_pos (by omega),if_pos (by omega),Ae (x:=(p.segs.length:Int)-1) (by omega),Ae (x:=(i:Int)+1) (by omega)];by_cases c:s<(sgA p.segs i).len
   ·rw[if_pos c,if_pos c]
   ·rw[if_neg c,if_neg c];by_cases c2:k=0
    ·rw[if_pos (by omega),if_pos c2]
    ·rw[if_neg (by omega),if_neg c2,Ae (by omega)];rfl
  by_cases c:s<(sgA p.segs i).len
  ·rw[if_pos c]at hst;rw[A5 hst (by simp),e];cases p.segs.drop (i+1)with
   |nil=>rw[Bb,if_pos c];rfl
   |cons b l=>rw[Bb,if_pos c];rfl
  ·rw[if_neg c]at hst;by_cases c2:k=0
   ·rw[if_pos c2]at hst;rw[A5 hst (by simp),e,List.drop_of_length_le (by omega),Bb,if_neg c];rfl
   ·rw[if_neg c2]at hst;rw[Bv hst,Qz9 h k (i+1) _ (by omega) (by omega) (by omega),e];have e2:p.segs.drop (i+1)=sgA p.segs (i+1)::p.segs.drop (i+1+1):=by rw[Nk (show i+1<p.segs.length by omega)];exact NB _ _ (by omega)
    rw[e2,Qyg c,<-e2];simp only;rw[show i+1+(Bb (p.segs.drop (i+1)) (s-(sgA p.segs i).len)).1=i+((Bb (p.segs.drop (i+1)) (s-(sgA p.segs i).len)).1+1) by omega]
theorem Qiz {p:Pth} (h:SegOK p.segs) {s:Int} (hs:i64 s):EI (By p++[I s])=if p.segs=[]then some [I (-1),I 0]else some [I (Bb p.segs (max s 0)).1,I (Bb p.segs (max s 0)).2]:=by
 unfold i64 at hs;have hmx:mx s 0=max s 0:=mx_max' s 0;by_cases c:p.segs=[]
 ·rw[if_pos c];have hend:NE (I (max s 0):: .view Ah []::I 0::I 0::By p)=some (2,[]):=by
   refine A5 ?_ (by simp);rw[Q6z,AX (by omega)]
  unfold EI;generalize NE=N at*;have he:=Qs6 N p.start.x p.start.y p.start.z (p.segs.map Ay) (p.marks.map At) s;refine Eq.trans he ?_;rw[hmx,c];have hend':N [I (max s 0), .view Ah [],I 0,I 0,I p.start.x,I p.start.y,I p.start.z, .view Ah [], .view AD (p.marks.map At)]=some (2,[]):=by
   have:=hend;unfold By at this;rw[c]at this;exact this
  simp only[go_sem,List.map_nil,List.length_nil];simp only[Int.natCast_zero];rw[hend'];simp
 ·rw[if_neg c];have hpos:0<p.segs.length:=by
   cases hh:p.segs with
   |nil=>exact absurd hh c
   |cons _ _=>simp
  have hL:=Qz9 h p.segs.length 0 (max s 0) (by omega) (by omega) (by omega);have hL':NE [I (max s 0), .view Ah (p.segs.map Ay),I p.segs.length,I 0,I p.start.x,I p.start.y,I p.start.z, .view Ah (p.segs.map Ay), .view AD (p.marks.map At)]=some (1,[I (0+(Bb (p.segs.drop 0) (max s 0)).1:Nat),I (Bb (p.segs.drop 0) (max s 0)).2]):=hL;rw[List.drop_zero,Nat.zero_add]at hL';unfold EI;generalize NE=N at*;have he:=Qs6 N p.start.x p.start.y p.start.z (p.segs.map Ay) (p.marks.map At) s;refine Eq.trans he ?_;rw[hmx];simp only[go_sem,List.length_map,hL']
 where mx_max' (a b:Int):mx a b=max a b:=by unfold mx;rw[Int.max_def];split<;>split<;>omega
theorem Zfv {MM MF:Fn} {p:Pth} (h:GoodPath p) {s:Int} (hF:MF (By p++[I s])=if p.segs=[]then some [I (-1),I 0]else some [I (Bb p.segs (max s 0)).1,I (Bb p.segs (max s 0)).2])
  (hM:∀{a b c:Int},a.natAbs<=134217728->b.natAbs<=268435456->(0<c/\c<=268435456)->MM [I a,I b,I c,I 2]=some [I (Bd (a*b) c),B true]):
  W7 MM MF (By p++[I s])=some (ptR (atP p s)):=by
 have he:=Z2l (AG:=MM) (Dn:=MF) p.start.x p.start.y p.start.z (p.segs.map Ay) (p.marks.map At) s;refine Eq.trans he ?_;simp only[List.cons_append,List.nil_append,By]at hF;unfold atP;by_cases c:p.segs=[]
 ·rw[if_pos c]at hF;simp only[hF,go_sem];rw[if_pos (by omega),c];rfl
 ·rw[if_neg c]at hF;have hok:=h.ok;obtain⟨f1,f2,f3,f4⟩:=Qm8 (l:=p.segs) (a:=p.start) (s:=max s 0) c (fun g hg=>(hok.seg g hg).1) (by omega);rw[f4];have hg:=hok.seg _ (HG f1);have hv:=Qz6 h.start hok f1;have hr:=Lr f1;have hcnt:=hok.count;generalize(Bb p.segs (max s 0)).1=i at*;generalize(Bb p.segs (max s 0)).2=d at*;have hdn:d.natAbs<=268435456:=by omega
  have fin:∀{a:Pt},bd B26 a->(MM [I (IntKind.i64.wrap ((sgA p.segs i).to.x-a.x)),I d,I (sgA p.segs i).len,I 2]=some [I (Bd (((sgA p.segs i).to.x-a.x)*d) (sgA p.segs i).len),B true]/\IntKind.i64.wrap (a.x+Bd (((sgA p.segs i).to.x-a.x)*d) (sgA p.segs i).len)=a.x+Bd (((sgA p.segs i).to.x-a.x)*d) (sgA p.segs i).len)/\
    (MM [I (IntKind.i64.wrap ((sgA p.segs i).to.y-a.y)),I d,I (sgA p.segs i).len,I 2]=some [I (Bd (((sgA p.segs i).to.y-a.y)*d) (sgA p.segs i).len),B true]/\IntKind.i64.wrap (a.y+Bd (((sgA p.segs i).to.y-a.y)*d) (sgA p.segs i).len)=a.y+Bd (((sgA p.segs i).to.y-a.y)*d) (sgA p.segs i).len)/\
    (MM [I (IntKind.i64.wrap ((sgA p.segs i).to.z-a.z)),I d,I (sgA p.segs i).len,I 2]=some [I (Bd (((sgA p.segs i).to.z-a.z)*d) (sgA p.segs i).len),B true]/\IntKind.i64.wrap (a.z+Bd (((sgA p.segs i).to.z-a.z)*d) (sgA p.segs i).len)=a.z+Bd (((sgA p.segs i).to.z-a.z)*d) (sgA p.segs i).len):=by
   intro a ha;have key:∀u v:Int,u.natAbs<=B26->v.natAbs<=B26->MM [I (IntKind.i64.wrap (u-v)),I d,I (sgA p.segs i).len,I 2]=some [I (Bd ((u-v)*d) (sgA p.segs i).len),B true]/\IntKind.i64.wrap (v+Bd ((u-v)*d) (sgA p.segs i).len)=v+Bd ((u-v)*d) (sgA p.segs i).len:=by
    intro u v hu hv;have h1:=In hu hv;rw[H4 h1 (by decide)];refine⟨hM (Nat.le_trans h1 (by decide)) hdn (by omega),?_⟩;exact H4 (RZ hv (Q7i (by omega) (Nat.le_trans h1 (by decide)) ⟨f2,f3⟩)) (by decide)
   exact⟨key _ _ hg.2.2.1 ha.1,key _ _ hg.2.2.2.1 ha.2.1,key _ _ hg.2.2.2.2 ha.2.2⟩
  have hin:(0:Int)<=(i:Int)/\(i:Int)<(p.segs.length:Int):=by omega
  simp only[hF,go_sem,List.length_map,Int.toNat_natCast,hr,if_pos hin];rw[if_neg (by omega)];by_cases c0:i=0
  ·subst c0;obtain⟨⟨m1,w1⟩,⟨m2,w2⟩,m3,w3⟩:=fin h.start;rw[if_neg (by omega),JA];simp only[m1,m2,m3,go_sem,w1,w2,w3];rfl
  ·obtain⟨j,rfl⟩:∃j,i=j+1:=⟨i-1,by omega⟩;have hj:=Lr (l:=p.segs) (i:=j) (by omega);have hgj:=hok.seg _ (HG (l:=p.segs) (i:=j) (by omega));obtain⟨⟨m1,w1⟩,⟨m2,w2⟩,m3,w3⟩:=fin hgj.2.2;rw[if_pos (by omega),Ts (by omega)];have e1:IntKind.i64.wrap (((j+1:Nat):Int)-1)=(j:Int):=by rw[Ae (by omega)];omega
   rw[e1];simp only[Int.toNat_natCast,hj,go_sem];rw[if_pos (by omega)];simp only[m1,m2,m3,go_sem,w1,w2,w3];rfl
theorem Qxo {a b c:Int} (ha:a.natAbs<=134217728) (hb:b.natAbs<=268435456) (hc:0<c/\c<=268435456):Bq [I a,I b,I c,I 2]=some [I (Bd (a*b) c),B true]:=by
 have:=Nat.mul_le_mul ha hb;exact SO (by unfold i64;omega) (by unfold i64;omega) (by omega) (by omega)
theorem Zn1 {p:Pth} (h:GoodPath p) {s:Int} (hs:i64 s):Qs (By p++[I s])=some (ptR (atP p s)):=
 Zfv h (Qiz h.ok hs) Qxo
end Go.Bm
namespace Go.Bm
open Classical
theorem Qtd {p:Pth} (h:GoodPath p):0<=AT p.segs/\AT p.segs<=263886834032640:=by
 have h1:=YK h.ok.seg;have h2:=h.count;omega
end Go.Bm
namespace Go.Bm
open Classical
end Go.Bm
