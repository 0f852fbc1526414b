/- laid together -/
import Derived.Test.YtommijghjlikkaaGreatPrI
import Derived.Test.YtommijghjlikkaaGreatMx2
set_option linter.unusedVariables false
set_option linter.unusedSimpArgs false
/- motions and lists of motions, as the maker makes them -/
set_option maxRecDepth 100000
namespace Go.Bm

structure Made (it : Itm) : Prop where
 kind:1<=it.kind/\it.kind<=6
 line:it.kind≠3->(it.to.x-it.fr.x).natAbs<=16/\(it.to.y-it.fr.y).natAbs<=16/\(it.to.z-it.fr.z).natAbs<=16
 arc:it.kind=3->ArcMade 8 it
 feed:it.kind≠1->1<=it.feed/\it.feed<=60000000
 blend:0<=it.blend/\it.blend<=9
 sync:it.kind=5\/it.kind=6->it.blend=0/\it.feed<=60
 free:it.kind<=4->it.perRev=false
 full:it.kind≠3->it.full=false
theorem Qrp {v:Int} (h:0<=v/\v<5):∃x,Af (nth .dead (nth [] [[I 300000],[I 1],[I 60000],[I 2000000],[I 60000000]] v.toNat) 0)=x/\1<=x/\x<=60000000:=by
 have hc:v=0\/v=1\/v=2\/v=3\/v=4:=by omega
 rcases hc with rfl|rfl|rfl|rfl|rfl<;>exact⟨_,rfl,by decide⟩
theorem Qzl {v:Int} (h:0<=v/\v<5):∃x,Af (nth .dead (nth [] [[I 0],[I 1],[I 2],[I 4],[I 9]] v.toNat) 0)=x/\0<=x/\x<=9:=by
 have hc:v=0\/v=1\/v=2\/v=3\/v=4:=by omega
 rcases hc with rfl|rfl|rfl|rfl|rfl<;>exact⟨_,rfl,by decide⟩
theorem Q9n {size:Int} {it:Itm} (h:ArcMade size it) (f b:Int) (pr:Bool) (n:Int):ArcMade size {it with feed:=f,blend:=b,perRev:=pr,n:=n}:=⟨h.kind,h.plane,h.dir,h.ends⟩

theorem Zzr {MA MN:Fn} {l:Rw} (hN:Gz l MN)
  (hA:∀{p:Pt},bd 100000000 p->∀k:Nat,∃(it:Itm) (k':Nat),MA [I p.x,I p.y,I p.z,I 8, .view Aa l,I k]=some (Ag it++[.view Aa l,I k'])/\k<=k'/\it.fr=p/\ArcMade 8 it/\it.feed=0/\it.perRev=false/\it.blend=0/\it.n=0/\E9 it)
  {p:Pt} (hp:bd 100000000 p) {kind:Int} (hk:1<=kind/\kind<=6) (k:Nat):
  ∃(it:Itm) (k':Nat),Qfv MN MA [I p.x,I p.y,I p.z,I kind, .view Aa l,I k]=some (Ag it++[.view Aa l,I k'])/\k<=k'/\it.fr=p/\it.kind=kind/\Made it/\E9 it:=by
 rw[Zgf]
 obtain⟨hp1,hp2,hp3⟩:=hp
 by_cases h3:kind=3
 ·subst h3
  obtain⟨it,k1,e1,c1,g1,g2,g3,g4,g5,g6,g7,g8,g9,g10,g11⟩:=hA ⟨hp1,hp2,hp3⟩ k
  obtain⟨v2,k2,e2,a2,b2,c2,-,-⟩:=hN k1 (n:=5) (by omega)
  obtain⟨v3,k3,e3,a3,b3,c3,-,-⟩:=hN k2 (n:=5) (by omega)
  simp only[go_sem,e1,Ag,List.cons_append,List.nil_append,e2,e3]
  rw[if_neg (by omega),if_pos (by simp;omega),if_pos (by simp;omega),if_neg (by omega),if_neg (by omega),if_neg (by omega)]
  obtain⟨f,hf,hf1,hf2⟩:=Qrp ⟨a2,b2⟩
  obtain⟨b,hb,hb1,hb2⟩:=Qzl ⟨a3,b3⟩
  rw[hf,hb]
  have hka:=g2.kind
  refine⟨{it with feed:=f,blend:=b,perRev:=it.perRev,n:=it.n},k3,rfl,by omega,g1,hka,⟨?_,?_,?_,?_,?_,?_,?_,?_⟩,g7,g8,g9,g10,g11⟩
  ·show 1<=it.kind/\it.kind<=6;omega
  ·exact fun h=>absurd hka h
  ·exact fun _=>Q9n g2 f b _ _
  ·exact fun _=>⟨hf1,hf2⟩
  ·exact⟨hb1,hb2⟩
  ·intro h;change it.kind=5\/it.kind=6 at h;omega
  ·exact fun _=>g4
  ·exact fun h=>absurd hka h
 ·simp only[go_sem]
  rw[if_neg h3]
  obtain⟨v1,k1,e1,a1,b1,c1,-,-⟩:=hN k (n:=25) (by omega)
  obtain⟨v2,k2,e2,a2,b2,c2,-,-⟩:=hN k1 (n:=25) (by omega)
  obtain⟨v3,k3,e3,a3,b3,c3,-,-⟩:=hN k2 (n:=3) (by omega)
  obtain⟨v4,k4,e4,a4,b4,c4,-,-⟩:=hN k3 (n:=9) (by omega)
  obtain⟨v5,k5,e5,a5,b5,c5,-,-⟩:=hN k4 (n:=2) (by omega)
  simp only[go_sem,e1,e2,e3,e4,e5]
  have hm:0<=v3*v4/\v3*v4<=16:=by
   have hc:v3=0\/v3=1\/v3=2:=by omega
   rcases hc with rfl|rfl|rfl<;>omega
  generalize v3*v4=m at hm
  have w1:IntKind.i64.wrap (IntKind.i64.wrap (p.x+v1)-12)=p.x+v1-12:=by rw[Ae (x:=p.x+v1) (by omega),Ae (by omega)]
  have w2:IntKind.i64.wrap (IntKind.i64.wrap (p.y+v2)-12)=p.y+v2-12:=by rw[Ae (x:=p.y+v2) (by omega),Ae (by omega)]
  have w3:IntKind.i64.wrap (IntKind.i64.wrap (p.z+IntKind.i64.wrap m)-IntKind.i64.wrap (8*v5))=p.z+m-8*v5:=by
   rw[Ae (x:=m) (by omega),Ae (x:=p.z+m) (by omega),Ae (x:=8*v5) (by omega),Ae (by omega)]
  rw[w1,w2,w3]

  have mk:∀(f b n:Int) (pr:Bool),(kind≠1->1<=f/\f<=60000000)->(0<=b/\b<=9)->(kind=5\/kind=6->b=0/\f<=60)->(kind<=4->pr=false)->
    ∃it:Itm,Ag it=[I kind,I 0,I p.x,I p.y,I p.z,I (p.x+v1-12),I (p.y+v2-12),I (p.z+m-8*v5),I 0,I 0,I 0,I 0,I 0,B false,I f,B pr,I 0,I 0,I b,I n,I 0,B false]/\it.fr=p/\it.kind=kind/\Made it/\E9 it:=by
   intro f b n pr h1 h2 h4 h5
   refine⟨⟨kind,0,p,⟨p.x+v1-12,p.y+v2-12,p.z+m-8*v5⟩,0,⟨0,0,0⟩,0,false,f,pr,0,0,b,n,0,false⟩,rfl,rfl,rfl,⟨hk,fun _=> ?_,fun h=>absurd h h3,h1,h2,h4,h5,fun _=>rfl⟩,rfl,rfl,rfl,rfl,rfl⟩
   show(p.x+v1-12-p.x).natAbs<=16/\(p.y+v2-12-p.y).natAbs<=16/\(p.z+m-8*v5-p.z).natAbs<=16
   omega
  have en:∀(f b n:Int) (pr:Bool) (k':Nat),k<=k'->(kind≠1->1<=f/\f<=60000000)->(0<=b/\b<=9)->(kind=5\/kind=6->b=0/\f<=60)->(kind<=4->pr=false)->
    ∃(it:Itm) (k'':Nat),some [I kind,I 0,I p.x,I p.y,I p.z,I (p.x+v1-12),I (p.y+v2-12),I (p.z+m-8*v5),I 0,I 0,I 0,I 0,I 0,B false,I f,B pr,I 0,I 0,I b,I n,I 0,B false, .view Aa l,I k']=some (Ag it++[.view Aa l,I k''])/\k<=k''/\it.fr=p/\it.kind=kind/\Made it/\E9 it:=by
   intro f b n pr k' h0 h1 h2 h4 h5
   obtain⟨it,i1,i2⟩:=mk f b n pr h1 h2 h4 h5
   refine⟨it,k',?_,h0,i2⟩
   rw[i1]
   rfl
  by_cases h1:kind=1
  ·rw[if_pos h1]
   exact en _ _ _ _ _ (by omega) (fun h=>absurd h1 h) (by omega) (by omega) (fun _=>rfl)
  ·rw[if_neg h1]
   obtain⟨v6,k6,e6,a6,b6,c6,-,-⟩:=hN k5 (n:=5) (by omega)
   obtain⟨v7,k7,e7,a7,b7,c7,-,-⟩:=hN k6 (n:=5) (by omega)
   obtain⟨v8,k8,e8,a8,b8,c8,-,-⟩:=hN k7 (n:=60) (by omega)
   obtain⟨v9,k9,e9,a9,b9,c9,-,-⟩:=hN k8 (n:=2) (by omega)
   simp only[go_sem,e6,e7,e8,e9]
   rw[if_pos (by simp;omega),if_pos (by simp;omega)]
   obtain⟨f,hf,hf1,hf2⟩:=Qrp ⟨a6,b6⟩
   obtain⟨b,hb,hb1,hb2⟩:=Qzl ⟨a7,b7⟩
   rw[hf,hb,Ae (x:=1+v8) (by omega),Ae (x:=3+v9) (by omega)]
   by_cases h5:kind=5
   ·rw[if_pos h5,if_neg (by omega)]
    exact en _ _ _ _ _ (by omega) (by omega) (by omega) (by omega) (by omega)
   ·rw[if_neg h5]
    by_cases h6:kind=6
    ·rw[if_pos h6,if_pos h6]
     exact en _ _ _ _ _ (by omega) (by omega) (by omega) (by omega) (by omega)
    ·rw[if_neg h6]
     by_cases h4:kind=4
     ·rw[if_pos h4]
      exact en _ _ _ _ _ (by omega) (by omega) (by omega) (by omega) (fun _=>rfl)
     ·rw[if_neg h4]
      exact en _ _ _ _ _ (by omega) (by omega) (by omega) (by omega) (fun _=>rfl)
theorem Zie {l:Rw} (hl:Src l) {p:Pt} (hp:bd 100000000 p) {kind:Int} (hk:1<=kind/\kind<=6) (k:Nat):
  ∃(it:Itm) (k':Nat),J7 [I p.x,I p.y,I p.z,I kind, .view Aa l,I k]=some (Ag it++[.view Aa l,I k'])/\k<=k'/\it.fr=p/\it.kind=kind/\Made it/\E9 it:=
 Zzr (GY hl) (fun hp k=>Zyy hl hp (by omega) k) hp hk k
end Go.Bm
/- the maker's list of motions -/
set_option maxRecDepth 100000
namespace Go.Bm

def Q0o:Pt->List Itm->Prop
 |_,[]=>True
 |p,it::l=>it.fr=p/\Q0o it.to l
structure Motions (B : Nat) (p : Pt) (l : List Itm) : Prop where
 EQ:Q0o p l
 made:∀it∈l,Made it/\E9 it/\it.kind<=3/\bd B it.fr/\bd B it.to
theorem Qjc {size:Int} {b:Nat} {it:Itm} (h:ArcMade size it) (hs:size<=1000) (hf:bd b it.fr):bd (b+2*(12+size.toNat)) it.to/\bd (b+8+size.toNat) it.ce:=by
 obtain⟨r,k,t,g,x,h1,h2,h3,h4,h5,h6,h7,h8,h9,h10,h11,h12,h13⟩:=h.ends
 obtain⟨q1,q2,q3⟩:=Hh (pl:=it.plane) hf
 obtain⟨⟨r1,r2⟩,r3,r4⟩:=No (r:=r) (k:=k) (by omega)
 obtain⟨⟨r5,r6⟩,r7,r8⟩:=No (r:=r+g) (k:=k+t) (by omega)
 rw[h12,h13]
 unfold bd spP
 constructor<;>split<;>(try split)<;>refine⟨?_,?_,?_⟩<;>simp only<;>omega
theorem Qwy {b:Nat} {it:Itm} (h:Made it) (hf:bd b it.fr):bd (b+40) it.to:=by
 by_cases h3:it.kind=3
 ·exact AU (Qjc (h.arc h3) (by omega) hf).1 (by omega)
 ·obtain⟨h1,h2,h4⟩:=h.line h3
  obtain⟨g1,g2,g3⟩:=hf
  exact⟨by omega,by omega,by omega⟩
end Go.Bm
/- which motions can be drawn: the program's answer and the reference's -/
set_option maxRecDepth 100000
namespace Go.Bm

instance (pl:Int):Decidable (CQ pl):=by unfold CQ;infer_instance
instance (A:Nat) (p:Pt):Decidable (bd A p):=by unfold bd;infer_instance
def dU (it:Itm) (p:Pt):Int:=plU it.plane p-plU it.plane it.ce
def dW (it:Itm) (p:Pt):Int:=plW it.plane p-plW it.plane it.ce
def sq2 (u w:Int):Int:=u*u+w*w
def crs (u w x y:Int):Int:=u*y-w*x
def dt2 (u w x y:Int):Int:=u*x+w*y
def qA (it:Itm):Int:=sq2 (dU it it.fr) (dW it it.fr)
def qB (it:Itm):Int:=sq2 (dU it it.to) (dW it it.to)
def cAB (it:Itm):Int:=crs (dU it it.fr) (dW it it.fr) (dU it it.to) (dW it it.to)
def dAB (it:Itm):Int:=dt2 (dU it it.fr) (dW it it.fr) (dU it it.to) (dW it it.to)
def Hz (X Y:Int):Prop:=X+Y-16<=0\/(X+Y-16)*(X+Y-16)<=4*X*Y
def Vc (it:Itm):Prop:=64<=qA it/\64<=qB it/\Hz (qA it) (qB it)/\(it.full=true->dU it it.fr=dU it it.to/\dW it it.fr=dW it it.to)/\(it.full=false->cAB it≠0\/dAB it<0)
def Q84 (it:Itm):Prop:=CQ it.plane/\(it.dir=1\/it.dir= -1)/\bd 1048576 it.ce/\Vc it
def C_ (it:Itm):Prop:=(1<=it.kind/\it.kind<=6)/\bd 1048576 it.fr/\bd 1048576 it.to/\(it.kind=3->Q84 it)

theorem VY {it:Itm} {p:Pt} {b c:Nat} (hc:bd c it.ce) (h:bd b p):(dU it p).natAbs<=b+c/\(dW it p).natAbs<=b+c:=by
 obtain⟨h1,h2,h3⟩:=Hh (pl:=it.plane) h
 obtain⟨g1,g2,g3⟩:=Hh (pl:=it.plane) hc
 unfold dU dW
 omega
theorem Qol (x:Int) {b:Nat} (h:x.natAbs<=b):0<=x*x/\x*x<=((b*b:Nat):Int):=by
 have h1:=GV h h
 have h2:0<=x*x:=by rw[<-Int.natAbs_mul_self];omega
 omega
theorem Qq6 {u w:Int} {b:Nat} (hu:u.natAbs<=b) (hw:w.natAbs<=b):0<=sq2 u w/\sq2 u w<=((2*(b*b):Nat):Int):=by
 have h1:=Qol u hu
 have h2:=Qol w hw
 unfold sq2
 omega
theorem Qqy {u w x y:Int} {b c:Nat} (hu:u.natAbs<=b) (hw:w.natAbs<=b) (hx:x.natAbs<=c) (hy:y.natAbs<=c):(dt2 u w x y).natAbs<=2*(b*c)/\(crs u w x y).natAbs<=2*(b*c):=by
 have h1:=GV hu hx
 have h2:=GV hw hy
 have h3:=GV hu hy
 have h4:=GV hw hx
 unfold dt2 crs
 omega
theorem Zz4 {X Y:Int} (hX:64<=X) (hY:64<=Y):Hz X Y↔(max X Y-min X Y-16<=0\/(max X Y-min X Y-16)*(max X Y-min X Y-16)<=64*min X Y):=by
 unfold Hz
 have key:∀M m:Int,64<=M->64<=m->m<=M->((M+m-16<=0\/(M+m-16)*(M+m-16)<=4*M*m)↔(M-m-16<=0\/(M-m-16)*(M-m-16)<=64*m)):=by
  intro M m h1 h2 h3
  have e:(M-m-16)*(M-m-16)-64*m=(M+m-16)*(M+m-16)-4*M*m:=by grind
  by_cases hk:M-m-16<=0
  ·refine iff_of_true (.inr ?_) (.inl hk)
   have h5:(16-(M-m))*(M-m+16)>=0:=Int.mul_nonneg (by omega) (by omega)
   have h6:(M+m-16)*(M+m-16)-4*M*m=512-(16-(M-m))*(M-m+16)-32*(M+m):=by grind
   omega
  ·constructor
   ·rintro(h|h)
    ·omega
    ·exact .inr (by omega)
   ·rintro(h|h)
    ·omega
    ·exact .inr (by omega)
 by_cases h:X<=Y
 ·rw[Int.max_eq_right h,Int.min_eq_left h,<-key Y X hY hX h]
  have e1:X+Y-16=Y+X-16:=by omega
  have e2:4*X*Y=4*Y*X:=by grind
  rw[e1,e2]
 ·rw[Int.max_eq_left (by omega),Int.min_eq_right (by omega),<-key X Y hX hY (by omega)]

end Go.Bm
/- which motions can be drawn: the program's answer -/
set_option maxRecDepth 100000
namespace Go.Bm

theorem Zxn (p:Pt):Mf [I p.x,I p.y,I p.z]=some [B (decide (bd 1048576 p))]:=by
 unfold Mf
 rw[Zky]
 simp only[go_sem]
 by_cases h:bd 1048576 p
 ·obtain⟨h1,h2,h3⟩:=h
  rw[if_neg (by omega),if_neg (by omega),if_neg (by omega),if_neg (by omega),if_neg (by omega),if_neg (by omega)]
  congr 3
  symm
  exact decide_eq_true ⟨h1,h2,h3⟩
 ·have e:decide (bd 1048576 p)=false:=decide_eq_false h
  rw[e]
  unfold bd at h
  by_cases c1:p.x< -1048576
  ·rw[if_pos c1]
  rw[if_neg c1]
  by_cases c2:p.x>1048576
  ·rw[if_pos c2]
  rw[if_neg c2]
  by_cases c3:p.y< -1048576
  ·rw[if_pos c3]
  rw[if_neg c3]
  by_cases c4:p.y>1048576
  ·rw[if_pos c4]
  rw[if_neg c4]
  by_cases c5:p.z< -1048576
  ·rw[if_pos c5]
  rw[if_neg c5,if_pos (by omega)]
def axI (pl:Int):Int×Int×Int:=if pl=17 then(0,1,2)else if pl=18 then(2,0,1)else if pl=19 then(1,2,0)else(0,0,0)
theorem Qbp (pl:Int):Ft [I pl]=some [I (axI pl).1,I (axI pl).2.1,I (axI pl).2.2,B (decide (CQ pl))]:=by
 unfold Ft
 rw[Zou]
 simp only[go_sem]
 unfold axI CQ
 by_cases h1:pl=17
 ·rw[if_pos h1,if_pos h1];simp[h1]
 rw[if_neg h1,if_neg h1]
 by_cases h2:pl=18
 ·rw[if_pos h2,if_pos h2];simp[h2]
 rw[if_neg h2,if_neg h2]
 by_cases h3:pl=19
 ·rw[if_pos h3,if_pos h3];simp[h3]
 rw[if_neg h3,if_neg h3];simp[h1,h2,h3]
theorem Znz {M:Fn} (hM:∀pl:Int,M [I pl]=some [I (axI pl).1,I (axI pl).2.1,I (axI pl).2.2,B (decide (CQ pl))]) {p:Pt} {pl:Int} (hp:CQ pl):
  XP M [I p.x,I p.y,I p.z,I pl]=some [I (plU pl p),I (plW pl p),I (plH pl p)]:=by
 rw[Znp]
 simp only[go_sem,hM]
 rw[if_neg (by simpa using hp)]
 rcases hp with rfl|rfl|rfl<;>rfl
theorem Qro {p:Pt} {pl:Int} (hp:CQ pl):Ht [I p.x,I p.y,I p.z,I pl]=some [I (plU pl p),I (plW pl p),I (plH pl p)]:=Znz Qbp hp
def Ax (p:Pt):Pt:=⟨p.x*16,p.y*16,p.z*16⟩
theorem EP {b:Nat} {p:Pt} (h:bd b p):bd (b*16) (Ax p):=by
 obtain⟨h1,h2,h3⟩:=h
 unfold Ax
 exact⟨by simp only;omega,by simp only;omega,by simp only;omega⟩
theorem QO (pl:Int) (p:Pt):plU pl (Ax p)=plU pl p*16/\plW pl (Ax p)=plW pl p*16/\plH pl (Ax p)=plH pl p*16:=by
 unfold plU plW plH Ax
 refine⟨?_,?_,?_⟩<;>split<;>(try split)<;>rfl
theorem Qss {p:Pt} (h:bd 100000000 p):Ha [I p.x,I p.y,I p.z]=some (ptR (Ax p)):=by
 unfold Ha
 rw[Zom]
 obtain⟨h1,h2,h3⟩:=h
 rw[Ae (by omega),Ae (by omega),Ae (by omega)]
 rfl
theorem Z7 {u w r h x y s g:Int} (hu:u.natAbs<=1000000000) (hw:w.natAbs<=1000000000) (hx:x.natAbs<=1000000000) (hy:y.natAbs<=1000000000):GU [I u,I w,I r,I h,I x,I y,I s,I g]=some [I (dt2 u w x y)]:=by
 unfold GU
 rw[Zi9]
 have h1:=GV hu hx
 have h2:=GV hw hy
 unfold dt2
 rw[Ae (x:=u*x) (by omega),Ae (x:=w*y) (by omega),Ae (by omega)]
theorem Qjb {u w r h x y s g:Int} (hu:u.natAbs<=1000000000) (hw:w.natAbs<=1000000000) (hx:x.natAbs<=1000000000) (hy:y.natAbs<=1000000000):Ge [I u,I w,I r,I h,I x,I y,I s,I g]=some [I (crs u w x y)]:=by
 unfold Ge
 rw[Zg1]
 have h1:=GV hu hy
 have h2:=GV hw hx
 unfold crs
 rw[Ae (x:=u*y) (by omega),Ae (x:=w*x) (by omega),Ae (by omega)]
theorem Zng {M:Fn} (hM:∀{a b c d:Int},i64 a->i64 b->i64 c->i64 d->M [I a,I b,I c,I d]=some [I (J5 (a*b) (c*d))]) {X Y:Int} (hX:64<=X/\X<=1000000000000000) (hY:64<=Y/\Y<=1000000000000000):
  ∃v,Qiz M [I X,I Y]=some [B v]/\(v=true↔Hz X Y):=by
 rw[Zsv,Zz4 hX.1 hY.1]
 have hmx:mx X Y=max X Y:=by unfold mx;rw[Int.max_def];split<;>split<;>omega
 have hmn:mn X Y=min X Y:=by unfold mn;rw[Int.min_def];split<;>split<;>omega
 have hx1:max X Y<=1000000000000000/\64<=max X Y:=by omega
 have hx2:min X Y<=1000000000000000/\64<=min X Y:=by omega
 rw[hmx,hmn]
 generalize max X Y=a at*
 generalize min X Y=b at*
 simp only[go_sem]
 rw[Ae (x:=a-b) (by omega),Ae (x:=a-b-16) (by omega)]
 by_cases c1:a-b-16<=0
 ·rw[if_pos c1];exact⟨_,rfl,iff_of_true rfl (.inl c1)⟩
 ·rw[if_neg c1,hM (by unfold i64;omega) (by unfold i64;omega) (by unfold i64;omega) (by unfold i64;omega)]
  refine⟨_,rfl,?_⟩
  simp only[go_sem,decide_eq_true_eq,Zf7]
  exact⟨fun h=> .inr h,fun h=>h.resolve_left c1⟩
theorem Q92 {X Y:Int} (hX:64<=X/\X<=1000000000000000) (hY:64<=Y/\Y<=1000000000000000):∃v,OE [I X,I Y]=some [B v]/\(v=true↔Hz X Y):=Zng Zip hX hY

theorem Zs9 {MP MS:Fn} {it:Itm} (hP:∀p:Pt,MP [I p.x,I p.y,I p.z,I it.plane]=some [I (plU it.plane p),I (plW it.plane p),I (plH it.plane p)]) (hS:∀{p:Pt},bd 100000000 p->MS [I p.x,I p.y,I p.z]=some (ptR (Ax p)))
  (h1:bd 1048576 it.fr) (h2:bd 1048576 it.to) (h3:bd 1048576 it.ce):
  Qcp MP MS (An (UE MP MS)) (Ag it)=some [I (dU it it.fr*16),I (dW it it.fr*16),I 0,I (plH it.plane it.fr*16),I (dU it it.to*16),I (dW it it.to*16),I 0,I (plH it.plane it.to*16)]:=by
 rw[Zaw]
 obtain⟨q1,q2,q3⟩:=Hh (pl:=it.plane) h1
 obtain⟨q4,q5,q6⟩:=Hh (pl:=it.plane) h2
 obtain⟨q7,q8,q9⟩:=Hh (pl:=it.plane) h3
 simp only[hS (AU h3 (by omega)),hP,go_sem]
 have w0:IntKind.i64.wrap (0+1)=1:=Ae (by omega)
 have w1:IntKind.i64.wrap (1+1)=2:=Ae (by omega)
 have f1:=QO it.plane it.fr
 have f2:=QO it.plane it.to
 have f3:=QO it.plane it.ce
 have u1:IntKind.i64.wrap (plU it.plane (Ax it.fr)-plU it.plane (Ax it.ce))=dU it it.fr*16:=by rw[f1.1,f3.1];unfold dU;rw[Ae (by omega)];omega
 have u2:IntKind.i64.wrap (plW it.plane (Ax it.fr)-plW it.plane (Ax it.ce))=dW it it.fr*16:=by rw[f1.2.1,f3.2.1];unfold dW;rw[Ae (by omega)];omega
 have u3:IntKind.i64.wrap (plU it.plane (Ax it.to)-plU it.plane (Ax it.ce))=dU it it.to*16:=by rw[f2.1,f3.1];unfold dU;rw[Ae (by omega)];omega
 have u4:IntKind.i64.wrap (plW it.plane (Ax it.to)-plW it.plane (Ax it.ce))=dW it it.to*16:=by rw[f2.2.1,f3.2.1];unfold dW;rw[Ae (by omega)];omega
 have b1:bd 100000000 it.fr:=AU h1 (by omega)
 have b2:bd 100000000 it.to:=AU h2 (by omega)
 have e1:=hS b1
 have e2:=hS b2
 rw[Bt (by rw[VA];simp only[go_sem,e1,e2,hP,u1,u2,w0];rfl),Bt (by rw[VA];simp only[go_sem,e1,e2,hP,u3,u4,w1];rfl),
  A7 (o:=(1,_)) (by rw[VA];simp only[go_sem];rfl) (by simp)]
 simp only[go_sem,f1.2.2,f2.2.2]
theorem Q32 {it:Itm} (hp:CQ it.plane) (h1:bd 1048576 it.fr) (h2:bd 1048576 it.to) (h3:bd 1048576 it.ce):
  JP (Ag it)=some [I (dU it it.fr*16),I (dW it it.fr*16),I 0,I (plH it.plane it.fr*16),I (dU it it.to*16),I (dW it it.to*16),I 0,I (plH it.plane it.to*16)]:=
 Zs9 (fun _=>Qro hp) Qss h1 h2 h3

theorem Zzk {MN:Fn} {X Y C D au aw bu bw:Int} {full:Bool} (hX:0<=X/\X<=1000000000000000) (hY:0<=Y/\Y<=1000000000000000)
  (hN:∀{X Y:Int},(64<=X/\X<=1000000000000000)->(64<=Y/\Y<=1000000000000000)->∃v,MN [I X,I Y]=some [B v]/\(v=true↔Hz X Y)):
  ∃ v, (if X * 256 < IntKind.i64.wrap (128 * 128) then some [B false] else if Y * 256 < IntKind.i64.wrap (128 * 128) then some [B false] else
   (MN [I (IntKind.i64.wrap ((X*256).tdiv 256)),I (IntKind.i64.wrap ((Y*256).tdiv 256))]).bind fun o=>
   if¬B6 (nth .dead o 0)=true then some [B false]else if full=true then if au*16=bu*16 then some [B (aw*16==bw*16)]else some [B false]else if C*256≠0 then some [B true]else some [B (decide (D*256<0))])=some [B v]/\
   (v=true↔64<=X/\64<=Y/\Hz X Y/\(full=true->au=bu/\aw=bw)/\(full=false->C≠0\/D<0)):=by
 rw[Ae (x:=128*128) (by omega),Int.mul_tdiv_cancel _ (by omega),Int.mul_tdiv_cancel _ (by omega),Ae (x:=X) (by omega),Ae (x:=Y) (by omega)]
 by_cases c1:X*256<128*128
 ·rw[if_pos c1];exact⟨_,rfl,iff_of_false (by simp) fun h=>by omega⟩
 rw[if_neg c1]
 by_cases c2:Y*256<128*128
 ·rw[if_pos c2];exact⟨_,rfl,iff_of_false (by simp) fun h=>by omega⟩
 rw[if_neg c2]
 obtain⟨v,h1,h2⟩:=hN (X:=X) (Y:=Y) (by omega) (by omega)
 simp only[h1,go_sem]
 by_cases c3:v=true
 case neg=>rw[if_pos c3];exact⟨_,rfl,iff_of_false (by simp) fun h=>c3 (h2.2 h.2.2.1)⟩
 rw[if_neg (by simpa using c3)]
 have hn':=h2.1 c3
 cases full with
 |true=>
  rw[if_pos rfl]
  by_cases c4:au*16=bu*16
  ·rw[if_pos c4];refine⟨_,rfl,?_⟩
   simp only[beq_iff_eq]
   exact⟨fun h=>⟨by omega,by omega,hn',fun _=>⟨by omega,by omega⟩,fun h=>by simp at h⟩,fun h=>by have:=(h.2.2.2.1 trivial).2;omega⟩
  ·rw[if_neg c4];exact⟨_,rfl,iff_of_false (by simp) fun h=>c4 (by have:=(h.2.2.2.1 rfl).1;omega)⟩
 |false=>
  rw[if_neg (by simp)]
  by_cases c4:C*256≠0
  ·rw[if_pos c4];exact⟨_,rfl,iff_of_true rfl ⟨by omega,by omega,hn',fun h=>by simp at h,fun _=> .inl (by omega)⟩⟩
  ·rw[if_neg c4];refine⟨_,rfl,?_⟩
   simp only[decide_eq_true_eq]
   exact⟨fun h=>⟨by omega,by omega,hn',fun h=>by simp at h,fun _=> .inr (by omega)⟩,fun h=>by have:=(h.2.2.2.2 trivial);omega⟩
theorem Qu0 (a b c d:Int):dt2 (a*16) (b*16) (c*16) (d*16)=dt2 a b c d*256/\crs (a*16) (b*16) (c*16) (d*16)=crs a b c d*256:=by
 unfold dt2 crs
 constructor<;>grind
theorem Q6x {MC MN MD ME MA MW:Fn} (hA:∀pl:Int,MA [I pl]=some [I (axI pl).1,I (axI pl).2.1,I (axI pl).2.2,B (decide (CQ pl))]) (hW:∀p:Pt,MW [I p.x,I p.y,I p.z]=some [B (decide (bd 1048576 p))])
  {it:Itm} (hE:CQ it.plane->bd 1048576 it.fr->bd 1048576 it.to->bd 1048576 it.ce->ME (Ag it)=some [I (dU it it.fr*16),I (dW it it.fr*16),I 0,I (plH it.plane it.fr*16),I (dU it it.to*16),I (dW it it.to*16),I 0,I (plH it.plane it.to*16)])
  (hD:∀{u w r h x y s g:Int},u.natAbs<=1000000000->w.natAbs<=1000000000->x.natAbs<=1000000000->y.natAbs<=1000000000->MD [I u,I w,I r,I h,I x,I y,I s,I g]=some [I (dt2 u w x y)])
  (hX:∀{u w r h x y s g:Int},u.natAbs<=1000000000->w.natAbs<=1000000000->x.natAbs<=1000000000->y.natAbs<=1000000000->MC [I u,I w,I r,I h,I x,I y,I s,I g]=some [I (crs u w x y)])
  (hN:∀{X Y:Int},(64<=X/\X<=1000000000000000)->(64<=Y/\Y<=1000000000000000)->∃v,MN [I X,I Y]=some [B v]/\(v=true↔Hz X Y)):
  ∃v,Vn MC MN MD ME MA MW (Ag it)=some [B v]/\(v=true↔C_ it):=by
 rw[Zwj]
 simp only[go_sem,hW,hA]
 by_cases c1:it.kind<1
 ·rw[if_pos c1];exact⟨_,rfl,iff_of_false (by simp) fun h=>by have:=h.1;omega⟩
 rw[if_neg c1]
 by_cases c1':it.kind>6
 ·rw[if_pos c1'];exact⟨_,rfl,iff_of_false (by simp) fun h=>by have:=h.1;omega⟩
 rw[if_neg c1']
 by_cases c2:bd 1048576 it.fr
 case neg=>rw[if_pos (by simpa using c2)];exact⟨_,rfl,iff_of_false (by simp) fun h=>c2 h.2.1⟩
 rw[if_neg (by simpa using c2)]
 by_cases c3:bd 1048576 it.to
 case neg=>rw[if_pos (by simpa using c3)];exact⟨_,rfl,iff_of_false (by simp) fun h=>c3 h.2.2.1⟩
 rw[if_neg (by simpa using c3)]
 by_cases c4:it.kind=3
 case neg=>rw[if_pos c4];exact⟨_,rfl,iff_of_true rfl ⟨by omega,c2,c3,fun h=>absurd h c4⟩⟩
 rw[if_neg (by simpa using c4)]
 by_cases c5:CQ it.plane
 case neg=>rw[if_pos (by simpa using c5)];exact⟨_,rfl,iff_of_false (by simp) fun h=>c5 (h.2.2.2 c4).1⟩
 rw[if_neg (by simpa using c5)]
 by_cases c7:bd 1048576 it.ce
 case neg=>
  refine⟨false,?_,iff_of_false (by simp) fun h=>c7 (h.2.2.2 c4).2.2.1⟩
  split
  ·split
   ·rfl
   ·first|rfl|(rw[if_pos c7])
  ·first|rfl|(rw[if_pos c7])
 by_cases c6:it.dir=1\/it.dir= -1
 case neg=>
  rw[if_pos (c:=it.dir≠1) (by omega),if_pos (c:=it.dir≠-1) (by omega)]
  exact⟨false,rfl,iff_of_false (by simp) fun h=>c6 (h.2.2.2 c4).2.1⟩
 have hE':=hE c5 c2 c3 c7
 obtain⟨b1,b2⟩:=VY (it:=it) c7 c2
 obtain⟨b3,b4⟩:=VY (it:=it) c7 c3
 simp only[Ag]at hE'
 have x1:=Qq6 b1 b2
 have x2:=Qq6 b3 b4
 have core:C_ it↔64<=qA it/\64<=qB it/\Hz (qA it) (qB it)/\(it.full=true->dU it it.fr=dU it it.to/\dW it it.fr=dW it it.to)/\(it.full=false->cAB it≠0\/dAB it<0):=
  ⟨fun h=>(h.2.2.2 c4).2.2.2,fun h=>⟨by omega,c2,c3,fun _=>⟨c5,c6,c7,h⟩⟩⟩
 rw[core]
 have x1':0<=qA it/\qA it<=1000000000000000:=⟨x1.1,by unfold qA;omega⟩
 have x2':0<=qB it/\qB it<=1000000000000000:=⟨x2.1,by unfold qB;omega⟩
 have D1:= @hD (dU it it.fr*16) (dW it it.fr*16) 0 (plH it.plane it.fr*16) (dU it it.fr*16) (dW it it.fr*16) 0 (plH it.plane it.fr*16) (by omega) (by omega) (by omega) (by omega)
 have D2:= @hD (dU it it.to*16) (dW it it.to*16) 0 (plH it.plane it.to*16) (dU it it.to*16) (dW it it.to*16) 0 (plH it.plane it.to*16) (by omega) (by omega) (by omega) (by omega)
 have D3:= @hD (dU it it.fr*16) (dW it it.fr*16) 0 (plH it.plane it.fr*16) (dU it it.to*16) (dW it it.to*16) 0 (plH it.plane it.to*16) (by omega) (by omega) (by omega) (by omega)
 have D4:= @hX (dU it it.fr*16) (dW it it.fr*16) 0 (plH it.plane it.fr*16) (dU it it.to*16) (dW it it.to*16) 0 (plH it.plane it.to*16) (by omega) (by omega) (by omega) (by omega)
 rw[(Qu0 _ _ _ _).1]at D1 D2 D3
 rw[(Qu0 _ _ _ _).2]at D4
 have e1:dt2 (dU it it.fr) (dW it it.fr) (dU it it.fr) (dW it it.fr)=qA it:=rfl
 have e2:dt2 (dU it it.to) (dW it it.to) (dU it it.to) (dW it it.to)=qB it:=rfl
 have e3:dt2 (dU it it.fr) (dW it it.fr) (dU it it.to) (dW it it.to)=dAB it:=rfl
 have e4:crs (dU it it.fr) (dW it it.fr) (dU it it.to) (dW it it.to)=cAB it:=rfl
 rw[e1]at D1
 rw[e2]at D2
 rw[e3]at D3
 rw[e4]at D4
 have T:= @Zzk MN (qA it) (qB it) (cAB it) (dAB it) (dU it it.fr) (dW it it.fr) (dU it it.to) (dW it it.to) it.full x1' x2' hN
 have n7: ¬ ¬bd 1048576 it.ce:=fun h=>h c7
 by_cases d1:it.dir=1
 ·rw[if_neg (c:=it.dir≠1) (fun h=>h d1),if_neg n7]
  simp only[hE',go_sem,D1,D2,D3,D4]
  exact T
 ·rw[if_pos (c:=it.dir≠1) d1,if_neg (c:=it.dir≠-1) (by omega),if_neg n7]
  simp only[hE',go_sem,D1,D2,D3,D4]
  exact T
theorem Qly (it:Itm):∃v,GG (Ag it)=some [B v]/\(v=true↔C_ it):=
 Q6x Qbp Zxn (fun h1 h2 h3 h4=>Q32 h1 h2 h3 h4) Z7 Qjb Q92

end Go.Bm
/- the reference's spokes: the middle of a piece, the pieces of an arc, its chords -/
set_option maxRecDepth 100000
namespace Go.Bm

def okS (s:Spk):Prop:=s.u.natAbs<=50000000/\s.w.natAbs<=50000000/\(0<=s.r/\s.r<=50000000)/\s.h.natAbs<=16777216
def hf (a b:Int):Int:=(a+b+1)/2
def De (a b:Spk) (dir:Int) (full:Bool):Int×Int:=
 if full=true then(-a.u,-a.w)
 else if 0<dt2 a.u a.w b.u b.w/\0<crs a.u a.w b.u b.w*dir then(a.u+b.u,a.w+b.w)
 else if 0<dt2 a.u a.w b.u b.w then(-(a.u+b.u),-(a.w+b.w))
 else(dir*(b.w-a.w),dir*(a.u-b.u))
noncomputable def Hc (a b:Spk) (u w:Int):Spk:=if u=0/\w=0 then⟨0,0,0,0⟩else⟨BN u (hf a.r b.r) (sq2 u w),BN w (hf a.r b.r) (sq2 u w),hf a.r b.r,hf a.h b.h⟩
noncomputable def Em (a b:Spk) (dir:Int) (full:Bool):Spk:=Hc a b (De a b dir full).1 (De a b dir full).2
theorem L0 {a b:Spk} (ha:okS a) (hb:okS b) {dir:Int} (hd:dir=1\/dir= -1) (full:Bool):(De a b dir full).1.natAbs<=100000000/\(De a b dir full).2.natAbs<=100000000:=by
 obtain⟨a1,a2,-⟩:=ha
 obtain⟨b1,b2,-⟩:=hb
 unfold De
 split
 ·exact⟨by simp only;omega,by simp only;omega⟩
 ·split
  ·exact⟨by simp only;omega,by simp only;omega⟩
  ·split
   ·exact⟨by simp only;omega,by simp only;omega⟩
   ·rcases hd with rfl|rfl
    ·exact⟨by simp only;omega,by simp only;omega⟩
    ·exact⟨by simp only;omega,by simp only;omega⟩
theorem Qp5 (u w:Int):u*u<=sq2 u w/\w*w<=sq2 u w:=by
 have h1:=Fk u
 have h2:=Fk w
 unfold sq2
 omega
theorem Sq {u w:Int} (h: ¬(u=0/\w=0)):0<sq2 u w:=by
 have h1:=Fk u
 have h2:=Fk w
 have z:∀u:Int,u*u=0->u=0:=fun u hu=>by
  rcases Int.mul_eq_zero.1 hu with h|h<;>exact h
 have h3: ¬(u*u=0/\w*w=0):=fun h4=>h ⟨z _ h4.1,z _ h4.2⟩
 unfold sq2
 omega
theorem Q12 {a b:Int} (ha:0<=a/\a<=50000000) (hb:0<=b/\b<=50000000):0<=hf a b/\hf a b<=50000000:=by unfold hf;omega
theorem Zza {a b:Int} (ha:a.natAbs<=16777216) (hb:b.natAbs<=16777216):(hf a b).natAbs<=16777216:=by unfold hf;omega
theorem Q6h {u w r:Int} (hu:u.natAbs<=100000000) (hw:w.natAbs<=100000000) (hr:0<=r/\r<=50000000) (h: ¬(u=0/\w=0)):
  (True/\(BN u r (sq2 u w)).natAbs<=r.natAbs)/\(True/\(BN w r (sq2 u w)).natAbs<=r.natAbs):=by
 have hp:=Sq h
 have h1:=Dk hu
 have h2:=Dk hw
 have h3:sq2 u w<=20000000000000000:=by unfold sq2;omega
 obtain⟨q1,q2⟩:=Qp5 u w
 have key:∀x:Int,x.natAbs<=100000000->x*x<=sq2 u w->True/\(BN x r (sq2 u w)).natAbs<=r.natAbs:=by
  intro x hx hq
  obtain⟨g1,-,g3⟩:=QU (x:=x) (r:=r) (n:=sq2 u w) (Nat.le_trans hx (by decide)) (by omega) (by omega) hq
  refine⟨g1,Qjy (by omega) ?_ g3⟩
  have:((x.natAbs*x.natAbs:Nat):Int)=x*x:=Int.natAbs_mul_self
  omega
 exact⟨key u hu q1,key w hw q2⟩

theorem Zs4 {a b:Spk} (ha:okS a) (hb:okS b) {u w:Int} (hu:u.natAbs<=100000000) (hw:w.natAbs<=100000000):okS (Hc a b u w):=by
 unfold Hc
 split
 ·exact⟨by simp,by simp,by simp,by simp⟩
 ·rename_i h
  have hr:=Q12 ha.2.2.1 hb.2.2.1
  obtain⟨⟨-,n1⟩,-,n2⟩:=Q6h hu hw hr h
  exact⟨by simp only;omega,by simp only;omega,hr,Zza ha.2.2.2 hb.2.2.2⟩
theorem Q2s {a b:Spk} (ha:okS a) (hb:okS b) {dir:Int} (hd:dir=1\/dir= -1) (full:Bool):okS (Em a b dir full):=
 Zs4 ha hb (L0 ha hb hd full).1 (L0 ha hb hd full).2
theorem F2 {x:Int} (h:x.natAbs<=50000000):x.natAbs<=1000000000:=Nat.le_trans h (by decide)
def Hu (a b:Spk) (dir:Int) (full:Bool):Prop:=full=false/\0<crs a.u a.w b.u b.w*dir/\sq2 (a.u-b.u) (a.w-b.w)<=32*mn a.r b.r-64
instance {a b:Spk} {dir:Int} {full:Bool}:Decidable (Hu a b dir full):=by unfold Hu;infer_instance
noncomputable def Dp (dir:Int):Nat->Bool->Spk->Spk->List Spk
 |0,_,_,b=>[b]
 |k+1,full,a,b=>if Hu a b dir full then [b]else Dp dir k false a (Em a b dir full)++Dp dir k false (Em a b dir full) b
theorem S_ {dir:Int}:∀(k:Nat) (full:Bool) (a b:Spk),1<=(Dp dir k full a b).length/\(Dp dir k full a b).length<=2^k
 |0,_,_,b=>by simp[Dp]
 |k+1,full,a,b=>by
  have hp:0<2^k:=Nat.two_pow_pos _
  have e3:2^(k+1)=2^k+2^k:=by rw[Nat.pow_succ];omega
  unfold Dp
  split
  ·simp;omega
  ·have h1:=S_ k false a (Em a b dir full) (dir:=dir)
   have h2:=S_ k false (Em a b dir full) b (dir:=dir)
   rw[List.length_append]
   omega
theorem UK {dir:Int} (hd:dir=1\/dir= -1):∀(k:Nat) (full:Bool) {a b:Spk},okS a->okS b->∀s∈Dp dir k full a b,okS s
 |0,_,a,b,_,hb,s,hs=>by simp[Dp]at hs;subst hs;exact hb
 |k+1,full,a,b,ha,hb,s,hs=>by
  unfold Dp at hs
  have hm:=Q2s ha hb hd full
  split at hs
  ·simp at hs;subst hs;exact hb
  ·rcases List.mem_append.1 hs with hs|hs
   ·exact UK hd k false ha hm s hs
   ·exact UK hd k false hm hb s hs
end Go.Bm
/- the reference's chords -/
set_option maxRecDepth 100000
namespace Go.Bm

theorem Zsc {n i j:Int} (hi:Ii n i) (hj:Ii n j):i=j:=by
 have key:∀{i j:Int},Ii n i->Ii n j-> ¬i<j:=by
  rintro i j ⟨h1,h2,-⟩ ⟨h4,h5,h6⟩ hlt
  rcases h6 with h6|h6
  ·omega
  ·have h7:=Int.mul_le_mul (show i<=j-1 by omega) (show i+1<=j by omega) (by omega) (by omega)
   omega
 have h1:=key hi hj
 have h2:=key hj hi
 omega
open Classical in
noncomputable def Ff (n:Int):Int:=if h:∃j,Ii n j then Classical.choose h else 0
theorem Q8 {n k:Int} (h:Ii n k):Ff n=k:=by
 have hx:∃j,Ii n j:=⟨k,h⟩
 unfold Ff
 rw[dif_pos hx]
 exact Zsc (Classical.choose_spec hx) h
theorem Qr {n r:Nat} (h1:r*r<=n) (h2:n<(r+1)*(r+1)):Ii n (if r*r+r<n then r+1 else r:Nat):=by
 have e0:(r+1)*(r+1)=r*r+r+r+1:=by grind
 unfold Ii
 by_cases c:r*r+r<n
 ·rw[if_pos c]
  have e1:((r+1:Nat):Int)*(((r+1:Nat):Int)+1)=((r*r+r+r+r+2:Nat):Int):=by
   have:((r+1:Nat):Int)+1=((r+2:Nat):Int):=by omega
   rw[this,<-Int.natCast_mul]
   congr 1
   grind
  have e2:(((r+1:Nat):Int)-1)*((r+1:Nat):Int)=((r*r+r:Nat):Int):=by
   rw[show((r+1:Nat):Int)-1=(r:Int) by omega,<-Int.natCast_mul]
   congr 1
  rw[e1,e2]
  generalize r*r=A at*
  exact⟨by omega,by omega, .inr (by omega)⟩
 ·rw[if_neg c]
  have e1:(r:Int)*((r:Int)+1)=((r*r+r:Nat):Int):=by
   rw[show(r:Int)+1=((r+1:Nat):Int) by omega,<-Int.natCast_mul]
   congr 1
  rw[e1]
  refine⟨by omega,by omega,?_⟩
  rcases Nat.eq_zero_or_pos r with h|h
  ·left;omega
  ·right
   have e2:((r:Int)-1)*(r:Int)=(((r-1)*r:Nat):Int):=by
    rw[show(r:Int)-1=((r-1:Nat):Int) by omega];exact(Int.natCast_mul _ _).symm
   have:=Nat.mul_lt_mul_of_pos_right (show r-1<r by omega) h
   rw[e2];omega
noncomputable def DW (it:Itm) (p:Pt):Spk:=⟨dU it p*16,dW it p*16,Ff (sq2 (dU it p*16) (dW it p*16)),plH it.plane p*16⟩
theorem Zj2 {n:Nat} (hn:n<=2251799813685248):0<=Ff n/\Ff n<=50000000:=by
 obtain⟨r,-,h2,h3,-⟩:=QW (n:=n) (by omega)
 have hm:=Qr h2 h3
 rw[Q8 hm]
 have:r<50000000:=by
  by_cases c:r<50000000
  ·exact c
  ·have:=Nat.mul_le_mul (show 50000000<=r by omega) (show 50000000<=r by omega)
   omega
 split<;>omega
theorem Om {it:Itm} {p:Pt} (hc:bd 1048576 it.ce) (hp:bd 1048576 p):(dU it p*16).natAbs<=33554432/\(dW it p*16).natAbs<=33554432/\0<=sq2 (dU it p*16) (dW it p*16)/\sq2 (dU it p*16) (dW it p*16)<=2251799813685248:=by
 obtain⟨h1,h2⟩:=VY hc hp
 have h3:(dU it p*16).natAbs<=33554432:=by omega
 have h4:(dW it p*16).natAbs<=33554432:=by omega
 have q1:=Dk h3
 have q2:=Dk h4
 refine⟨h3,h4,?_⟩
 unfold sq2
 omega
theorem Td {it:Itm} {p:Pt} (hc:bd 1048576 it.ce) (hp:bd 1048576 p):okS (DW it p):=by
 obtain⟨h1,h2,h3,h4⟩:=Om hc hp
 have h5:=(Hh (pl:=it.plane) hp).2.2
 obtain⟨n,hn⟩:=Int.eq_ofNat_of_zero_le h3
 refine⟨Nat.le_trans h1 (by decide),Nat.le_trans h2 (by decide),?_,?_⟩
 ·show 0<=Ff _/\Ff _<=_
  rw[hn]at h4⊢
  exact Zj2 (by omega)
 ·show(plH it.plane p*16).natAbs<=_
  omega
noncomputable def Dj (it:Itm):List Spk:=DW it it.fr::Dp it.dir 16 it.full (DW it it.fr) (DW it it.to)
theorem Q0b {it:Itm} (h:C_ it) (h3:it.kind=3):∀s∈Dj it,okS s:=by
 obtain⟨-,h1,h2,ha⟩:=h
 obtain⟨hp,hd,hc,-⟩:=ha h3
 intro s hs
 rcases List.mem_cons.1 hs with rfl|hs
 ·exact Td hc h1
 ·exact UK hd 16 _ (Td hc h1) (Td hc h2) s hs
theorem Qyj (it:Itm):2<=(Dj it).length/\(Dj it).length<=65537:=by
 have:=S_ (dir:=it.dir) 16 it.full (DW it it.fr) (DW it it.to)
 have e:(2:Nat)^16=65536:=rfl
 rw[e]at this
 unfold Dj
 rw[List.length_cons]
 omega
noncomputable def IG (it:Itm) (s:Spk):Pt:=spP it.plane (plU it.plane (Ax it.ce)+s.u) (plW it.plane (Ax it.ce)+s.w) s.h
noncomputable def Cs (it:Itm):List Pt:=if it.kind=3 then(Dj it).map (IG it)else [Ax it.fr,Ax it.to]
theorem Q6j {pl u w h:Int} {b:Nat} (hu:u.natAbs<=b) (hw:w.natAbs<=b) (hh:h.natAbs<=b):bd b (spP pl u w h):=by
 unfold spP bd
 split
 ·exact⟨hu,hw,hh⟩
 ·split
  ·exact⟨hw,hh,hu⟩
  ·exact⟨hh,hu,hw⟩
theorem Zr9 {it:Itm} {s:Spk} (hc:bd 1048576 it.ce) (hs:okS s):bd 67108864 (IG it s):=by
 obtain⟨h1,h2,-⟩:=Hh (pl:=it.plane) (EP hc)
 obtain⟨s1,s2,-,s4⟩:=hs
 exact Q6j (by omega) (by omega) (by omega)
theorem ZR {it:Itm} (h:C_ it):∀p∈Cs it,bd 67108864 p:=by
 intro p hp
 unfold Cs at hp
 split at hp
 ·rename_i h3
  simp only[List.mem_map]at hp
  obtain⟨s,hs,rfl⟩:=hp
  exact Zr9 (h.2.2.2 h3).2.2.1 (Q0b h h3 s hs)
 ·simp at hp
  rcases hp with rfl|rfl
  ·exact AU (EP h.2.1) (by decide)
  ·exact AU (EP h.2.2.1) (by decide)
theorem Qq1 (it:Itm):2<=(Cs it).length/\(Cs it).length<=65537:=by
 have:=Qyj it
 unfold Cs
 split<;>simp<;>omega
end Go.Bm
/- the programmed speed of a motion -/
set_option maxRecDepth 100000
namespace Go.Bm
def Ho (t:Itm) (speed:Int):Int:=if t.kind=1 then 0 else mx (Bb (mn (if t.perRev=true then t.feed*mx speed 1 else t.feed) 60000000*4096) 60000) 1
theorem Zya {f s:Int} (hf:0<=f/\f<=60000000) (hs:0<=s/\s<=30000):0<=f*mx s 1/\f*mx s 1<=1800000000000:=by
 have h1:1<=mx s 1/\mx s 1<=30000:=by unfold mx;split<;>omega
 generalize mx s 1=m at*
 have h2:=Int.mul_le_mul hf.2 h1.2 (by omega) (by omega)
 have h3:=Int.mul_nonneg hf.1 (show 0<=m by omega)
 omega
theorem Q1x {x:Int} (h:0<=x):0<=mn x 60000000/\mn x 60000000<=60000000:=by unfold mn;split<;>omega
theorem Zmu {M:Fn} {t:Itm} {speed:Int} (hf:0<=t.feed/\t.feed<=60000000) (hs:0<=speed/\speed<=30000)
  (hM:∀a:Int,0<=a/\a<=60000000->M [I a,I 4096,I 60000,I 2]=some [I (Bb (a*4096) 60000),B true]):Ql4 M (Ag t++[I speed])=some [I (Ho t speed)]:=by
 have h1:=Zya hf hs
 have h2:=hM _ (Q1x h1.1)
 have h3:=hM _ (Q1x hf.1)
 have h4:IntKind.i64.wrap (t.feed*mx speed 1)=t.feed*mx speed 1:=Ae (by omega)
 simp only[Ag,List.cons_append,List.nil_append]
 rw[Qn8,h4]
 simp only[go_sem,h2,h3]
 unfold Ho
 by_cases g1:t.kind=1
 ·rw[if_pos g1,if_pos g1]
 ·rw[if_neg g1,if_neg g1]
  by_cases g2:t.perRev=true
  ·rw[if_pos g2,if_pos g2]
  ·rw[if_neg g2,if_neg g2]
theorem Zry {t:Itm} {speed:Int} (hf:0<=t.feed/\t.feed<=60000000) (hs:0<=speed/\speed<=30000):JJ (Ag t++[I speed])=some [I (Ho t speed)]:=
 Zmu hf hs fun a ha=>Q2 (by unfold i64;omega) (by unfold i64;omega) (by omega) (by have:a.natAbs*(4096:Int).natAbs<=60000000*4096:=Nat.mul_le_mul (by omega) (by omega);omega)
end Go.Bm
/- the reference's points of a motion -/
set_option maxRecDepth 100000
namespace Go.Bm

def it0:Itm:=⟨0,0,⟨0,0,0⟩,⟨0,0,0⟩,0,⟨0,0,0⟩,0,false,0,false,0,0,0,0,0,false⟩
def itA (items:List Itm) (i:Nat):Itm:=items.getD i it0
theorem Oj {items:List Itm} {i:Nat} (h:i<items.length):itA items i=items[i]:=by unfold itA;simp[h]
theorem Qpw {items:List Itm} {i:Nat} (h:i<items.length):itA items i∈items:=by rw[Oj h];exact List.getElem_mem h
theorem EJ {items:List Itm} {i:Nat} (h:i<items.length):nth [] (items.map Ag) i=Ag (itA items i):=by rw[Oj h];exact Ik _ _ _ _ h
theorem Qna {items:List Itm} {i:Nat} (h:i<items.length):items.drop i=itA items i::items.drop (i+1):=by rw[Oj h];exact NK _ _ h
def AD (it:Itm):Prop:=1<=it.kind/\it.kind<=6
def smI (it:Itm):Prop:=it.kind=2/\it.fr≠it.to
def syI (it:Itm):Prop:=it.kind=5\/it.kind=6
instance (it:Itm):Decidable (AD it):=by unfold AD;infer_instance
instance (it:Itm):Decidable (smI it):=by unfold smI;infer_instance
instance (it:Itm):Decidable (syI it):=by unfold syI;infer_instance
def A5 (it:Itm):Pt:=⟨(it.fr.x+it.to.x)*8,(it.fr.y+it.to.y)*8,(it.fr.z+it.to.z)*8⟩
theorem J_ {it:Itm} (h1:bd 1048576 it.fr) (h2:bd 1048576 it.to):bd B24 (A5 it):=by
 unfold bd B24 A5 at*
 simp only
 omega
def Gu:List Itm->Nat->Int
 |[],_=> -1
 |it::l,k=>if it.kind=10 then Gu l (k+1)else if smI it then k else-1
def BR (items:List Itm) (i:Nat):Int:=if smI (itA items i)/\(itA items i).blend≠0 then Gu (items.drop (i+1)) (i+1)else-1
theorem Q3f:∀(l:List Itm) (k:Nat),Gu l k= -1\/∃j:Nat,Gu l k=((k+j:Nat):Int)/\∃h:j<l.length,smI l[j]/\∀i (hi:i<l.length),i<j->l[i].kind=10
 |[],_=> .inl rfl
 |it::l,k=>by
  unfold Gu
  split
  ·rename_i h10
   rcases Q3f l (k+1)with h|⟨j,h1,h2,h3,h4⟩
   ·exact .inl h
   ·refine .inr ⟨j+1,by rw[h1];omega,by simp;omega,by simpa using h3,?_⟩
    intro i hi hij
    cases i with
    |zero=>simpa using h10
    |succ i=>simpa using h4 i (by simpa using hi) (by omega)
  ·split
   ·rename_i hs
    exact .inr ⟨0,by simp,by simp,by simpa using hs,fun i _ hi=>by omega⟩
   ·exact .inl rfl
theorem Qnh (items:List Itm) (i:Nat):BR items i= -1\/(smI (itA items i)/\(itA items i).blend≠0/\∃k:Nat,BR items i=k/\i<k/\k<items.length/\smI (itA items k)/\∀j,i<j->j<k->(itA items j).kind=10):=by
 unfold BR
 split
 ·rename_i h
  rcases Q3f (items.drop (i+1)) (i+1)with h1|⟨j,h1,h2,h3,h4⟩
  ·exact .inl h1
  ·have h5:i+1+j<items.length:=by rw[List.length_drop]at h2;omega
   refine .inr ⟨h.1,h.2,i+1+j,h1,by omega,h5,?_,?_⟩
   ·rw[Oj h5]
    rw[List.getElem_drop]at h3
    exact h3
   ·intro m hm1 hm2
    have:=h4 (m-(i+1)) (by omega) (by omega)
    rw[List.getElem_drop]at this
    rw[Oj (by omega)]
    have e:i+1+(m-(i+1))=m:=by omega
    simp only[e]at this
    exact this
 ·exact .inl rfl
def Rv (it:Itm):Int:=if it.kind=10 then 5 else if it.kind=13 then 4 else 3
def Hj:List Itm->Int
 |[]=>2
 |it::l=>if AD it then(if syI it then 1 else 2)else Hj l
def R7 (items:List Itm) (i:Nat):Int:=if(itA items i).kind=4 then 6 else if(itA items i).blend=0 then 1 else if syI (itA items i)then 1 else Hj (items.drop (i+1))
noncomputable def G6 (items:List Itm) (i k:Nat):List Pt:=FH (A5 (itA items i)) (Ax (itA items i).to) (A5 (itA items k)) ((itA items i).blend*16)
def drawn (it:Itm):Prop:=C_ it/\0<=it.blend/\it.blend<=1000
theorem K7 {items:List Itm} {i k:Nat} (h1:drawn (itA items i)) (h2:drawn (itA items k)):(∀p∈G6 items i k,bd B24 p)/\1<=(G6 items i k).length/\(G6 items i k).length<=65:=
 Q3z (J_ h1.1.2.1 h1.1.2.2.1) (EP h1.1.2.2.1) (J_ h2.1.2.1 h2.1.2.2.1)
noncomputable def I4 (items:List Itm) (i:Nat) (frm:Int):List Pt:=if 0<=frm then(G6 items frm.toNat i).drop ((G6 items frm.toNat i).length/2)else(Cs (itA items i)).take 1
noncomputable def Lg (items:List Itm) (i:Nat):List Pt:=if 0<=BR items i then(G6 items i (BR items i).toNat).take ((G6 items i (BR items i).toNat).length/2+1)else(Cs (itA items i)).drop 1
noncomputable def Ch (items:List Itm) (i:Nat) (frm:Int):List Pt:=if smI (itA items i)then I4 items i frm++[A5 (itA items i)]++Lg items i else Cs (itA items i)
def KM (items:List Itm) (i:Nat) (frm:Int):Prop:=frm= -1\/∃f:Nat,frm=f/\f<items.length/\drawn (itA items f)
theorem Zy2 {items:List Itm} {i:Nat} {frm:Int} (hd:drawn (itA items i)) (hf:KM items i frm):(∀p∈I4 items i frm,bd 67108864 p)/\(I4 items i frm).length<=65:=by
 unfold I4
 rcases hf with rfl|⟨f,rfl,hf1,hf2⟩
 ·rw[if_neg (by omega)]
  exact⟨fun p hp=>ZR hd.1 p (List.mem_of_mem_take hp),by rw[List.length_take];omega⟩
 ·rw[if_pos (by omega)]
  obtain⟨h1,h2,h3⟩:=K7 (items:=items) (i:=(f:Int).toNat) (k:=i) (by simpa using hf2) hd
  exact⟨fun p hp=>AU (h1 p (List.mem_of_mem_drop hp)) (by decide),by rw[List.length_drop];omega⟩
theorem QG {items:List Itm} {i:Nat} (hall:∀k<items.length,AD (itA items k)->drawn (itA items k)) (hs:0<=BR items i):∃k:Nat,BR items i=k/\k<items.length/\drawn (itA items k):=by
 rcases Qnh items i with h|⟨-,-,k,h1,-,h2,h3,-⟩
 ·omega
 ·exact⟨k,h1,h2,hall k h2 ⟨by have:=h3.1;omega,by have:=h3.1;omega⟩⟩
theorem Zd6 {items:List Itm} {i:Nat} (hd:drawn (itA items i)) (h2:(itA items i).kind≠3) (hall:∀k<items.length,AD (itA items k)->drawn (itA items k)):(∀p∈Lg items i,bd 67108864 p)/\(Lg items i).length<=66:=by
 unfold Lg
 by_cases h:0<=BR items i
 ·rw[if_pos h]
  obtain⟨k,hk,hk1,hk2⟩:=QG hall h
  obtain⟨h1,h2,h3⟩:=K7 (items:=items) (i:=i) (k:=(BR items i).toNat) hd (by rw[hk];simpa using hk2)
  exact⟨fun p hp=>AU (h1 p (List.mem_of_mem_take hp)) (by decide),by rw[List.length_take];omega⟩
 ·rw[if_neg h]
  refine⟨fun p hp=>ZR hd.1 p (List.mem_of_mem_drop hp),?_⟩
  unfold Cs
  rw[if_neg h2]
  simp
theorem Qc4 {items:List Itm} {i:Nat} {frm:Int} (hd:drawn (itA items i)) (hf:KM items i frm) (hall:∀k<items.length,AD (itA items k)->drawn (itA items k)):
  (∀p∈Ch items i frm,bd 67108864 p)/\(Ch items i frm).length<=65537:=by
 unfold Ch
 by_cases hs:smI (itA items i)
 ·rw[if_pos hs]
  obtain⟨h1,h2⟩:=Zy2 hd hf
  obtain⟨h3,h4⟩:=Zd6 hd (by have:=hs.1;omega) hall
  refine⟨fun p hp=> ?_,by rw[List.length_append,List.length_append];simp;omega⟩
  rcases List.mem_append.1 hp with hp|hp
  ·rcases List.mem_append.1 hp with hp|hp
   ·exact h1 p hp
   ·simp at hp;subst hp;exact AU (J_ hd.1.2.1 hd.1.2.2.1) (by decide)
  ·exact h3 p hp
 ·rw[if_neg hs]
  exact⟨ZR hd.1,(Qq1 _).2⟩
theorem Q5h (l:List Pt):List.drop (Int.toNat 1) (l.map ptR)=(l.drop 1).map ptR:=by rw[show Int.toNat 1=1 from rfl,List.map_drop]
theorem Tb (l:List Pt):List.take (Int.toNat 1) (l.map ptR)=(l.take 1).map ptR:=by rw[show Int.toNat 1=1 from rfl,List.map_take]
end Go.Bm
/- the reference's path of a list of items -/
set_option maxRecDepth 100000
namespace Go.Bm
open Classical

def B1 (it:Itm):Prop:=it.kind<1\/it.kind>14\/(AD it/\(¬C_ it\/(it.kind≠1/\(it.feed<1\/it.feed>60000000))\/it.blend<0\/it.blend>1000))\/(¬AD it/\it.kind=8/\(it.n<3\/it.n>5\/it.speed<0\/it.speed>30000))
noncomputable def GS (items:List Itm):Nat->Nat->Int->Int
 |0,_,_=>0
 |k+1,i,last=>if B1 (itA items i)then 1 else if AD (itA items i)then(if 0<=last/\(itA items last.toNat).to≠(itA items i).fr then 13 else GS items k (i+1) i)else GS items k (i+1) last
noncomputable def C6 (items:List Itm):Int:=if items.length>20000 then 10 else GS items items.length 0 (-1)
theorem Qhu {items:List Itm}:∀(k i:Nat) (last:Int),i+k=items.length->GS items k i last=0->∀j,i<=j->j<items.length-> ¬B1 (itA items j)
 |0,i,last,hi,_,j,h1,h2=>by omega
 |k+1,i,last,hi,h,j,h1,h2=>by
  unfold GS at h
  split at h
  ·omega
  ·rename_i c
   by_cases hij:j=i
   ·subst hij;exact c
   ·split at h
    ·split at h
     ·omega
     ·exact Qhu k (i+1) _ (by omega) h j (by omega) h2
    ·exact Qhu k (i+1) _ (by omega) h j (by omega) h2
theorem Ol {items:List Itm} (h:C6 items=0):items.length<=20000/\∀j,j<items.length-> ¬B1 (itA items j):=by
 unfold C6 at h
 split at h
 ·omega
 ·exact⟨by omega,fun j hj=>Qhu _ 0 _ (by omega) h j (by omega) hj⟩
theorem Kz {it:Itm} (h: ¬B1 it) (hm:AD it):drawn it/\(it.kind=1\/1<=it.feed/\it.feed<=60000000):=by
 unfold B1 at h
 have hv:C_ it:=by
  by_cases c:C_ it
  ·exact c
  ·exact absurd (.inr (.inr (.inl ⟨hm, .inl c⟩))) h
 have h2: ¬((it.kind≠1/\(it.feed<1\/it.feed>60000000))\/it.blend<0\/it.blend>1000):=fun c=>h (.inr (.inr (.inl ⟨hm, .inr c⟩)))
 exact⟨⟨hv,by omega,by omega⟩,by omega⟩
theorem Zsk {it:Itm} (h: ¬B1 it) (h8:it.kind=8):0<=it.speed/\it.speed<=30000:=by
 unfold B1 at h
 have hm: ¬AD it:=fun c=>by have:=c.2;omega
 have h2: ¬(it.n<3\/it.n>5\/it.speed<0\/it.speed>30000):=fun c=>h (.inr (.inr (.inr ⟨hm,h8,c⟩)))
 omega

noncomputable def A6 (item feed lead:Int) (s:List Sgm×Int×Pt) (q:Pt):List Sgm×Int×Pt:=if q=s.2.2 then s else(s.1++[⟨q,AA s.2.2 q,item,feed,lead⟩],s.2.1+AA s.2.2 q,q)
theorem Q6 {item feed lead:Int}:∀(pts:List Pt) (s:List Sgm×Int×Pt),(∀p∈pts,bd 67108864 p)->bd 67108864 s.2.2->0<=s.2.1->
  (pts.foldl (A6 item feed lead) s).1.length<=s.1.length+pts.length/\s.2.1<=(pts.foldl (A6 item feed lead) s).2.1/\(pts.foldl (A6 item feed lead) s).2.1<=s.2.1+pts.length*268435456/\bd 67108864 (pts.foldl (A6 item feed lead) s).2.2
 |[],s,_,h2,h3=>⟨by simp,by simp,by simp,h2⟩
 |q::pts,s,h1,h2,h3=>by
  rw[List.foldl_cons]
  have hq:=h1 q (by simp)
  have hl:=HA h2 hq
  have hs:A6 item feed lead s q=s\/A6 item feed lead s q=(s.1++[⟨q,AA s.2.2 q,item,feed,lead⟩],s.2.1+AA s.2.2 q,q):=by unfold A6;split<;>simp
  rcases hs with hs|hs
  ·rw[hs]
   obtain⟨a,b,c,d⟩:=Q6 pts s (fun p hp=>h1 p (by simp[hp])) h2 h3 (item:=item) (feed:=feed) (lead:=lead)
   exact⟨by simp;omega,b,by simp;omega,d⟩
  ·rw[hs]
   obtain⟨a,b,c,d⟩:=Q6 pts (s.1++[⟨q,AA s.2.2 q,item,feed,lead⟩],s.2.1+AA s.2.2 q,q) (fun p hp=>h1 p (by simp[hp])) hq (by simp only;omega) (item:=item) (feed:=feed) (lead:=lead)
   simp only[List.length_append,List.length_cons,List.length_nil]at a b c
   exact⟨by simp;omega,by omega,by simp;omega,d⟩

structure BSt where
 segs:List Sgm
 marks:List Mrk
 (len speed frm:Int)
 begun:Bool
 (start at_:Pt)
def LX (it:Itm):Int:=if syI it then mn (it.feed*16) 16777216 else 0
def Pb (it:Itm) (s:Int):Int:=if it.kind=8/\(it.n=3\/it.n=4)then it.speed else s
noncomputable def Fp (items:List Itm) (i:Nat) (s:BSt):List Sgm×Int×Pt:=
 (Ch items i s.frm).foldl (A6 i (Ho (itA items i) s.speed) (LX (itA items i))) (s.segs,s.len,if s.begun=true then s.at_ else Ax (itA items i).fr)
noncomputable def E_ (items:List Itm) (i:Nat) (s:BSt):BSt:=
 if AD (itA items i)then
  ⟨(Fp items i s).1,s.marks++[⟨(Fp items i s).2.1,R7 items i,i⟩],(Fp items i s).2.1,s.speed,if 0<=BR items i then i else-1,true,if s.begun=true then s.start else Ax (itA items i).fr,(Fp items i s).2.2⟩
 else⟨s.segs,s.marks++[⟨s.len,Rv (itA items i),i⟩],s.len,Pb (itA items i) s.speed,s.frm,s.begun,s.start,s.at_⟩
noncomputable def Aw (items:List Itm):Nat->BSt
 |0=>⟨[],[],0,0,-1,false,⟨0,0,0⟩,⟨0,0,0⟩⟩
 |i+1=>E_ items i (Aw items i)
structure BOK (items : List Itm) (i : Nat) (s : BSt) : Prop where
 segs:s.segs.length<=i*65537
 marks:s.marks.length=i
 len:0<=s.len/\s.len<=i*65537*268435456
 speed:0<=s.speed/\s.speed<=30000
 frm:KM items i s.frm
 at_:s.begun=true->bd 67108864 s.at_
theorem Qpl {items:List Itm} {i:Nat} {s:BSt} (hi:i<items.length) (hright:∀j<items.length,¬B1 (itA items j)) (h:BOK items i s):BOK items (i+1) (E_ items i s):=by
 have hall:∀k<items.length,AD (itA items k)->drawn (itA items k):=fun k hk hm=>(Kz (hright k hk) hm).1
 unfold E_
 by_cases hm:AD (itA items i)
 ·rw[if_pos hm]
  have hd:=hall i hi hm
  obtain⟨p1,p2⟩:=Qc4 hd h.frm hall
  have ha:bd 67108864 (if s.begun=true then s.at_ else Ax (itA items i).fr):=by
   by_cases hb:s.begun=true
   ·rw[if_pos hb];exact h.at_ hb
   ·rw[if_neg hb];exact AU (EP hd.1.2.1) (by decide)
  obtain⟨a1,a2,a3,a4⟩:=Q6 (item:=i) (feed:=Ho (itA items i) s.speed) (lead:=LX (itA items i)) (Ch items i s.frm) (s.segs,s.len,if s.begun=true then s.at_ else Ax (itA items i).fr) p1 ha h.len.1
  have h1:=h.segs
  have h2:=h.len
  have e1:(i+1)*65537=i*65537+65537:=by rw[Nat.succ_mul]
  refine⟨?_,?_,?_,h.speed,?_,fun _=>a4⟩
  ·simp only at a1
   show(Fp items i s).1.length<=_
   unfold Fp
   omega
  ·show(s.marks++[_]).length=_
   rw[List.length_append,h.marks];rfl
  ·show 0<=(Fp items i s).2.1/\(Fp items i s).2.1<=_
   unfold Fp
   simp only at a2 a3
   have e2:(((i+1:Nat):Int))*65537*268435456=(i:Int)*65537*268435456+65537*268435456:=by
    rw[Int.natCast_add,Int.natCast_one,Int.add_mul,Int.add_mul];rfl
   constructor
   ·omega
   ·rw[e2];omega
  ·show KM items (i+1) (if 0<=BR items i then(i:Int)else-1)
   split
   ·exact .inr ⟨i,rfl,hi,hd⟩
   ·exact .inl rfl
 ·rw[if_neg hm]
  have h2:=h.len
  have h3:=h.segs
  have e1:(i+1)*65537=i*65537+65537:=by rw[Nat.succ_mul]
  refine⟨by show s.segs.length<=_;rw[e1];exact Nat.le_trans h3 (Nat.le_add_right _ _),?_,?_,?_,h.frm,h.at_⟩
  ·show(s.marks++[_]).length=_
   rw[List.length_append,h.marks];rfl
  ·have e2:(((i+1:Nat):Int))*65537*268435456=(i:Int)*65537*268435456+65537*268435456:=by
    rw[Int.natCast_add,Int.natCast_one,Int.add_mul,Int.add_mul];rfl
   show 0<=s.len/\s.len<=_
   rw[e2];omega
  ·show 0<=Pb (itA items i) s.speed/\Pb (itA items i) s.speed<=30000
   unfold Pb
   split
   ·rename_i h8;exact Zsk (hright i hi) h8.1
   ·exact h.speed
theorem Zu4 (items:List Itm):BOK items 0 ⟨[],[],0,0,-1,false,⟨0,0,0⟩,⟨0,0,0⟩⟩:=by
 refine⟨Nat.zero_le _,List.length_nil,⟨Int.le_refl _,?_⟩,⟨Int.le_refl _,?_⟩, .inl rfl,fun h=>by cases h⟩
 ·show(0:Int)<=((0:Nat):Int)*65537*268435456
  rw[show((0:Nat):Int)=0 from rfl,Int.zero_mul,Int.zero_mul]
  exact Int.le_refl _
 ·show(0:Int)<=30000
  omega
theorem NV {items:List Itm} (hright:∀j<items.length,¬B1 (itA items j)):∀i,i<=items.length->BOK items i (Aw items i)
 |0,_=>by rw[Aw];exact Zu4 items
 |i+1,hi=>by rw[Aw];exact Qpl (by omega) hright (NV hright i (by omega))
end Go.Bm
/- the reference's path of a list of items: the model gives it -/
set_option maxRecDepth 100000
namespace Go.Bm
open Classical

end Go.Bm
/- the reference's path of a list of items, for up to 15 items -/
set_option maxRecDepth 100000
namespace Go.Bm
open Classical

noncomputable def A3 (items:List Itm):Pth:=⟨(Aw items items.length).start,(Aw items items.length).segs,(Aw items items.length).marks⟩
end Go.Bm
/- what is known of every path that the reference builds -/
set_option maxRecDepth 100000
namespace Go.Bm
open Classical

def EK:Pt->List Sgm->Pt
 |a,[]=>a
 |_,g::l=>EK g.to l
abbrev B26:Nat:=67108864
def LL:Pt->List Sgm->Prop
 |_,[]=>True
 |a,g::l=>g.len=AA a g.to/\g.to≠a/\bd B26 g.to/\LL g.to l
def AR:List Sgm->Int
 |[]=>0
 |g::l=>g.len+AR l
theorem Sj (g:Sgm):∀(a:Pt) (l:List Sgm),EK a (l++[g])=g.to
 |_,[]=>rfl
 |_,h::l=>by simp only[List.cons_append,EK];exact Sj g h.to l
theorem Q49 {g:Sgm}:∀{a:Pt} {l:List Sgm},LL a l->g.len=AA (EK a l) g.to->g.to≠EK a l->bd B26 g.to->LL a (l++[g])
 |a,[],_,h1,h2,h3=>⟨h1,h2,h3,trivial⟩
 |a,k::l,h,h1,h2,h3=>⟨h.1,h.2.1,h.2.2.1,Q49 h.2.2.2 h1 h2 h3⟩
theorem Qlt (g:Sgm):∀(l:List Sgm),AR (l++[g])=AR l+g.len
 |[]=>by simp[AR]
 |k::l=>by simp only[List.cons_append,AR];rw[Qlt g l];omega
def ZF (start:Pt) (s:List Sgm×Int×Pt):Prop:=LL start s.1/\EK start s.1=s.2.2/\AR s.1=s.2.1
theorem Qbd {start:Pt} {item feed lead:Int}:∀(pts:List Pt) (s:List Sgm×Int×Pt),(∀p∈pts,bd B26 p)->ZF start s->ZF start (pts.foldl (A6 item feed lead) s)
 |[],s,_,h=>h
 |q::pts,s,hp,h=>by
  rw[List.foldl_cons]
  refine Qbd pts _ (fun p hp'=>hp p (by simp[hp'])) ?_
  unfold A6
  by_cases c:q=s.2.2
  ·rw[if_pos c];exact h
  ·rw[if_neg c]
   obtain⟨h1,h2,h3⟩:=h
   refine⟨Q49 h1 (by rw[h2]) (by rw[h2];exact c) (hp q (by simp)),Sj _ _ _,?_⟩
   simp only[Qlt,h3]
structure BInv (s : BSt) : Prop where
 begun:s.begun=true->bd B26 s.start/\ZF s.start (s.segs,s.len,s.at_)
 empty:s.begun=false->s.segs=[]/\s.len=0/\s.start=⟨0,0,0⟩
theorem Zoj {items:List Itm} {i:Nat} {s:BSt} (hi:i<items.length) (hright:∀j<items.length,¬B1 (itA items j)) (hok:BOK items i s) (h:BInv s):BInv (E_ items i s):=by
 have hall:∀k<items.length,AD (itA items k)->drawn (itA items k):=fun k hk hm=>(Kz (hright k hk) hm).1
 unfold E_
 by_cases hm:AD (itA items i)
 ·rw[if_pos hm]
  have hd:=hall i hi hm
  obtain⟨p1,-⟩:=Qc4 hd hok.frm hall
  refine⟨fun _=> ?_,fun hb=>(by cases hb)⟩
  unfold Fp
  by_cases hb:s.begun=true
  ·rw[if_pos hb,if_pos hb]
   obtain⟨g1,g2⟩:=h.begun hb
   exact⟨g1,Qbd _ _ p1 g2⟩
  ·rw[if_neg hb,if_neg hb]
   obtain⟨g1,g2,g3⟩:=h.empty (by simpa using hb)
   refine⟨AU (EP hd.1.2.1) (by decide),Qbd _ _ p1 ?_⟩
   rw[g1,g2]
   exact⟨trivial,rfl,rfl⟩
 ·rw[if_neg hm]
  exact⟨h.begun,h.empty⟩
theorem RQ {items:List Itm} (hright:∀j<items.length,¬B1 (itA items j)):∀i,i<=items.length->BInv (Aw items i)
 |0,_=>by rw[Aw];exact⟨fun h=>(by cases h),fun _=>⟨rfl,rfl,rfl⟩⟩
 |i+1,hi=>by rw[Aw];exact Zoj (by omega) hright (NV hright i (by omega)) (RQ hright i (by omega))
structure GoodPath (p : Pth) : Prop where
 start:bd B26 p.start
 segs:LL p.start p.segs
 count:p.segs.length<=983055
theorem Q4k {items:List Itm} (hlen:items.length<=15) (hc:C6 items=0):GoodPath (A3 items):=by
 have hright:=(Ol hc).2
 have h1:=NV hright items.length (Nat.le_refl _)
 have h2:=RQ hright items.length (Nat.le_refl _)
 have hs:=h1.segs
 unfold A3
 by_cases hb:(Aw items items.length).begun=true
 ·obtain⟨g1,g2,-⟩:=h2.begun hb
  exact⟨g1,g2,by simp only;omega⟩
 ·obtain⟨g1,-,g3⟩:=h2.empty (by simpa using hb)
  refine⟨?_,?_,?_⟩
  ·simp only[g3];unfold bd;simp
  ·simp only[g1];trivial
  ·simp only[g1];simp
theorem Q5n {a b:Pt} (ha:bd B26 a) (hb:bd B26 b) (h:b≠a):1<=AA a b/\AA a b<=268435456:=by
 obtain⟨-,h1,h2,-⟩:=Qi1 ha hb
 have h3:sqD a b≠0:=fun e=>h (Qay.1 e).symm
 have h4:=PK a b
 have h5:=HA ha hb
 refine⟨?_,h5.2⟩
 by_cases c:AA a b=0
 ·rw[c]at h2;omega
 ·omega
theorem Qcd {a:Pt} {l:List Sgm} (ha:bd B26 a) (h:LL a l):∀g∈l,1<=g.len/\g.len<=268435456/\bd B26 g.to:=by
 induction l generalizing a with
 |nil=>simp
 |cons k l ih=>
  obtain⟨h1,h2,h3,h4⟩:=h
  intro g hg
  rcases List.mem_cons.1 hg with rfl|hg
  ·rw[h1];exact⟨(Q5n ha h3 h2).1,(Q5n ha h3 h2).2,h3⟩
  ·exact ih h3 h4 g hg
theorem U4 {l:List Sgm} (h:∀g∈l,1<=g.len/\g.len<=268435456/\bd B26 g.to):(l.length:Int)<=AR l/\AR l<=l.length*268435456:=by
 induction l with
 |nil=>simp[AR]
 |cons k l ih=>
  have:=ih fun g hg=>h g (by simp[hg])
  have:=h k (by simp)
  simp only[AR,List.length_cons]
  omega
end Go.Bm
/- positions of a path: its length, the segment and the point at a position -/
set_option maxRecDepth 100000
namespace Go.Bm
open Classical

def Mc (a:Pt) (g:Sgm) (d:Int):Pt:=⟨a.x+Bb ((g.to.x-a.x)*d) g.len,a.y+Bb ((g.to.y-a.y)*d) g.len,a.z+Bb ((g.to.z-a.z)*d) g.len⟩
def atL:Pt->List Sgm->Int->Pt
 |a,[],_=>a
 |a,g::l,s=>if s<g.len then Mc a g s else atL g.to l (s-g.len)
def atP (p:Pth) (s:Int):Pt:=atL p.start p.segs (max s 0)
def A9:List Sgm->Int->Nat×Int
 |[],s=>(0,s)
 |[g],s=>if s<g.len then(0,s)else(0,g.len)
 |g::h::l,s=>if s<g.len then(0,s)else((A9 (h::l) (s-g.len)).1+1,(A9 (h::l) (s-g.len)).2)
def Et (a:Pt) (l:List Sgm) (i:Nat):Pt:=EK a (l.take i)
def sg0:Sgm:=⟨⟨0,0,0⟩,0,0,0,0⟩
def sgA (l:List Sgm) (i:Nat):Sgm:=l.getD i sg0
theorem L5 {l:List Sgm} {i:Nat} (h:i<l.length):sgA l i=l[i]:=by unfold sgA;simp[h]
theorem Kw {l:List Sgm} {i:Nat} (h:i<l.length):nth [] (l.map Ay) i=Ay (sgA l i):=by rw[L5 h];exact Ik _ _ _ _ h
theorem Hn {l:List Sgm} {i:Nat} (h:i<l.length):sgA l i∈l:=by rw[L5 h];exact List.getElem_mem h
theorem Jd (a:Pt) (l:List Sgm):Et a l 0=a:=by unfold Et;simp[EK]
theorem YO (a:Pt) (g:Sgm) (l:List Sgm) (i:Nat):Et a (g::l) (i+1)=Et g.to l i:=by unfold Et;rw[List.take_succ_cons];rfl
theorem Ql5 (g:Sgm) (l:List Sgm) (i:Nat):sgA (g::l) (i+1)=sgA l i:=by unfold sgA;simp
theorem Q3:∀{l:List Sgm} {i:Nat} {a:Pt},i<l.length->Et a l (i+1)=(sgA l i).to
 |g::l,0,a,_=>by rw[YO,Jd];rfl
 |g::l,i+1,a,h=>by rw[YO,Ql5];exact Q3 (by simpa using h)
theorem Qky {x n:Int} (hn:0<n):Bb (x*n) n=x:=Q7 hn
theorem Q8u {a:Pt} {g:Sgm} (h:0<g.len):Mc a g g.len=g.to:=by
 unfold Mc
 rw[Qky h,Qky h,Qky h]
 rw[Dz]
 exact⟨by simp only;omega,by simp only;omega,by simp only;omega⟩
theorem Xl:∀{l:List Sgm} {a:Pt} {s:Int},l≠[]->(∀g∈l,1<=g.len)->0<=s->
  (A9 l s).1<l.length/\0<=(A9 l s).2/\(A9 l s).2<=(sgA l (A9 l s).1).len/\atL a l s=Mc (Et a l (A9 l s).1) (sgA l (A9 l s).1) (A9 l s).2
 |[],_,_,h,_,_=>absurd rfl h
 |[g],a,s,_,hg,hs=>by
  have h1:=hg g (by simp)
  unfold A9
  by_cases c:s<g.len
  ·rw[if_pos c]
   refine⟨by simp,hs,by show s<=g.len;omega,?_⟩
   unfold atL
   rw[if_pos c,Jd];rfl
  ·rw[if_neg c]
   refine⟨by simp,by simp only;omega,Int.le_refl _,?_⟩
   unfold atL
   rw[if_neg c,Jd]
   show atL g.to [] _=Mc a g g.len
   rw[Q8u (by omega)];rfl
 |g::h::l,a,s,_,hg,hs=>by
  have h1:=hg g (by simp)
  unfold A9
  by_cases c:s<g.len
  ·rw[if_pos c]
   refine⟨by simp,hs,by show s<=g.len;omega,?_⟩
   unfold atL
   rw[if_pos c,Jd];rfl
  ·rw[if_neg c]
   obtain⟨k1,k2,k3,k4⟩:=Xl (l:=h::l) (a:=g.to) (s:=s-g.len) (by simp) (fun k hk=>hg k (by simp at hk⊢;exact .inr hk)) (by omega)
   refine⟨by simp at k1⊢;omega,k2,?_,?_⟩
   ·simp only[Ql5];exact k3
   ·rw[show atL a (g::h::l) s=atL g.to (h::l) (s-g.len)from by rw[atL,if_neg c]]
    simp only[YO,Ql5]
    exact k4
theorem Qli {x n:Int} {A:Nat} (hn:0<n) (h: -(A*n)<=x/\x<=A*n):(Bb x n).natAbs<=A:=by
 have m1:=Qg hn h.2
 have m2:=Qg hn h.1
 rw[show-((A:Int)*n)= -(A:Int)*n by rw[Int.neg_mul]]at m2
 rw[Q7 hn]at m1 m2
 omega
theorem Qzb {D L d:Int} (hL:0<L) (hD:D.natAbs<=134217728) (hd:0<=d/\d<=L):(Bb (D*d) L).natAbs<=134217728:=by
 refine Qli hL ?_
 have h1:D*d<=134217728*d:=Int.mul_le_mul_of_nonneg_right (by omega) hd.1
 have h2: -134217728*d<=D*d:=Int.mul_le_mul_of_nonneg_right (by omega) hd.1
 have e:((134217728:Nat):Int)=134217728:=rfl
 rw[e]
 omega
structure SegOK (l : List Sgm) : Prop where
 seg:∀g∈l,1<=g.len/\g.len<=268435456/\bd B26 g.to
 count:l.length<=983055
theorem GoodPath.ok {p:Pth} (h:GoodPath p):SegOK p.segs:=⟨Qcd h.start h.segs,h.count⟩
theorem Qvp {a:Pt} {l:List Sgm} (ha:bd B26 a) (h:SegOK l) {i:Nat} (hi:i<l.length):bd B26 (Et a l i):=by
 cases i with
 |zero=>rw[Jd];exact ha
 |succ i=>rw[Q3 (by omega)];exact(h.seg _ (Hn (by omega))).2.2

theorem Qtu {l:List Sgm} (h:SegOK l):∀(k i:Nat) (v:Int),i+k=l.length->0<=v->v+k*268435456<=4000000000000000000->
  An S1 [I v, .view Ah (l.map Ay),I l.length,I i]=some (1,[I (v+AR (l.drop i))])
 |0,i,v,hi,_,_=>by
  refine A7 ?_ (by simp)
  rw[Qsn,AW (by omega),List.drop_of_length_le (by omega)]
  simp[AR]
 |k+1,i,v,hi,h0,h1=>by
  have hlt:i<l.length:=by omega
  have hcn:=h.count
  have hg:=h.seg _ (Hn hlt)
  have hst:S1 [I v, .view Ah (l.map Ay),I l.length,I i]=some (0,[I (v+(sgA l i).len), .view Ah (l.map Ay),I l.length,I (i+1:Nat)]):=by
   rw[Qsn]
   simp only[go_sem,List.length_map,Int.toNat_natCast,Kw hlt]
   rw[if_pos (by omega),if_pos (by omega),Ae (x:=v+_) (by omega),Ae (by omega)]
   rfl
  rw[Bt hst,Qtu h k (i+1) _ (by omega) (by omega) (by omega)]
  have e:l.drop i=sgA l i::l.drop (i+1):=by rw[L5 hlt];exact NK _ _ hlt
  rw[e]
  simp only[AR,Int.add_assoc]
theorem Qy9 {p:Pth} (h:SegOK p.segs):If (Bo p)=some [I (AR p.segs)]:=by
 have hl:=Qtu h p.segs.length 0 0 (by omega) (by omega) (by have:=h.count;omega)
 have hl':QR [I 0, .view Ah (p.segs.map Ay),I p.segs.length,I 0]=some (1,[I (0+AR (p.segs.drop 0))]):=hl
 rw[List.drop_zero,Int.zero_add]at hl'
 unfold If
 generalize QR=N at*
 rw[Zjp]
 simp only[go_sem,List.length_map,hl']
theorem Quq {g h:Sgm} {l:List Sgm} {s:Int} (c: ¬s<g.len):A9 (g::h::l) s=((A9 (h::l) (s-g.len)).1+1,(A9 (h::l) (s-g.len)).2):=by rw[A9,if_neg c]
theorem Qtx {p:Pth} (h:SegOK p.segs):∀(k i:Nat) (s:Int),i+k=p.segs.length->1<=k->0<=s/\s<=9223372036854775807->
  An Q4 (I s:: .view Ah (p.segs.map Ay)::I p.segs.length::I i::Bo p)=some (1,[I (i+(A9 (p.segs.drop i) s).1:Nat),I (A9 (p.segs.drop i) s).2])
 |k+1,i,s,hi,_,hs=>by
  have hlt:i<p.segs.length:=by omega
  have hcnt:=h.count
  have hg:=h.seg _ (Hn hlt)
  have e:p.segs.drop i=sgA p.segs i::p.segs.drop (i+1):=by rw[L5 hlt];exact NK _ _ hlt
  have hst:Q4 (I s:: .view Ah (p.segs.map Ay)::I p.segs.length::I i::Bo p)=if s<(sgA p.segs i).len then some (1,[I i,I s])else if k=0 then some (1,[I i,I (sgA p.segs i).len])else some (0,I (s-(sgA p.segs i).len):: .view Ah (p.segs.map Ay)::I p.segs.length::I (i+1:Nat)::Bo p):=by
   rw[Qoj]
   simp only[go_sem,List.length_map,Int.toNat_natCast,Kw hlt]
   rw[if_pos (by omega),if_pos (by omega),Ae (x:=(p.segs.length:Int)-1) (by omega),Ae (x:=(i:Int)+1) (by omega)]
   by_cases c:s<(sgA p.segs i).len
   ·rw[if_pos c,if_pos c]
   ·rw[if_neg c,if_neg c]
    by_cases c2:k=0
    ·rw[if_pos (by omega),if_pos c2]
    ·rw[if_neg (by omega),if_neg c2,Ae (by omega)];rfl
  by_cases c:s<(sgA p.segs i).len
  ·rw[if_pos c]at hst
   rw[A7 hst (by simp),e]
   cases p.segs.drop (i+1)with
   |nil=>rw[A9,if_pos c];rfl
   |cons b l=>rw[A9,if_pos c];rfl
  ·rw[if_neg c]at hst
   by_cases c2:k=0
   ·rw[if_pos c2]at hst
    rw[A7 hst (by simp),e,List.drop_of_length_le (by omega),A9,if_neg c];rfl
   ·rw[if_neg c2]at hst
    rw[Bt hst,Qtx h k (i+1) _ (by omega) (by omega) (by omega),e]
    have e2:p.segs.drop (i+1)=sgA p.segs (i+1)::p.segs.drop (i+1+1):=by rw[L5 (show i+1<p.segs.length by omega)];exact NK _ _ (by omega)
    rw[e2,Quq c,<-e2]
    simp only
    rw[show i+1+(A9 (p.segs.drop (i+1)) (s-(sgA p.segs i).len)).1=i+((A9 (p.segs.drop (i+1)) (s-(sgA p.segs i).len)).1+1) by omega]
theorem Qm3 {p:Pth} (h:SegOK p.segs) {s:Int} (hs:i64 s):Eg (Bo p++[I s])=if p.segs=[]then some [I (-1),I 0]else some [I (A9 p.segs (max s 0)).1,I (A9 p.segs (max s 0)).2]:=by
 unfold i64 at hs
 have hmx:mx s 0=max s 0:=mx_max' s 0
 by_cases c:p.segs=[]
 ·rw[if_pos c]
  have hend:Oa (I (max s 0):: .view Ah []::I 0::I 0::Bo p)=some (2,[]):=by
   refine A7 ?_ (by simp)
   rw[Qoj,AW (by omega)]
  unfold Eg
  generalize Oa=N at*
  have he:=Q2g N p.start.x p.start.y p.start.z (p.segs.map Ay) (p.marks.map As) s
  refine Eq.trans he ?_
  rw[hmx,c]
  have hend':N [I (max s 0), .view Ah [],I 0,I 0,I p.start.x,I p.start.y,I p.start.z, .view Ah [], .view AB (p.marks.map As)]=some (2,[]):=by
   have:=hend
   unfold Bo at this
   rw[c]at this
   exact this
  simp only[go_sem,List.map_nil,List.length_nil]
  simp only[Int.natCast_zero]
  rw[hend']
  simp
 ·rw[if_neg c]
  have hpos:0<p.segs.length:=by
   cases hh:p.segs with
   |nil=>exact absurd hh c
   |cons _ _=>simp
  have hL:=Qtx h p.segs.length 0 (max s 0) (by omega) (by omega) (by omega)
  have hL':Oa [I (max s 0), .view Ah (p.segs.map Ay),I p.segs.length,I 0,I p.start.x,I p.start.y,I p.start.z, .view Ah (p.segs.map Ay), .view AB (p.marks.map As)]=some (1,[I (0+(A9 (p.segs.drop 0) (max s 0)).1:Nat),I (A9 (p.segs.drop 0) (max s 0)).2]):=hL
  rw[List.drop_zero,Nat.zero_add]at hL'
  unfold Eg
  generalize Oa=N at*
  have he:=Q2g N p.start.x p.start.y p.start.z (p.segs.map Ay) (p.marks.map As) s
  refine Eq.trans he ?_
  rw[hmx]
  simp only[go_sem,List.length_map,hL']
where mx_max' (a b:Int):mx a b=max a b:=by unfold mx;rw[Int.max_def];split<;>split<;>omega
theorem Zim {MM MF:Fn} {p:Pth} (h:GoodPath p) {s:Int} (hF:MF (Bo p++[I s])=if p.segs=[]then some [I (-1),I 0]else some [I (A9 p.segs (max s 0)).1,I (A9 p.segs (max s 0)).2])
  (hM:∀{a b c:Int},a.natAbs<=134217728->b.natAbs<=268435456->(0<c/\c<=268435456)->MM [I a,I b,I c,I 2]=some [I (Bb (a*b) c),B true]):
  ZI MM MF (Bo p++[I s])=some (ptR (atP p s)):=by
 have he:=Q90 (AE:=MM) (C8:=MF) p.start.x p.start.y p.start.z (p.segs.map Ay) (p.marks.map As) s
 refine Eq.trans he ?_
 simp only[List.cons_append,List.nil_append,Bo]at hF
 unfold atP
 by_cases c:p.segs=[]
 ·rw[if_pos c]at hF
  simp only[hF,go_sem]
  rw[if_pos (by omega),c];rfl
 ·rw[if_neg c]at hF
  have hok:=h.ok
  obtain⟨f1,f2,f3,f4⟩:=Xl (l:=p.segs) (a:=p.start) (s:=max s 0) c (fun g hg=>(hok.seg g hg).1) (by omega)
  rw[f4]
  have hg:=hok.seg _ (Hn f1)
  have hv:=Qvp h.start hok f1
  have hr:=Kw f1
  have hcnt:=hok.count
  generalize(A9 p.segs (max s 0)).1=i at*
  generalize(A9 p.segs (max s 0)).2=d at*
  have hdn:d.natAbs<=268435456:=by omega
  have fin:∀{a:Pt},bd B26 a->(MM [I (IntKind.i64.wrap ((sgA p.segs i).to.x-a.x)),I d,I (sgA p.segs i).len,I 2]=some [I (Bb (((sgA p.segs i).to.x-a.x)*d) (sgA p.segs i).len),B true]/\IntKind.i64.wrap (a.x+Bb (((sgA p.segs i).to.x-a.x)*d) (sgA p.segs i).len)=a.x+Bb (((sgA p.segs i).to.x-a.x)*d) (sgA p.segs i).len)/\
    (MM [I (IntKind.i64.wrap ((sgA p.segs i).to.y-a.y)),I d,I (sgA p.segs i).len,I 2]=some [I (Bb (((sgA p.segs i).to.y-a.y)*d) (sgA p.segs i).len),B true]/\IntKind.i64.wrap (a.y+Bb (((sgA p.segs i).to.y-a.y)*d) (sgA p.segs i).len)=a.y+Bb (((sgA p.segs i).to.y-a.y)*d) (sgA p.segs i).len)/\
    (MM [I (IntKind.i64.wrap ((sgA p.segs i).to.z-a.z)),I d,I (sgA p.segs i).len,I 2]=some [I (Bb (((sgA p.segs i).to.z-a.z)*d) (sgA p.segs i).len),B true]/\IntKind.i64.wrap (a.z+Bb (((sgA p.segs i).to.z-a.z)*d) (sgA p.segs i).len)=a.z+Bb (((sgA p.segs i).to.z-a.z)*d) (sgA p.segs i).len):=by
   intro a ha
   have key:∀u v:Int,u.natAbs<=B26->v.natAbs<=B26->MM [I (IntKind.i64.wrap (u-v)),I d,I (sgA p.segs i).len,I 2]=some [I (Bb ((u-v)*d) (sgA p.segs i).len),B true]/\IntKind.i64.wrap (v+Bb ((u-v)*d) (sgA p.segs i).len)=v+Bb ((u-v)*d) (sgA p.segs i).len:=by
    intro u v hu hv
    have h1:=HW hu hv
    rw[Hw h1 (by decide)]
    refine⟨hM (Nat.le_trans h1 (by decide)) hdn (by omega),?_⟩
    exact Hw (RC hv (Qzb (by omega) (Nat.le_trans h1 (by decide)) ⟨f2,f3⟩)) (by decide)
   exact⟨key _ _ hg.2.2.1 ha.1,key _ _ hg.2.2.2.1 ha.2.1,key _ _ hg.2.2.2.2 ha.2.2⟩
  have hin:(0:Int)<=(i:Int)/\(i:Int)<(p.segs.length:Int):=by omega
  simp only[hF,go_sem,List.length_map,Int.toNat_natCast,hr,if_pos hin]
  rw[if_neg (by omega)]
  by_cases c0:i=0
  ·subst c0
   obtain⟨⟨m1,w1⟩,⟨m2,w2⟩,m3,w3⟩:=fin h.start
   rw[if_neg (by omega),Jd]
   simp only[m1,m2,m3,go_sem,w1,w2,w3]
   rfl
  ·obtain⟨j,rfl⟩:∃j,i=j+1:=⟨i-1,by omega⟩
   have hj:=Kw (l:=p.segs) (i:=j) (by omega)
   have hgj:=hok.seg _ (Hn (l:=p.segs) (i:=j) (by omega))
   obtain⟨⟨m1,w1⟩,⟨m2,w2⟩,m3,w3⟩:=fin hgj.2.2
   rw[if_pos (by omega),Q3 (by omega)]
   have e1:IntKind.i64.wrap (((j+1:Nat):Int)-1)=(j:Int):=by rw[Ae (by omega)];omega
   rw[e1]
   simp only[Int.toNat_natCast,hj,go_sem]
   rw[if_pos (by omega)]
   simp only[m1,m2,m3,go_sem,w1,w2,w3]
   rfl
theorem Qpk {a b c:Int} (ha:a.natAbs<=134217728) (hb:b.natAbs<=268435456) (hc:0<c/\c<=268435456):Be [I a,I b,I c,I 2]=some [I (Bb (a*b) c),B true]:=by
 have:=Nat.mul_le_mul ha hb
 exact Q2 (by unfold i64;omega) (by unfold i64;omega) (by omega) (by omega)
theorem Zz7 {p:Pth} (h:GoodPath p) {s:Int} (hs:i64 s):Ph (Bo p++[I s])=some (ptR (atP p s)):=
 Zim h (Qm3 h.ok hs) Qpk
end Go.Bm
/- positions of a path in the reference; the path of the law's maker -/
set_option maxRecDepth 100000
namespace Go.Bm
open Classical

theorem Qn2 {p:Pth} (h:GoodPath p):0<=AR p.segs/\AR p.segs<=263886834032640:=by
 have h1:=U4 h.ok.seg
 have h2:=h.count
 omega
end Go.Bm
/- the segment and the point at a position, by the reference -/
set_option maxRecDepth 100000
namespace Go.Bm
open Classical

end Go.Bm
