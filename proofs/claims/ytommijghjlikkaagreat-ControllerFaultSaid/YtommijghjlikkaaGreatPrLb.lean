/- laid together -/
import Derived.Test.YtommijghjlikkaaGreatPrMo
import Derived.Test.YtommijghjlikkaaGreatPrI
import Derived.Lib.ItoaNum
set_option linter.unusedVariables false
set_option linter.unusedSimpArgs false
set_option maxRecDepth 100000
namespace Go.Bm
open Classical
def HR (a:Axs) (d:Int):Int:=if d= -1 then-a.back else 0
def F6 (a:Axs) (move at_ was dirs u:Int):Int:=if move≠0\/was=dirs then HR a dirs else if dirs= -1 then-min (u-at_) a.back else min (u-at_) a.back-a.back
theorem RN {a:Axs} (hb:0<=a.back/\a.back<=1000) (v:Int):I7 (Bh a++[I v])=some [I (HR a v)]:=by
 have he:=Zje a.step a.speed a.accel a.jerk a.low a.high a.back a.origin a.spacing (a.pitch.map Ap) v;unfold I7;refine Eq.trans he ?_;unfold HR;by_cases c:v= -1
 ·rw[Br (by simp[c]),if_pos c,Ae (by omega)];congr 3;omega
 ·rw[Ba (by simp[c]),if_neg c]
theorem Zb3 {M:Fn} {a:Axs} {c:Pce} {u:Int} (hM:∀v:Int,M (Bh a++[I v])=some [I (HR a v)]) (hb:0<=a.back/\a.back<=1000) (hu:0<=u-c.at_/\u-c.at_<=2000000000000000):
  PV M (Bh a++AP c++[I 0,I u])=some [I (F6 a c.move c.at_ c.was.x c.dirs.x u)]:=by
 have he:=ZS M a.step a.speed a.accel a.jerk a.low a.high a.back a.origin a.spacing (a.pitch.map Ap) c.at_ c.units c.s c.move c.was.x c.was.y c.was.z c.dirs.x c.dirs.y c.dirs.z 0 u;refine Eq.trans he ?_;have hm0:=hM c.dirs.x;simp only[Bh,List.cons_append,List.nil_append]at hm0;have e1:IntKind.i64.wrap (0+1)=1:=rfl;have e2:IntKind.i64.wrap (1+1)=2:=rfl;have w1:IntKind.i64.wrap (u-c.at_)=u-c.at_:=Ae (by omega);have w2:IntKind.i64.wrap (0-min (u-c.at_) a.back)= -min (u-c.at_) a.back:=by rw[Ae (by omega)];omega
 have w3:IntKind.i64.wrap (min (u-c.at_) a.back-a.back)=min (u-c.at_) a.back-a.back:=Ae (by omega);unfold F6;simp only[go_sem,e1,e2,Jy,w1,w2,w3,Nat.reduceAdd,Int.cast_ofNat_Int,Int.natCast_zero,Int.natCast_one,Int.reduceEq,hm0];by_cases c1:c.move=0
 ·by_cases c2:c.was.x=c.dirs.x
  ·simp[c1,c2]
  ·by_cases c3:c.dirs.x= -1
   ·simp[c1,c3,show c.was.x≠-1 from fun e=>c2 (by rw[e,c3])]
   ·simp[c1,c2,c3]
 ·simp[c1]
theorem Ziy {M:Fn} {a:Axs} {c:Pce} {u:Int} (hM:∀v:Int,M (Bh a++[I v])=some [I (HR a v)]) (hb:0<=a.back/\a.back<=1000) (hu:0<=u-c.at_/\u-c.at_<=2000000000000000):
  PV M (Bh a++AP c++[I (IntKind.i64.wrap (0+1)),I u])=some [I (F6 a c.move c.at_ c.was.y c.dirs.y u)]:=by
 have he:=ZS M a.step a.speed a.accel a.jerk a.low a.high a.back a.origin a.spacing (a.pitch.map Ap) c.at_ c.units c.s c.move c.was.x c.was.y c.was.z c.dirs.x c.dirs.y c.dirs.z (IntKind.i64.wrap (0+1)) u;refine Eq.trans he ?_;have hm0:=hM c.dirs.y;simp only[Bh,List.cons_append,List.nil_append]at hm0;have e1:IntKind.i64.wrap (0+1)=1:=rfl;have e2:IntKind.i64.wrap (1+1)=2:=rfl;have w1:IntKind.i64.wrap (u-c.at_)=u-c.at_:=Ae (by omega);have w2:IntKind.i64.wrap (0-min (u-c.at_) a.back)= -min (u-c.at_) a.back:=by rw[Ae (by omega)];omega
 have w3:IntKind.i64.wrap (min (u-c.at_) a.back-a.back)=min (u-c.at_) a.back-a.back:=Ae (by omega);unfold F6;simp only[go_sem,e1,e2,Jy,w1,w2,w3,Nat.reduceAdd,Int.cast_ofNat_Int,Int.natCast_zero,Int.natCast_one,Int.reduceEq,hm0];by_cases c1:c.move=0
 ·by_cases c2:c.was.y=c.dirs.y
  ·simp[c1,c2]
  ·by_cases c3:c.dirs.y= -1
   ·simp[c1,c3,show c.was.y≠-1 from fun e=>c2 (by rw[e,c3])]
   ·simp[c1,c2,c3]
 ·simp[c1]
theorem Z1a {M:Fn} {a:Axs} {c:Pce} {u:Int} (hM:∀v:Int,M (Bh a++[I v])=some [I (HR a v)]) (hb:0<=a.back/\a.back<=1000) (hu:0<=u-c.at_/\u-c.at_<=2000000000000000):
  PV M (Bh a++AP c++[I (IntKind.i64.wrap (IntKind.i64.wrap (0+1)+1)),I u])=some [I (F6 a c.move c.at_ c.was.z c.dirs.z u)]:=by
 have he:=ZS M a.step a.speed a.accel a.jerk a.low a.high a.back a.origin a.spacing (a.pitch.map Ap) c.at_ c.units c.s c.move c.was.x c.was.y c.was.z c.dirs.x c.dirs.y c.dirs.z (IntKind.i64.wrap (IntKind.i64.wrap (0+1)+1)) u;refine Eq.trans he ?_;have hm0:=hM c.dirs.z;simp only[Bh,List.cons_append,List.nil_append]at hm0;have e1:IntKind.i64.wrap (0+1)=1:=rfl;have e2:IntKind.i64.wrap (1+1)=2:=rfl;have w1:IntKind.i64.wrap (u-c.at_)=u-c.at_:=Ae (by omega);have w2:IntKind.i64.wrap (0-min (u-c.at_) a.back)= -min (u-c.at_) a.back:=by rw[Ae (by omega)];omega
 have w3:IntKind.i64.wrap (min (u-c.at_) a.back-a.back)=min (u-c.at_) a.back-a.back:=Ae (by omega);unfold F6;simp only[go_sem,e1,e2,Jy,w1,w2,w3,Nat.reduceAdd,Int.cast_ofNat_Int,Int.natCast_zero,Int.natCast_one,Int.reduceEq,hm0];by_cases c1:c.move=0
 ·by_cases c2:c.was.z=c.dirs.z
  ·simp[c1,c2]
  ·by_cases c3:c.dirs.z= -1
   ·simp[c1,c3,show c.was.z≠-1 from fun e=>c2 (by rw[e,c3])]
   ·simp[c1,c2,c3]
 ·simp[c1]
theorem Zu5 {a:Axs} (hb:0<=a.back/\a.back<=1000) {move at_ was dirs u:Int} (hu:0<=u-at_): -1000<=F6 a move at_ was dirs u/\F6 a move at_ was dirs u<=1000:=by
 unfold F6 HR
 (repeat' split)<;>omega
theorem Q9w {a:Pt} {g:Sgm} {d:Int} (ha:bd B26 a) (hg:1<=g.len/\g.len<=268435456/\bd B26 g.to) (hd:0<=d/\d<=g.len):bd 201326592 (OB a g d):=by
 have key:∀u v:Int,u.natAbs<=B26->v.natAbs<=B26->(v+Bd ((u-v)*d) g.len).natAbs<=201326592:=by
  intro u v hu hv;have h1:=In hu hv;have h2:=Q7i (D:=u-v) (L:=g.len) (d:=d) (by omega) (Nat.le_trans h1 (by decide)) hd;have h3:v.natAbs<=67108864:=hv;omega
 exact⟨key _ _ hg.2.2.1 ha.1,key _ _ hg.2.2.2.1 ha.2.1,key _ _ hg.2.2.2.2 ha.2.2⟩
theorem Zoi {p:Pth} (h:GoodPath p) (s:Int):bd 201326592 (atP p s):=by
 unfold atP;by_cases c:p.segs=[]
 ·rw[c];exact AV h.start (by decide)
 ·have hok:=h.ok;obtain⟨f1,f2,f3,f4⟩:=Qm8 (l:=p.segs) (a:=p.start) (s:=max s 0) c (fun g hg=>(hok.seg g hg).1) (by omega);rw[f4];exact Q9w (Qz6 h.start hok f1) (hok.seg _ (HG f1)) ⟨f2,f3⟩
theorem Qif {a:Axs} (h:AxOK a) {p:Int} (hp:okB p):(HQ a p).natAbs<=2000000000:=by
 have hb:=Qub h p;have hs:=h.step;unfold okB at hp;unfold HQ;refine Qbk (by omega) ?_;have e:((2000000000:Nat):Int)=2000000000:=rfl;rw[e];omega
def shT (a:Axs) (t:Trk) (u:Int) (f:Pt->Int):Int:=if t.pieces=[]then HR a (f t.dirs)else F6 a (pcA t.pieces (iT t u)).move (pcA t.pieces (iT t u)).at_ (f (pcA t.pieces (iT t u)).was) (f (pcA t.pieces (iT t u)).dirs) (clT t u)
def Ss (p:Pth) (x:Ax3) (s:Int):Pt:=⟨HQ x.a (atP p s).x,HQ x.b (atP p s).y,HQ x.c (atP p s).z⟩
def Jl (p:Pth) (x:Ax3) (t:Trk) (u:Int):Pt:=
 ⟨(Ss p x (BJ t u)).x+shT x.a t u Pt.x,(Ss p x (BJ t u)).y+shT x.b t u Pt.y,(Ss p x (BJ t u)).z+shT x.c t u Pt.z⟩
theorem Q49 {t:Trk} (h:TQ t) (hch:∀i,i+1<t.pieces.length->(pcA t.pieces (i+1)).at_=eI t.pieces i) (h0:t.pieces≠[]->(pcA t.pieces 0).at_=0) (u:Int) (hne:t.pieces≠[]):(pcA t.pieces (iT t u)).at_<=clT t u/\(0<iT t u->(pcA t.pieces (iT t u)).at_<clT t u):=by
 have hi:=NT h u hne;have hc:=Pq h u;by_cases c:iT t u=0
 ·rw[c,h0 hne];exact⟨hc.1,fun g=>absurd g (by omega)⟩
 ·obtain⟨j,hj⟩:∃j,iT t u=j+1:=⟨iT t u-1,by omega⟩;rw[hj]at hi⊢;rw[hch j hi];have: ¬clT t u<=eI t.pieces j:=by
   intro g;have:=TO (show j<t.pieces.length by omega) g;unfold iT at hj;omega
  exact⟨by omega,fun _=>by omega⟩
theorem Zll {t:Trk} (h:TQ t) (u:Int):clT t (clT t u)=clT t u:=by have:=h.len;unfold clT B2;omega
theorem Zyw {t:Trk} (h:TQ t) (u:Int):BJ t (clT t u)=BJ t u:=by unfold BJ iT;rw[Zll h]
theorem Qq2 {t:Trk} (h:TQ t) (u:Int): -3000000000000000<=BJ t u/\BJ t u<=3000000000000000:=by
 unfold BJ;by_cases c:t.pieces=[]
 ·rw[if_pos c];have:=h.start;omega
 ·have hi:=NT h u c;have h1:=h.pos _ hi;have h2:=h.s _ hi;have h3:=h.move _ hi;have h4:=Pq h u;have h5:=h.len;rw[if_neg c];unfold eI at h1;rcases h3 with h3|h3|h3<;>rw[h3]<;>omega
theorem Zjz {p:Pth} (h:GoodPath p) (s:Int):okB (atP p s).x/\okB (atP p s).y/\okB (atP p s).z:=by
 obtain⟨h1,h2,h3⟩:=Zoi h s;unfold okB;omega
structure TH (t : Trk) : Prop where
 q:TQ t
 at0:t.pieces≠[]->(pcA t.pieces 0).at_=0
 at1:∀i,i+1<t.pieces.length->(pcA t.pieces (i+1)).at_=eI t.pieces i
theorem Xu {a:Axs} (hb:0<=a.back/\a.back<=1000) {t:Trk} (h:TH t) (u:Int) (f:Pt->Int): -1000<=shT a t u f/\shT a t u f<=1000:=by
 unfold shT;by_cases c:t.pieces=[]
 ·rw[if_pos c];unfold HR;split<;>omega
 ·rw[if_neg c];exact Zu5 hb (by have:=(Q49 h.q h.at1 h.at0 u c).1;omega)
theorem Z2s {MS MD MM MF MA ML MC:Fn} {p:Pth} {x:Ax3} {t:Trk} {u:Int} (hp:GoodPath p) (hx:Ax3M x) (ht:TH t) (hC:MC [I u,I t.length]=some [I (clT t u)]) (hL:ML (Bj t++[I (clT t u)])=some [I (BJ t u)]) (hA:MA (By p++[I (BJ t u)])=some (ptR (atP p (BJ t u))))
  (hF:MF (Bj t++[I (clT t u)])=some [I (if t.pieces=[]then-1 else(iT t u:Int))]) (hM:∀{a:Axs} {q:Int},AxOK a->okB q->MM (Bh a++[I q])=some [I (HQ a q)]) (hD:∀{a:Axs} (v:Int),(0<=a.back/\a.back<=1000)->MD (Bh a++[I v])=some [I (HR a v)])
  (h0:∀{a:Axs} {c:Pce} {u:Int},(0<=a.back/\a.back<=1000)->(0<=u-c.at_/\u-c.at_<=2000000000000000)->MS (Bh a++AP c++[I 0,I u])=some [I (F6 a c.move c.at_ c.was.x c.dirs.x u)])
  (h1:∀{a:Axs} {c:Pce} {u:Int},(0<=a.back/\a.back<=1000)->(0<=u-c.at_/\u-c.at_<=2000000000000000)->MS (Bh a++AP c++[I (IntKind.i64.wrap (0+1)),I u])=some [I (F6 a c.move c.at_ c.was.y c.dirs.y u)])
  (h2:∀{a:Axs} {c:Pce} {u:Int},(0<=a.back/\a.back<=1000)->(0<=u-c.at_/\u-c.at_<=2000000000000000)->MS (Bh a++AP c++[I (IntKind.i64.wrap (IntKind.i64.wrap (0+1)+1)),I u])=some [I (F6 a c.move c.at_ c.was.z c.dirs.z u)]):
  Vk MS MD MM MF MA ML MC (By p++AI x++Bj t++[I u])=some (ptR (Jl p x t u)):=by
 have he:=Zpo MS MD MM MF MA ML MC u p x t;refine Eq.trans he ?_;obtain⟨o1,o2,o3⟩:=Zjz hp (BJ t u);have m1:=hM hx.a o1;have m2:=hM hx.b o2;have m3:=hM hx.c o3;have b1:=Qif hx.a o1;have b2:=Qif hx.b o2;have b3:=Qif hx.c o3;have s1:=Xu hx.ok.a ht u Pt.x;have s2:=Xu hx.ok.b ht u Pt.y;have s3:=Xu hx.ok.c ht u Pt.z;unfold Jl Ss;generalize HQ x.a (atP p (BJ t u)).x=q1 at*;generalize HQ x.b (atP p (BJ t u)).y=q2 at*;generalize HQ x.c (atP p (BJ t u)).z=q3 at*;have w1:IntKind.i64.wrap (q1+shT x.a t u Pt.x)=q1+shT x.a t u Pt.x:=Ae (by omega);have w2:IntKind.i64.wrap (q2+shT x.b t u Pt.y)=q2+shT x.b t u Pt.y:=Ae (by omega);have w3:IntKind.i64.wrap (q3+shT x.c t u Pt.z)=q3+shT x.c t u Pt.z:=Ae (by omega);by_cases c:t.pieces=[]
 ·have d1:=hD t.dirs.x hx.ok.a;have d2:=hD t.dirs.y hx.ok.b;have d3:=hD t.dirs.z hx.ok.c;unfold shT at*;rw[if_pos c]at hF;simp only[if_pos c]at w1 w2 w3⊢;simp only[By,Bj,Bh,List.cons_append,List.nil_append]at hL hA hF d1 d2 d3 m1 m2 m3;simp only[hC,hL,hA,hF,go_sem,m1,m2,m3,d1,d2,d3,w1,w2,w3];rw[if_pos (by omega),if_pos (by omega),if_pos (by omega)]
 ·have hi:=NT ht.q u c;have hcnt:=ht.q.count;have hat:=(Q49 ht.q ht.at1 ht.at0 u c).1;have hcl:=Pq ht.q u;have hlen:=ht.q.len;have hpos:=ht.q.pos _ hi;have hin:(0:Int)<=(iT t u:Int)/\(iT t u:Int)<(t.pieces.length:Int):=by omega
  have hneg: ¬((iT t u:Int)<0):=by omega
  have d1:=h0 (c:=pcA t.pieces (iT t u)) (u:=clT t u) hx.ok.a (by omega);have d2:=h1 (c:=pcA t.pieces (iT t u)) (u:=clT t u) hx.ok.b (by omega);have d3:=h2 (c:=pcA t.pieces (iT t u)) (u:=clT t u) hx.ok.c (by omega);unfold shT at*;rw[if_neg c]at hF;simp only[if_neg c]at w1 w2 w3⊢;simp only[By,Bj,Bh,AP,List.cons_append,List.nil_append]at hL hA hF d1 d2 d3 m1 m2 m3;simp only[hC,hL,hA,hF,go_sem,m1,m2,m3,List.length_map,if_pos hin,Int.toNat_natCast,R5 hi,if_neg hneg,d1,d2,d3,w1,w2,w3]
theorem Zc8 {p:Pth} {x:Ax3} {t:Trk} (hp:GoodPath p) (hx:Ax3M x) (ht:TH t) (u:Int):Ez (By p++AI x++Bj t++[I u])=some (ptR (Jl p x t u)):=by
 have hs:=Qq2 ht.q u;have hpl:=PU ht.q (clT t u);rw[Zyw ht.q]at hpl;exact Z2s hp hx ht Qj0 hpl (Zn1 hp (by unfold i64;omega)) (Q4j ht.q u) (fun h1 h2=>Zix h1 h2) (fun v hb=>RN hb v) (fun hb hu=>Zb3 (RN hb) hb hu) (fun hb hu=>Ziy (RN hb) hb hu) (fun hb hu=>Z1a (RN hb) hb hu)
end Go.Bm
namespace Go.Bm
open Classical
theorem Qs9 {x:Ax3} {mv:Int} {Q:Int->Pt->Prop} {a s:Int} {d:Pt} {l:List Pce} (h:Fj x mv Q a s d l) (hne:l≠[]):(pcA l 0).at_=a:=by
 cases l with
 |nil=>exact absurd rfl hne
 |cons c l=>rw[Lu];exact h.1
theorem Q6s {x:Ax3} {mv:Int} {Q:Int->Pt->Prop}:∀{a s:Int} {d:Pt} {l:List Pce},Fj x mv Q a s d l->∀i,i+1<l.length->(pcA l (i+1)).at_=eI l i
 |a,s,d,[],h,i,hi=>by simp at hi
 |a,s,d,c::l,h,0,hi=>by
  obtain⟨h1,h2,h3,h4,h5⟩:=h;unfold eI;rw[HL,Lu,Qs9 h5 (fun e=>by rw[e]at hi;simp at hi),h1]
 |a,s,d,c::l,h,i+1,hi=>by
  obtain⟨h1,h2,h3,h4,h5⟩:=h;have:=Q6s h5 i (by simpa using hi);unfold eI at*;rw[HL,HL];exact this
theorem Z23 {p:Pth} {x:Ax3} (d:Pt) (a b:Int) (hx:Ax3OK x) (hp:GoodPath p):TH (EZ p x d a b):=by
 obtain⟨d',h1,h2,-⟩:=Q5p (d:=d) (a:=a) (b:=b) (Q:=fun _ _=>True) hx hp (fun _ _ _ _ _ _ _ _=>trivial);exact⟨Zvu d a b hx hp,Qs9 h1.ch,Q6s h1.ch⟩
end Go.Bm
namespace Go.Bm
open Classical
def wF (z:Int):List Pce->Int
 |[]=> -1
 |c::l=>if c.move≠0/\0<=(z-c.s)*c.move/\(z-c.s)*c.move<=c.units then c.at_+(z-c.s)*c.move else wF z l
def IG (t:Trk) (z:Int):Int:=if z=t.start then 0 else wF z t.pieces
theorem Qpt {t:Trk} (h:TQ t) {z:Int} (hz:i64 z):∀(k j:Nat),j+k=t.pieces.length->wF z (t.pieces.drop j)= -1/\An Qb [I z, .view As (t.pieces.map AP),I t.pieces.length,I j]=some (2,[])\/
  An Qb [I z, .view As (t.pieces.map AP),I t.pieces.length,I j]=some (1,[I (wF z (t.pieces.drop j))])
 |0,j,hj=>by
  left;rw[List.drop_of_length_le (by omega)];refine⟨rfl,A5 (o:=(2,_)) ?_ (by simp)⟩;rw[Qzx,AX (by omega)]
 |k+1,j,hj=>by
  have hlt:j<t.pieces.length:=by omega
  have hcnt:=h.count;have hin:(0:Int)<=(j:Int)/\(j:Int)<(t.pieces.length:Int):=by omega
  have hpos:=h.pos j hlt;have hl:=h.len;have hs:=h.s j hlt;have hmv:=h.move j hlt;have e:t.pieces.drop j=pcA t.pieces j::t.pieces.drop (j+1):=by
   have e1:pcA t.pieces j=t.pieces[j]:=by unfold pcA;simp[hlt]
   rw[e1];exact NB _ _ hlt
  have hst:Qb [I z, .view As (t.pieces.map AP),I t.pieces.length,I j]=if(pcA t.pieces j).move≠0/\0<=(z-(pcA t.pieces j).s)*(pcA t.pieces j).move/\(z-(pcA t.pieces j).s)*(pcA t.pieces j).move<=(pcA t.pieces j).units then
    some (1,[I ((pcA t.pieces j).at_+(z-(pcA t.pieces j).s)*(pcA t.pieces j).move)])else some (0,[I z, .view As (t.pieces.map AP),I t.pieces.length,I (j+1:Nat)]):=by
   rw[Qzx];simp only[go_sem,List.length_map,Int.toNat_natCast,R5 hlt,if_pos hin,Ae (x:=(j:Int)+1) (by omega)];rw[if_pos (by omega)];unfold eI at hpos;unfold i64 at hz;generalize pcA t.pieces j=c at*;have wrap2:∀y:Int,-9223372036854775808-2000000000000000<=y->y<=9223372036854775807+2000000000000000->(IntKind.i64.wrap y=y/\ -9223372036854775808<=y/\y<=9223372036854775807)\/(IntKind.i64.wrap y=y+18446744073709551616/\y< -9223372036854775808)\/(IntKind.i64.wrap y=y-18446744073709551616/\y>9223372036854775807):=by
    intro y y1 y2;have hw:=Z2m y;unfold i64 at hw;by_cases c1: -9223372036854775808<=y/\y<=9223372036854775807
    ·exact .inl ⟨Ae c1,c1⟩
    ·have:=Qeq y;omega
   by_cases c0:c.move=0
   ·have hP: ¬(c.move≠0/\0<=(z-c.s)*c.move/\(z-c.s)*c.move<=c.units):=fun g=>g.1 c0;rw[if_neg (by omega),if_neg hP];rfl
   ·rw[if_pos c0];have hm:c.move=1\/c.move= -1:=by omega
    have a1:=wrap2 (z-c.s) (by omega) (by omega);have hw2:IntKind.i64.wrap (IntKind.i64.wrap (z-c.s)*c.move)=(z-c.s)*c.move\/((IntKind.i64.wrap (IntKind.i64.wrap (z-c.s)*c.move)<0\/IntKind.i64.wrap (IntKind.i64.wrap (z-c.s)*c.move)>1000000000000000)/\((z-c.s)*c.move<0\/(z-c.s)*c.move>1000000000000000)):=by
     generalize IntKind.i64.wrap (z-c.s)=y at*;have a2:=wrap2 (y*c.move) (by rcases hm with hm|hm<;>rw[hm]<;>omega) (by rcases hm with hm|hm<;>rw[hm]<;>omega);rcases hm with hm|hm<;>rw[hm]at a2⊢<;>omega
    generalize IntKind.i64.wrap (IntKind.i64.wrap (z-c.s)*c.move)=n at*;by_cases c1:0<=(z-c.s)*c.move/\(z-c.s)*c.move<=c.units
    ·have en:n=(z-c.s)*c.move:=by omega
     have hP:c.move≠0/\0<=(z-c.s)*c.move/\(z-c.s)*c.move<=c.units:=⟨c0,c1⟩;rw[if_pos hP,en,if_pos c1.1,if_pos c1.2,Ae (by omega)]
    ·have hP: ¬(c.move≠0/\0<=(z-c.s)*c.move/\(z-c.s)*c.move<=c.units):=fun g=>c1 g.2;rw[if_neg hP];by_cases c2:0<=n
     ·rw[if_pos c2,if_neg (by omega)];rfl
     ·rw[if_neg c2];rfl
  rw[e];by_cases c:(pcA t.pieces j).move≠0/\0<=(z-(pcA t.pieces j).s)*(pcA t.pieces j).move/\(z-(pcA t.pieces j).s)*(pcA t.pieces j).move<=(pcA t.pieces j).units
  ·rw[if_pos c]at hst;right;rw[A5 hst (by simp)];unfold wF;rw[if_pos c]
  ·rw[if_neg c]at hst;rw[Bv hst];unfold wF;rw[if_neg c];exact Qpt h hz k (j+1) (by omega)
theorem Zn7 {t:Trk} (h:TQ t) {z:Int} (hz:i64 z):Mw (Bj t++[I z])=some [I (IG t z)]:=by
 have he:=Zek KI (t.pieces.map AP) t.length t.start t.dirs.x t.dirs.y t.dirs.z z;unfold Mw;refine Eq.trans he ?_;unfold IG;rw[List.length_map];by_cases c:z=t.start
 ·rw[if_pos c,Br (by simp[c])]
 ·rw[if_neg c,Ba (by simp[c])];rcases Qpt h hz t.pieces.length 0 (by omega)with⟨h1,h2⟩|h2
  ·rw[List.drop_zero]at h1;have h2':KI [I z, .view As (t.pieces.map AP),I t.pieces.length,I 0]=some (2,[]):=h2;generalize KI=N at*;rw[h1];simp only[h2',go_sem];rfl
  ·rw[List.drop_zero]at h2;have h2':KI [I z, .view As (t.pieces.map AP),I t.pieces.length,I 0]=some (1,[I (wF z t.pieces)]):=h2;generalize KI=N at*;simp only[h2',go_sem]
end Go.Bm
namespace Go.Bm
theorem Zv9 (l:Rw) (h:l.length<=100000):Out (fun o=>(wA o 0).length<=l.length) (Pb [.view Aa l]):=by
 show Out _ (Qbf (An Qka) [.view Aa l]);rw[Zcv];refine .bind (p:=fun o=>o.1=1/\(wA o.2 0).length<=l.length) ?_ fun o g=>by rw[g.1];exact .some g.2
 refine Cr (fun s:Rw×Nat=>[.view Aa s.1, .view Aa l,I (s.2:Int)]) (fun s=>1<=s.2/\s.2<=l.length+1/\s.1.length+1<=s.2) (fun s=>l.length+1-s.2) _ ?_ ([],1) (by simp);rintro⟨v,i⟩ ⟨g1,g2,g3⟩;dsimp only at*;rw[Zfg];rw[Ae (x:=(i:Int)-1) (by omega),Ae (x:=(i:Int)+1) (by omega)];refine .cond (fun c=> ?_) (fun c=> ?_)
 ·have c:=Bg c;refine .cond (fun _=> ?_) fun c=>by simp at c;omega
  refine .cond (fun _=> ?_) fun c=>by simp at c;omega
  refine .cond (fun _=> ?_) fun c=>by rw[CY (by simp;omega)]at c;cases c
  exact .some (.inl ⟨rfl,(_,i+1),rfl,by simp;omega,by simp;omega⟩)
 ·have c:=Bf c;exact .some (.inr ⟨by simp,rfl,by show v.length<=l.length;omega⟩)
theorem Zf9 (l:Rw) (n:Int) (h:l.length<=100000):(PJ [.view Aa l,I n]).isSome=true:=by
 show(Z6 (An T7) [.view Aa l,I n]).isSome=true;rw[Z3l];refine Out.is (p:=fun _=>True) ?_;refine .bind (p:=fun o=>o.1=1\/o.1=2) ?_ fun o g=>by rcases g with g|g<;>rw[g]<;>exact .some trivial
 refine Cr (fun s:Nat=>[I n, .view Aa l,I (l.length:Int),I (s:Int)]) (fun s=>s<=l.length) (fun s=>l.length-s) _ ?_ 0 (by simp);intro i g;rw[Zgi];rw[Ae (x:=(i:Int)+1) (by omega)];refine .cond (fun c=> ?_) (fun c=> ?_)
 ·have c:=Bg c;refine .cond (fun _=> ?_) fun c=>by simp at c;omega
  refine .cond (fun _=> .some (.inr ⟨by simp, .inl rfl⟩)) fun _=> .cond (fun _=> .some (.inr ⟨by simp, .inl rfl⟩)) fun _=> ?_;exact .some (.inl ⟨rfl,i+1,rfl,by omega,by omega⟩)
 ·exact .some (.inr ⟨by simp, .inr rfl⟩)
theorem Zsx {MB MD:Fn} (hD:∀l:Rw,l.length<=100000->Out (fun o=>(wA o 0).length<=l.length) (MD [.view Aa l])) (hB:∀(l:Rw) n,l.length<=100000->(MB [.view Aa l,I n]).isSome=true)
  (x0 x1 x2 x3 x4 x5 x6 x7 x8:Int) (x9 l:Rw) (h:l.length<=100000):(Qhu MB MD [I x0,I x1,I x2,I x3,I x4,I x5,I x6,I x7,I x8, .view Aa x9, .view Aa l]).isSome=true:=by
 rw[Zjf];obtain⟨a,ha,ga⟩:=hD l h;rw[ha];simp only[Option.bind_some];generalize wA a 0=la at*;obtain⟨b,hb,gb⟩:=hD la (by omega);rw[hb];simp only[Option.bind_some];generalize wA b 0=lb at*;obtain⟨c,hc,gc⟩:=hD lb (by omega);rw[hc];simp only[Option.bind_some];generalize wA c 0=lc at*;refine Fo (hB _ _ (by omega)) fun _ _=>BV (fun _=>rfl) fun _=>Fo (hB _ _ (by omega)) fun _ _=>BV (fun _=>rfl) fun _=>Fo (hB _ _ (by omega)) fun _ _=>BV (fun _=>rfl) fun _=>rfl
theorem Zyo (x0 x1 x2 x3 x4 x5 x6 x7 x8:Int) (x9 l:Rw) (h:l.length<=100000):(Lw [I x0,I x1,I x2,I x3,I x4,I x5,I x6,I x7,I x8, .view Aa x9, .view Aa l]).isSome=true:=Zsx Zv9 Zf9 x0 x1 x2 x3 x4 x5 x6 x7 x8 x9 l h
theorem Zhd {M:Fn} {x:Ax3} {k:Int} (hk:0<=k/\k<=2) {l out:Rw} (h0:out.length=l.length) (h1:l.length<=100000):
  Out (fun o=>o.1=1/\∃v:Rw,o.2= .view Aa v:: .view kPt l::I k::I k::AI x/\v.length=l.length) (An (Ks M) (.view Aa out:: .view kPt l::I k::I k::I (l.length:Int)::I 0::AI x)):=by
 refine Cr (fun s:Rw×Nat=> .view Aa s.1:: .view kPt l::I k::I k::I (l.length:Int)::I (s.2:Int)::AI x) (fun s=>s.1.length=l.length/\s.2<=l.length) (fun s=>l.length-s.2) _ ?_ (out,0) ⟨h0,by simp⟩;rintro⟨v,i⟩ ⟨g1,g2⟩;dsimp only at*;rw[Z16];rw[Ae (x:=(i:Int)+1) (by omega)];refine .cond (fun c=> ?_) (fun c=> ?_)
 ·have c:=Bg c;refine .cond (fun _=> ?_) fun c=>by simp at c;omega
  refine .cond (fun _=> ?_) fun c0=> .cond (fun _=> ?_) fun c1=> .cond (fun _=> ?_) fun c2=> ?_
  ·refine .cond (fun _=> ?_) fun c=>by simp at c;omega
   exact .some (.inl ⟨rfl,(_,i+1),rfl,by simp;omega,by simp;omega⟩)
  ·refine .cond (fun _=> ?_) fun c=>by simp at c;omega
   exact .some (.inl ⟨rfl,(_,i+1),rfl,by simp;omega,by simp;omega⟩)
  ·refine .cond (fun _=> ?_) fun c=>by simp at c;omega
   exact .some (.inl ⟨rfl,(_,i+1),rfl,by simp;omega,by simp;omega⟩)
  ·have c0:=Bf c0;have c1:=Bf c1;have c2:=Bf c2
   simp at c0 c1 c2;omega
 ·exact .some (.inr ⟨by simp,rfl,v,rfl,g1⟩)
theorem Zmf {M:Fn} (hM:∀(x0 x1 x2 x3 x4 x5 x6 x7 x8:Int) (x9 l:Rw),l.length<=100000->(M [I x0,I x1,I x2,I x3,I x4,I x5,I x6,I x7,I x8, .view Aa x9, .view Aa l]).isSome=true) (x:Ax3) {l:Rw} (h1:l.length<=100000):
  (QL M (An (Ks M)) (An (QN M (An (Ks M)))) (AI x++[.view kPt l])).isSome=true:=by
 show(QL M (An (Ks M)) (An (QN M (An (Ks M)))) [I x.a.step,I x.a.speed,I x.a.accel,I x.a.jerk,I x.a.low,I x.a.high,I x.a.back,I x.a.origin,I x.a.spacing, .view Aa (x.a.pitch.map Ap),I x.b.step,I x.b.speed,I x.b.accel,I x.b.jerk,I x.b.low,I x.b.high,I x.b.back,I x.b.origin,I x.b.spacing, .view Aa (x.b.pitch.map Ap),I x.c.step,I x.c.speed,I x.c.accel,I x.c.jerk,I x.c.low,I x.c.high,I x.c.back,I x.c.origin,I x.c.spacing, .view Aa (x.c.pitch.map Ap), .view kPt l]).isSome=true;rw[Ze9];refine Out.is (p:=fun _=>True) ?_;refine .bind (p:=fun o=>o.1=1\/o.1=2) ?_ fun o g=>by rcases g with g|g<;>rw[g]<;>exact .some trivial
 refine Cr (fun s:Nat=> .view kPt l::I (s:Int)::AI x) (fun s=>s<=3) (fun s=>3-s) _ ?_ 0 (by omega);intro k hk;rw[Q8z];refine .cond (fun c=> ?_) (fun c=> ?_)
 ·have c:=Bg c;refine .cond (fun _=> ?_) fun c=>by simp at c
  refine .cond (fun _=> ?_) fun c=>by simp at c;omega
  refine .bind (Zhd (M:=M) (x:=x) (k:=(k:Int)) (by omega) (by simp) h1) fun o g=> ?_;obtain⟨g1,v,g2,g3⟩:=g;obtain⟨o1,o2⟩:=o;subst g1;subst g2;refine .cond (fun _=> ?_) fun c=>by simp at c
  have e:IntKind.i64.wrap ((k:Int)+1)=((k+1:Nat):Int):=by rw[Ae (by omega)];rfl
  have hw:∀(x0 x1 x2 x3 x4 x5 x6 x7 x8:Int) (x9:Rw),(M [I x0,I x1,I x2,I x3,I x4,I x5,I x6,I x7,I x8, .view Aa x9, .view Aa v]).isSome=true:=fun x0 x1 x2 x3 x4 x5 x6 x7 x8 x9=>hM x0 x1 x2 x3 x4 x5 x6 x7 x8 x9 v (by omega);refine .cond (fun _=> ?_) fun c0=> .cond (fun _=> ?_) fun c1=> .cond (fun _=> ?_) fun c2=> ?_
  ·refine .ibind (hw _ _ _ _ _ _ _ _ _ _) fun _ _=> .cond (fun _=> .some (.inr ⟨by simp, .inl rfl⟩)) fun _=> .some (.inl ⟨rfl,k+1,?_,by omega,by omega⟩);simp only[gA,wA,bA,jA,nth,Af,BL,e]
  ·refine .ibind (hw _ _ _ _ _ _ _ _ _ _) fun _ _=> .cond (fun _=> .some (.inr ⟨by simp, .inl rfl⟩)) fun _=> .some (.inl ⟨rfl,k+1,?_,by omega,by omega⟩);simp only[gA,wA,bA,jA,nth,Af,BL,e]
  ·refine .ibind (hw _ _ _ _ _ _ _ _ _ _) fun _ _=> .cond (fun _=> .some (.inr ⟨by simp, .inl rfl⟩)) fun _=> .some (.inl ⟨rfl,k+1,?_,by omega,by omega⟩);simp only[gA,wA,bA,jA,nth,Af,BL,e]
  ·have c0:=Bf c0;have c1:=Bf c1;have c2:=Bf c2
   simp[gA,wA,bA,jA,nth,Af]at c0 c1 c2;omega
 ·exact .some (.inr ⟨by simp, .inr rfl⟩)
theorem Zpm (x:Ax3) {l:Rw} (h1:l.length<=100000):(NJ (AI x++[.view kPt l])).isSome=true:=Zmf Zyo x h1
theorem Qll (u:Int):(I4 [I u]).isSome=true:=by
 show(Qgc [I u]).isSome=true;rw[Zby];exact BV (fun _=>rfl) fun _=>rfl
end Go.Bm
namespace Go.Bm
structure Fix (p : Pth) (x : Ax3) (t : Trk) : Prop where
 p:GoodPath p
 x:Ax3M x
 t:TH t
theorem Xc {p:Pth} {x:Ax3} {t:Trk} (h:Fix p x t) (u:Int):Ez (pxt p x t [I u])=some (ptR (Jl p x t u)):=Zc8 h.p h.x h.t u
theorem Zht {MA MM MU:Fn} {p:Pth} {x:Ax3} {t:Trk} (hA:∀{l:Rw},l.length<=100000->(MA (AI x++[.view kPt l])).isSome=true) (hM:∀u,(MM (pxt p x t [I u])).isSome=true) (hU:∀u,(MU [I u]).isSome=true) {way:Rw} (hw:way.length<=100000):
  (Uy MA MM MU (An (Qn4 MA MM MU)) (pxt p x t [.view Aa way])).isSome=true:=by
 rw[Zjx];refine Out.is (p:=fun _=>True) ?_;refine .bind (p:=fun o=>o.1=1\/o.1=2) ?_ fun o g=>by rcases g with g|g<;>rw[g]<;>exact .some trivial
 refine Cr (fun s:Rw×Nat=> .view kPt s.1:: .view Aa way::I (way.length:Int)::I (s.2:Int)::pxt p x t []) (fun s=>s.1.length<=4/\s.2<=way.length) (fun s=>way.length-s.2) _ ?_ ([],0) (by simp);rintro⟨v,i⟩ ⟨g1,g2⟩;dsimp only at g1 g2;rw[Zmt];try dsimp only[g_s_planner_smooth_3_1]
 rw[Ae (x:=(i:Int)+1) (by omega)];refine .cond (fun c=> ?_) (fun c=> ?_)
 ·have c:=Bg c;refine .cond (fun _=> ?_) fun c=>by simp at c;omega
  refine .ibind (hU _) fun a _=> .ibind (hM _) fun b _=> ?_;refine .cond (fun _=> ?_) fun c=>by rw[CY (by simp;omega)]at c;cases c
  generalize [jA b 0,jA b 1,jA b 2]=q;refine .cond (fun _=> ?_) fun c4=> ?_
  ·refine .cond (fun _=> ?_) fun c=>by simp at c;omega
   refine .cond (fun _=> ?_) fun c=>by rw[CY (by simp)]at c;cases c
   refine .ibind (hA (l:=List.drop (Int.toNat 1) (v++[q])) (by simp;omega)) fun _ _=> .cond (fun _=> .some (.inr ⟨by simp, .inl rfl⟩)) fun _=> ?_;exact .some (.inl ⟨rfl,(_,i+1),rfl,by simp;omega,by simp;omega⟩)
  ·have c4:=Bf c4;simp at c4;refine .ibind (hA (l:=v++[q]) (by simp;omega)) fun _ _=> .cond (fun _=> .some (.inr ⟨by simp, .inl rfl⟩)) fun _=> ?_;exact .some (.inl ⟨rfl,(_,i+1),rfl,by simp;omega,by simp;omega⟩)
 ·exact .some (.inr ⟨by simp, .inr rfl⟩)
theorem Zhl {p:Pth} {x:Ax3} {t:Trk} (h:Fix p x t) {way:Rw} (hw:way.length<=100000):(OJ (pxt p x t [.view Aa way])).isSome=true:=
 Zht (Zpm x) (fun u=>by rw[Xc h u];rfl) Qll hw
theorem Zns (x0 x1:Int) (b0 b1 b2:Bool) (x5 x6 x7 x8 x9 x10 x11 x12 x13 x14:Int):(M_ [I x0,I x1,B b0,B b1,B b2,I x5,I x6,I x7,I x8,I x9,I x10,I x11,I x12,I x13,I x14]).isSome=true:=by
 show(QT [I x0,I x1,B b0,B b1,B b2,I x5,I x6,I x7,I x8,I x9,I x10,I x11,I x12,I x13,I x14]).isSome=true;rw[Q2x]
 repeat' first|exact rfl|refine BV (fun _=> ?_) (fun _=> ?_)
theorem RG {p:Pth} {x:Ax3} {t:Trk} (h:Fix p x t) (u:Int):i64 (BJ t u):=by
 have:=Qq2 h.t.q u;unfold i64;omega
end Go.Bm
namespace Go.Bm
theorem Qgb:∀(l:List Sgm) (s:Int),l≠[]->(Bb l s).1<l.length
 |[],_,h=>absurd rfl h
 |[g],s,_=>by unfold Bb;split<;>simp
 |g::h::l,s,_=>by
  by_cases c:s<g.len
  ·rw[Bb,if_pos c];simp
  ·rw[Qyg c];have:=Qgb (h::l) (s-g.len) (by simp);simp at this⊢;omega
theorem Q7k {p:Pth} {x:Ax3} {t:Trk} (h:Fix p x t) {s:Int} (hs:i64 s):∃i v:Int,EI (By p++[I s])=some [I i,I v]/\(i= -1\/0<=i/\i<p.segs.length)/\(p.segs≠[]->0<=i):=by
 rw[Qiz (h.p.ok) hs];by_cases c:p.segs=[]
 ·rw[if_pos c];exact⟨-1,0,rfl, .inl rfl,fun h=>absurd c h⟩
 ·rw[if_neg c];have:=Qgb p.segs (max s 0) c;exact⟨_,_,rfl, .inr ⟨by omega,by omega⟩,fun _=>by omega⟩
theorem Zlz {MO MF MP MU:Fn} {p:Pth} {t:Trk} (hO:∀(x0 x1:Int) (b0 b1 b2:Bool) (x5 x6 x7 x8 x9 x10 x11 x12 x13 x14:Int),(MO [I x0,I x1,B b0,B b1,B b2,I x5,I x6,I x7,I x8,I x9,I x10,I x11,I x12,I x13,I x14]).isSome=true)
  (hF:∀s,i64 s->∃i v:Int,MF (By p++[I s])=some [I i,I v]/\(i= -1\/0<=i/\i<p.segs.length)/\(p.segs≠[]->0<=i)) (hP:∀u,∃s,MP (Bj t++[I u])=some [I s]/\i64 s) (hU:∀u,(MU [I u]).isSome=true) (hne:p.segs≠[])
  (a b c o0 o1:Int) (b0 b1 b2:Bool) (u:Int):
  (RS MO MF MP MU (Df p t [I a,I b,I c,I o0,I o1,B b0,B b1,B b2,I u])).isSome=true:=by
 rw[Qxf];refine Fo (hU _) fun q _=> ?_;obtain⟨s,h1,h2⟩:=hP (gA q 0);rw[h1];simp only[Option.bind_some];obtain⟨i,v,g1,g2,g3⟩:=hF s h2;simp only[gA,wA,bA,jA,nth,Af];rw[g1];simp only[Option.bind_some,gA,wA,bA,jA,nth,Af];have g3:=g3 hne;refine BV (fun _=>Fo (hO _ _ _ _ _ _ _ _ _ _ _ _ _ _ _) fun _ _=>rfl) fun c=> ?_;simp at c;have:=c (decide_eq_true g3);omega
theorem Zqb {p:Pth} {x:Ax3} {t:Trk} (h:Fix p x t) (hne:p.segs≠[]) (a b c o0 o1:Int) (b0 b1 b2:Bool) (u:Int):
  (Kt (Df p t [I a,I b,I c,I o0,I o1,B b0,B b1,B b2,I u])).isSome=true:=
 Zlz Zns (fun _ hs=>Q7k h hs) (fun u=>⟨_,PU h.t.q u,RG h u⟩) Qll hne a b c o0 o1 b0 b1 b2 u
theorem Zor {MT MF:Fn} {p:Pth} {t:Trk} {a b c o0 o1:Int} {b0 b1 b2:Bool} (hT:p.segs≠[]->∀u,(MT (Df p t [I a,I b,I c,I o0,I o1,B b0,B b1,B b2,I u])).isSome=true)
  (hF:∀a b c x3 x4 x5 x6 x7 x8,Out (fun o=>(wA o 0).length<=4096) (MF [I a,I b,I c,I x3,I x4,I x5,I x6,I x7,I x8])) (m0 m1 m2 m3 m4 m5:Int):
  (TN MT MF (An (QF MT MF)) (Df p t [I a,I b,I c,I o0,I o1,B b0,B b1,B b2,I m0,I m1,I m2,I m3,I m4,I m5])).isSome=true:=by
 rw[Qvf];obtain⟨o,h1,h2⟩:=hF a b c m0 m1 m2 m3 m4 m5;rw[h1];simp only[Option.bind_some];generalize wA o 0=sp at*;refine BV (fun _=>rfl) fun _=>BV (fun _=>rfl) fun c0=> ?_;have hne:p.segs≠[]:=by
  intro e;rw[e]at c0;simp at c0
 have hT:=hT hne;refine Fo (hT _) fun _ _=>BV (fun _=>rfl) fun _=> ?_;refine Out.is (p:=fun _=>True) ?_;refine .bind (p:=fun o=>o.1=1\/o.1=2) ?_ fun o g=>by rcases g with g|g<;>rw[g]<;>exact .some trivial
 refine Cr (fun s:Int×Nat=>I s.1:: .view Aa sp::I (sp.length:Int)::I (s.2:Int)::Df p t [I a,I b,I c,I o0,I o1,B b0,B b1,B b2]) (fun s=>s.2<=sp.length) (fun s=>sp.length-s.2) _ ?_ (m0,0) (by simp);rintro⟨v,i⟩ g;dsimp only at g;rw[Qrt];rw[Ae (x:=(i:Int)+1) (by omega)];refine .cond (fun c=> ?_) (fun c=> ?_)
 ·have c:=Bg c;refine .cond (fun _=> ?_) fun c=>by simp at c;omega
  refine .ibind (hT _) fun _ _=> .cond (fun _=> .some (.inr ⟨by simp, .inl rfl⟩)) fun _=> ?_;exact .some (.inl ⟨rfl,(_,i+1),rfl,by dsimp only;omega,by dsimp only;omega⟩)
 ·exact .some (.inr ⟨by simp, .inr rfl⟩)
theorem Zg5 {p:Pth} {x:Ax3} {t:Trk} (h:Fix p x t) (a b c o0 o1:Int) (b0 b1 b2:Bool) (m0 m1 m2 m3 m4 m5:Int):
  (JR (Df p t [I a,I b,I c,I o0,I o1,B b0,B b1,B b2,I m0,I m1,I m2,I m3,I m4,I m5])).isSome=true:=
 Zor (fun hne u=>Zqb h hne a b c o0 o1 b0 b1 b2 u) SJ m0 m1 m2 m3 m4 m5
end Go.Bm
namespace Go.Bm
theorem Zhf {a b v u q r:Nat} (hU:v<a*4294967296+b) (hu:u<4294967296) (hq:v=q*a+r) (h:4294967296<=q\/r*4294967296+u<q*b):(v*4294967296+u)/(a*4294967296+b)<q:=by
 have hy:0<a*4294967296+b:=by omega
 rw[Nat.div_lt_iff_lt_mul hy];rcases h with h|h
 ·have h1:4294967296*(a*4294967296+b)<=q*(a*4294967296+b):=Nat.mul_le_mul_right _ h;omega
 ·have e:q*(a*4294967296+b)=q*a*4294967296+q*b:=by rw[Nat.mul_add,Nat.mul_assoc]
  rw[e];clear e;generalize q*a=p at*;generalize q*b=t at*;subst hq;rw[Nat.add_mul p r 4294967296,Nat.add_assoc];exact Nat.add_lt_add_left h _
theorem Qzt {a b v u q r:Nat} (hU:v<a*4294967296+b) (hq:v=q*a+r) (h:q*b<=r*4294967296+u):q<=(v*4294967296+u)/(a*4294967296+b):=by
 have hy:0<a*4294967296+b:=by omega
 rw[Nat.le_div_iff_mul_le hy];have e:q*(a*4294967296+b)=q*a*4294967296+q*b:=by rw[Nat.mul_add,Nat.mul_assoc]
 rw[e];generalize q*a=p at*;generalize q*b=t at*;omega
theorem Q2s {a b v u:Nat} (hU:v<a*4294967296+b) (hu:u<4294967296):(v*4294967296+u)/(a*4294967296+b)<4294967296:=by
 rw[Nat.div_lt_iff_lt_mul (by omega)];omega
theorem Q6l {q b:Nat} (hq:q<4294967296) (hb:b<4294967296):q*b<=18446744065119617025:=by
 have:=Nat.mul_le_mul (show q<=4294967295 by omega) (show b<=4294967295 by omega);omega
theorem Qfn {α:Type} {F G:Nat->Nat->Option α} {a b v u Q:Nat} (hQ:(v*4294967296+u)/(a*4294967296+b)=Q) (hb:b<4294967296) (ha:2147483648<=a) (ha2:a<4294967296) (hU:v<a*4294967296+b) (hu:u<4294967296) {X:α}
  (hF:∀q r:Nat,q<=4294967297->r<4294967296->F q r=if 4294967296<=q\/r*4294967296+u<q*b then(if 4294967296<=r+a then G (q-1) 0 else F (q-1) (r+a))else G q 0)
  (hG:G Q 0=some X):∀(k q r:Nat),q<=Q+k->Q<=q->v=q*a+r->r<4294967296->q<=4294967297->F q r=some X
 |k,q,r,hk,h1,h2,h3,h4=>by
  rw[hF q r h4 h3];by_cases c:4294967296<=q\/r*4294967296+u<q*b
  ·rw[if_pos c];have h5:=Zhf hU hu h2 c;rw[hQ]at h5;have e:v=(q-1)*a+(r+a):=by
    have:(q-1)*a+a=q*a:=by rw[<-Nat.succ_mul];congr 1;omega
    omega
   by_cases c2:4294967296<=r+a
   ·rw[if_pos c2];have h6:(q-1)*b<=(r+a)*4294967296+u:=by
     have:=Nat.mul_le_mul (show q-1<=4294967296 by omega) (show b<=4294967296 by omega);omega
    have h7:=Qzt hU e h6;rw[hQ]at h7;rw[show q-1=Q by omega];exact hG
   ·rw[if_neg c2]
    match k with
    |0=>omega
    |k+1=>exact Qfn hQ hb ha ha2 hU hu hF hG k (q-1) (r+a) (by omega) (by omega) e (by omega) (by omega)
  ·rw[if_neg c];have h7:=Qzt (u:=u) hU h2 (by omega);rw[hQ]at h7;rw[show q=Q by omega];exact hG
theorem Qtv {a b v u:Nat} (hb:b<4294967296) (ha:2147483648<=a) (hU:v<a*4294967296+b) (hu:u<4294967296):(v*4294967296+u)/(a*4294967296+b)<=v/a/\v/a<=4294967297/\v=v/a*a+v%a/\v%a<a:=by
 have e:v=v/a*a+v%a:=by have:=Nat.div_add_mod v a;rw[Nat.mul_comm]at this;omega
 have hm:v%a<a:=Nat.mod_lt _ (by omega);refine⟨?_,?_,e,hm⟩
 ·rw[<-Nat.lt_succ_iff,Nat.div_lt_iff_lt_mul (by omega)];have e2:(v/a).succ*(a*4294967296+b)=(v/a*a+a)*4294967296+(v/a).succ*b:=by rw[Nat.mul_add,<-Nat.mul_assoc,Nat.succ_mul]
  rw[e2];omega
 ·rw[<-Nat.lt_succ_iff,Nat.div_lt_iff_lt_mul (by omega)];omega
theorem wr {x:Nat} (h:x<=18446744073709551615):IntKind.u64.wrap (x:Int)=x:=Hm (by omega)
theorem Z3a {M:Fn} {y s v0:Int} {a b v u:Nat} (hb:b<4294967296) (ha:2147483648<=a) (ha2:a<4294967296) (hU:v<a*4294967296+b) (hu:u<4294967296):
  An (Lv M) [U y,U s,U a,U b,U v,U u,U v0,U ((v/a:Nat):Int),U ((v%a:Nat):Int)]=some (1,[U y,U s,U a,U b,U v,U u,U v0,U (((v*4294967296+u)/(a*4294967296+b):Nat):Int)]):=by
 obtain⟨f1,f2,f3,f4⟩:=Qtv hb ha hU hu;refine Qfn (F:=fun q r=>An (Lv M) [U y,U s,U a,U b,U v,U u,U v0,U q,U r]) (G:=fun q _=>some (1,[U y,U s,U a,U b,U v,U u,U v0,U q])) rfl hb ha ha2 hU hu ?_ rfl (v/a) _ _ (Nat.le_add_left _ _) f1 f3 (by omega) f2;intro q r hq hr;have w1:IntKind.u64.wrap ((r:Int)+(a:Int))=((r+a:Nat):Int):=by rw[<-Int.natCast_add,wr (by omega)]
 have w3:IntKind.u64.wrap (IntKind.u64.wrap (4294967296*(r:Int))+(u:Int))=((r*4294967296+u:Nat):Int):=by rw[show(4294967296:Int)*r=((r*4294967296:Nat):Int) by omega,wr (by omega),<-Int.natCast_add,wr (by omega)]
 have w4:4294967296<=q->IntKind.u64.wrap ((q:Int)-1)=((q-1:Nat):Int):=fun h=>by rw[show(q:Int)-1=((q-1:Nat):Int) by omega,wr (by omega)]
 have hst:=Zna (DI:=M) y s a b v u v0 q r;rw[w1,w3]at hst;by_cases c1:4294967296<=q
 ·rw[DA (show(q:Int)>=4294967296 by omega),w4 c1]at hst;show _=if _ then _ else _;rw[if_pos (.inl c1)];by_cases c2:4294967296<=r+a
  ·rw[DA (show((r+a:Nat):Int)>=4294967296 by omega)]at hst;rw[if_pos c2];exact A5 hst (by simp)
  ·rw[AX (show¬((r+a:Nat):Int)>=4294967296 by omega)]at hst;rw[if_neg c2];exact Bv hst
 ·have hqb:=Q6l (q:=q) (b:=b) (by omega) hb;rw[AX (show¬(q:Int)>=4294967296 by omega),<-Int.natCast_mul,wr (Nat.le_trans hqb (by decide))]at hst;show _=if _ then _ else _;by_cases c3:r*4294967296+u<q*b
  ·rw[DA (show((q*b:Nat):Int)>((r*4294967296+u:Nat):Int) by omega)]at hst;rw[if_pos (.inr c3)];have hq0:0<q:=by
    rcases Nat.eq_zero_or_pos q with h|h
    ·rw[h]at c3;omega
    ·exact h
   rw[show(q:Int)-1=((q-1:Nat):Int) by omega,wr (by omega)]at hst;by_cases c2:4294967296<=r+a
   ·rw[DA (show((r+a:Nat):Int)>=4294967296 by omega)]at hst;rw[if_pos c2];exact A5 hst (by simp)
   ·rw[AX (show¬((r+a:Nat):Int)>=4294967296 by omega)]at hst;rw[if_neg c2];exact Bv hst
  ·rw[AX (show¬((q*b:Nat):Int)>((r*4294967296+u:Nat):Int) by omega)]at hst;rw[if_neg (fun h=>h.elim c1 c3)];exact A5 hst (by simp)
theorem Zo2 {M:Fn} {N:Lp} {y s q1 w:Int} {a b v u:Nat} (hb:b<4294967296) (ha:2147483648<=a) (ha2:a<4294967296) (hU:v<a*4294967296+b) (hu:u<4294967296):
  An (O1 M N) [U y,U s,U a,U b,U u,U q1,U ((v%a:Nat):Int),U w,U ((v/a:Nat):Int)]=some (1,[U y,U s,U u,U q1,U w,U (((v*4294967296+u)/(a*4294967296+b):Nat):Int)]):=by
 obtain⟨f1,f2,f3,f4⟩:=Qtv hb ha hU hu;refine Qfn (F:=fun q r=>An (O1 M N) [U y,U s,U a,U b,U u,U q1,U r,U w,U q]) (G:=fun q _=>some (1,[U y,U s,U u,U q1,U w,U q])) rfl hb ha ha2 hU hu ?_ rfl (v/a) _ _ (Nat.le_add_left _ _) f1 f3 (by omega) f2;intro q r hq hr;have w1:IntKind.u64.wrap ((r:Int)+(a:Int))=((r+a:Nat):Int):=by rw[<-Int.natCast_add,wr (by omega)]
 have w3:IntKind.u64.wrap (IntKind.u64.wrap (4294967296*(r:Int))+(u:Int))=((r*4294967296+u:Nat):Int):=by rw[show(4294967296:Int)*r=((r*4294967296:Nat):Int) by omega,wr (by omega),<-Int.natCast_add,wr (by omega)]
 have w4:4294967296<=q->IntKind.u64.wrap ((q:Int)-1)=((q-1:Nat):Int):=fun h=>by rw[show(q:Int)-1=((q-1:Nat):Int) by omega,wr (by omega)]
 have hst:=Zef (DI:=M) (N17:=N) y s a b u q1 r w q;rw[w1,w3]at hst;by_cases c1:4294967296<=q
 ·rw[DA (show(q:Int)>=4294967296 by omega),w4 c1]at hst;show _=if _ then _ else _;rw[if_pos (.inl c1)];by_cases c2:4294967296<=r+a
  ·rw[DA (show((r+a:Nat):Int)>=4294967296 by omega)]at hst;rw[if_pos c2];exact A5 hst (by simp)
  ·rw[AX (show¬((r+a:Nat):Int)>=4294967296 by omega)]at hst;rw[if_neg c2];exact Bv hst
 ·have hqb:=Q6l (q:=q) (b:=b) (by omega) hb;rw[AX (show¬(q:Int)>=4294967296 by omega),<-Int.natCast_mul,wr (Nat.le_trans hqb (by decide))]at hst;show _=if _ then _ else _;by_cases c3:r*4294967296+u<q*b
  ·rw[DA (show((q*b:Nat):Int)>((r*4294967296+u:Nat):Int) by omega)]at hst;rw[if_pos (.inr c3)];have hq0:0<q:=by
    rcases Nat.eq_zero_or_pos q with h|h
    ·rw[h]at c3;omega
    ·exact h
   rw[show(q:Int)-1=((q-1:Nat):Int) by omega,wr (by omega)]at hst;by_cases c2:4294967296<=r+a
   ·rw[DA (show((r+a:Nat):Int)>=4294967296 by omega)]at hst;rw[if_pos c2];exact A5 hst (by simp)
   ·rw[AX (show¬((r+a:Nat):Int)>=4294967296 by omega)]at hst;rw[if_neg c2];exact Bv hst
  ·rw[AX (show¬((q*b:Nat):Int)>((r*4294967296+u:Nat):Int) by omega)]at hst;rw[if_neg (fun h=>h.elim c1 c3)];exact A5 hst (by simp)
theorem Q6i {s:Nat} (hs:s<=63):(2:Int)^min (Int.toNat (s:Int)) IntKind.u64.bits=((2^s:Nat):Int):=by
 have e:min (Int.toNat (s:Int)) IntKind.u64.bits=s:=by
  show min (Int.toNat (s:Int)) 64=s;omega
 rw[e];simp
theorem Zts {s:Nat} (hs:s<=63):(2:Int)^min (Int.toNat ((64-s:Nat):Int)) IntKind.u64.bits=((2^(64-s):Nat):Int):=by
 have e:min (Int.toNat ((64-s:Nat):Int)) IntKind.u64.bits=64-s:=by
  show min (Int.toNat ((64-s:Nat):Int)) 64=64-s;omega
 rw[e];simp
theorem Qx9 (x y:Nat):((x:Int)).fdiv (y:Int)=((x/y:Nat):Int):=by
 rw[Int.fdiv_eq_ediv_of_nonneg _ (by omega)];rfl
theorem Qbq (x y:Nat):((x:Int)).tdiv (y:Int)=((x/y:Nat):Int):=by
 rw[Int.tdiv_eq_ediv_of_nonneg (by omega)];rfl
theorem orP {A B s:Nat} (hB:B<2^s) (h:A*2^s+B<w64):IntKind.u64.wrap (((BitVec.ofInt IntKind.u64.bits ((A*2^s:Nat):Int)|||BitVec.ofInt IntKind.u64.bits (B:Int)).toNat:Nat):Int)=((A*2^s+B:Nat):Int):=by
 rw[BI]at h;have e:(BitVec.ofInt IntKind.u64.bits ((A*2^s:Nat):Int)|||BitVec.ofInt IntKind.u64.bits (B:Int)).toNat=A*2^s+B:=by
  rw[BitVec.toNat_or];have e1:∀v:Nat,v<18446744073709551616->(BitVec.ofInt IntKind.u64.bits (v:Int)).toNat=v:=by
   intro v hv;simp only[IntKind.bits,BitVec.toNat_ofInt];omega
  have:=(Nat.two_pow_add_eq_or_of_lt hB A).symm;rw[Nat.mul_comm]at this;generalize A*2^s=X at*;rw[e1 _ (by omega),e1 _ (by omega)];exact this
 rw[e,wr (by omega)]
theorem Qqf {v u q1 y:Nat} (hy:y<w64) (hq:q1=(v*4294967296+u)/y) (hy0:0<y):IntKind.u64.wrap (IntKind.u64.wrap (IntKind.u64.wrap ((v:Int)*4294967296)+(u:Int))-IntKind.u64.wrap ((q1:Int)*(y:Int)))=(((v*4294967296+u)%y:Nat):Int):=by
 have h1:=Nat.div_add_mod (v*4294967296+u) y;have h2:=Nat.mod_lt (v*4294967296+u) hy0;rw[<-hq,Nat.mul_comm]at h1;rw[BI]at hy;rw[NO,NO,NO,NO,<-Int.natCast_mul];generalize q1*y=p at*;generalize(v*4294967296+u)%y=r at*;omega
theorem Qz2 {v a:Nat} (ha:0<a) (hv:v<w64):IntKind.u64.wrap ((v:Int)-IntKind.u64.wrap (IntKind.u64.wrap ((v/a:Nat):Int)*(a:Int)))=((v%a:Nat):Int):=by
 have h1:=Nat.div_add_mod v a;have h2:=Nat.mod_lt v ha;have h3:=Nat.div_le_self v a;rw[BI]at hv;rw[wr (x:=v/a) (by omega),<-Int.natCast_mul];rw[Nat.mul_comm]at h1;generalize v/a*a=p at*;generalize v%a=r at*;rw[wr (x:=p) (by omega),show(v:Int)-(p:Int)=(r:Int) by omega,wr (by omega)]
theorem Zf2 {v u1 u0 Y:Nat} (hY:0<Y):(v*w64+(u1*4294967296+u0))/Y=(v*4294967296+u1)/Y*4294967296+((v*4294967296+u1)%Y*4294967296+u0)/Y/\
  (v*w64+(u1*4294967296+u0))%Y=((v*4294967296+u1)%Y*4294967296+u0)%Y:=by
 have e:v*w64+(u1*4294967296+u0)=((v*4294967296+u1)%Y*4294967296+u0)+(v*4294967296+u1)/Y*4294967296*Y:=by
  have h:=Nat.div_add_mod (v*4294967296+u1) Y;rw[Nat.mul_comm]at h;rw[BI];generalize(v*4294967296+u1)%Y=r at*;have e2:(v*4294967296+u1)/Y*4294967296*Y=(v*4294967296+u1)/Y*Y*4294967296:=by rw[Nat.mul_assoc,Nat.mul_comm 4294967296,<-Nat.mul_assoc]
  rw[e2];generalize(v*4294967296+u1)/Y*Y=p at*;omega
 rw[e,Nat.add_mul_div_right _ _ hY,Nat.add_mul_mod_self_right];exact⟨Nat.add_comm _ _,rfl⟩
theorem Za9 {M:Fn} {hi lo y s:Nat} (h0:0<hi) (h1:hi<y) (hyw:y<w64) (hlo:lo<w64) (hs:s<=63) (h2:9223372036854775808<=y*2^s) (h3:y*2^s<w64) (hM:M [U y]=some [I s]):
  Qjf M (An (Lv M)) (An (O1 M (An (Lv M)))) [U hi,U lo,U y]=some [U (((hi*w64+lo)/y:Nat):Int),U (((hi*w64+lo)%y:Nat):Int)]:=by
 have hP:0<2^s:=Nat.two_pow_pos _;have hPT:2^s*2^(64-s)=w64:=by rw[BI,<-Nat.pow_add,show s+(64-s)=64 by omega]
 have hT:0<2^(64-s):=Nat.two_pow_pos _;have es:IntKind.u64.wrap (s:Int)=s:=wr (by omega);have et:IntKind.u64.wrap (64-(s:Int))=((64-s:Nat):Int):=by rw[show(64:Int)-s=((64-s:Nat):Int) by omega,wr (by omega)]
 have hB:lo/2^(64-s)<2^s:=by rw[Nat.div_lt_iff_lt_mul hT,hPT];exact hlo
 have hv:hi*2^s+lo/2^(64-s)<y*2^s:=by
  have:hi*2^s+2^s<=y*2^s:=by rw[<-Nat.succ_mul];exact Nat.mul_le_mul_right _ h1
  omega
 have hN:(hi*w64+lo)*2^s=(hi*2^s+lo/2^(64-s))*w64+lo*2^s%w64:=by
  have e1:lo*2^s/w64=lo/2^(64-s):=by
   rw[<-hPT,Nat.mul_comm lo,Nat.mul_div_mul_left _ _ hP]
  have e2:=Nat.div_add_mod (lo*2^s) w64;rw[e1]at e2;rw[Nat.add_mul,Nat.add_mul,Nat.add_assoc,Nat.mul_comm (lo/2^(64-s)),e2];congr 1;rw[Nat.mul_assoc,Nat.mul_comm w64,Nat.mul_assoc]
 have hU:lo*2^s%w64<w64:=Nat.mod_lt _ OW;have ey:IntKind.u64.wrap ((y:Int)*((2^s:Nat):Int))=((y*2^s:Nat):Int):=by rw[<-Int.natCast_mul,wr (Nat.le_of_lt_succ (by rw[BI]at h3;exact h3))]
 have eh:IntKind.u64.wrap ((hi:Int)*((2^s:Nat):Int))=((hi*2^s:Nat):Int):=by
  rw[<-Int.natCast_mul,wr (Nat.le_of_lt_succ (by have:=Nat.mul_lt_mul_of_pos_right h1 hP;rw[BI]at h3;exact Nat.lt_trans this h3))]
 have el:IntKind.u64.wrap ((lo:Int)*((2^s:Nat):Int))=((lo*2^s%w64:Nat):Int):=by
  rw[<-Int.natCast_mul,NO,BI];rfl
 have eo:=orP (A:=hi) (B:=lo/2^(64-s)) (s:=s) hB (by omega);have hq:(hi*w64+lo)/y=(hi*w64+lo)*2^s/(y*2^s):=(Nat.mul_div_mul_right _ _ hP).symm;have hr:(hi*w64+lo)%y=(hi*w64+lo)*2^s%(y*2^s)/2^s:=by rw[Nat.mul_mod_mul_right,Nat.mul_div_cancel _ hP]
 rw[hq,hr,hN];rw[Qqi];simp only[hM,Option.bind_some,Hu,KD,Lk,PQ,PR,SW,Xb,Qmb,HB,gA,jA,wA,bA,es,et,Q6i hs,Zts hs,ey,eh,el,Qx9,eo];rw[Ba (by simp;omega),AX (show¬(y:Int)<=hi by omega),Ba (by simp;omega),AX (show¬(s:Int)<0 by omega),AX (show¬(s:Int)<0 by omega),AX (show¬((64-s:Nat):Int)<0 by omega),AX (show¬(s:Int)<0 by omega)];rw[Qvr,Qr0 _ h3,Qvr,Qr0 _ hU];have hY:y*2^s=y*2^s/4294967296*4294967296+y*2^s%4294967296:=by omega
 have hW:lo*2^s%w64=lo*2^s%w64/4294967296*4294967296+lo*2^s%w64%4294967296:=by omega
 have hb:y*2^s%4294967296<4294967296:=Nat.mod_lt _ (by omega);have hu0:lo*2^s%w64%4294967296<4294967296:=Nat.mod_lt _ (by omega);have hu1:lo*2^s%w64/4294967296<4294967296:=by rw[BI]at hU⊢;omega
 have ha:2147483648<=y*2^s/4294967296:=by omega
 have ha2:y*2^s/4294967296<4294967296:=by rw[BI]at h3;omega
 clear hN hq hr eh el eo ey hB;generalize hi*2^s+lo/2^(64-s)=v at*;generalize lo*2^s%w64=w at*;generalize y*2^s=Y at*;generalize w/4294967296=u1 at*;generalize w%4294967296=u0 at*;generalize Y/4294967296=a at*;generalize Y%4294967296=b at*;subst hW;rw[AX (show¬(a:Int)=0 by omega),Qbq,Qz2 (by omega) (Nat.lt_trans hv h3),wr (x:=v/a) (by have:=Nat.div_le_self v a;rw[BI]at h3;omega)];have hl:=Z3a (M:=M) (y:=(Y:Int)) (s:=s) (v0:=u0) hb ha ha2 (by rw[<-hY];exact hv) hu1;rw[hl];rw[<-hY];have hY0:0<Y:=by omega
 have hr1:=Qqf (v:=v) (u:=u1) (y:=Y) h3 rfl hY0;have hq1:(v*4294967296+u1)/Y<4294967296:=by rw[hY];exact Q2s (by rw[<-hY];exact hv) hu1
 have hm1:=Nat.mod_lt (v*4294967296+u1) hY0;obtain⟨k1,k2⟩:=Zf2 (v:=v) (u1:=u1) (u0:=u0) hY0;rw[k1,k2];clear hl k1 k2;obtain⟨q1,g1⟩:∃q1,(v*4294967296+u1)/Y=q1:=⟨_,rfl⟩;obtain⟨r1,g2⟩:∃r1,(v*4294967296+u1)%Y=r1:=⟨_,rfl⟩;rw[g1]at hr1 hq1⊢;rw[g2]at hr1 hm1⊢;simp only[Option.bind_some,Hu,KD,Lk,PQ,PR,SW,Xb,Qmb,HB,hr1];rw[show Nat.beq 1 1=true from rfl,cond_true,AX (show¬(a:Int)=0 by omega),Qbq,Qz2 (by omega) (Nat.lt_trans hm1 h3),wr (x:=r1/a) (by have:=Nat.div_le_self r1 a;rw[BI]at h3;omega)];have hl2:=Zo2 (M:=M) (N:=An (Lv M)) (y:=(Y:Int)) (s:=s) (q1:=q1) (w:=r1) hb ha ha2 (by rw[<-hY];exact hm1) hu0;rw[hl2];rw[<-hY];have hr0:=Qqf (v:=r1) (u:=u0) (y:=Y) h3 rfl hY0;have hq0:(r1*4294967296+u0)/Y<4294967296:=by rw[hY];exact Q2s (by rw[<-hY];exact hm1) hu0
 obtain⟨q0,g3⟩:∃q0,(r1*4294967296+u0)/Y=q0:=⟨_,rfl⟩;obtain⟨r0,g4⟩:∃r0,(r1*4294967296+u0)%Y=r0:=⟨_,rfl⟩;rw[g3]at hr0 hq0⊢;rw[g4]at hr0⊢;simp only[Option.bind_some,Hu,KD,Lk,PQ,PR,SW,HB,hr0];rw[show Nat.beq 1 1=true from rfl,cond_true,AX (show¬(s:Int)<0 by omega),Q6i hs,Qx9];have w1:IntKind.u64.wrap (IntKind.u64.wrap ((q1:Int)*4294967296)+(q0:Int))=((q1*4294967296+q0:Nat):Int):=by
  rw[show(q1:Int)*4294967296=((q1*4294967296:Nat):Int) by omega,wr (by omega),<-Int.natCast_add,wr (by omega)]
 rw[w1]
theorem Z1y {y:Nat} (h0:0<y) (h:y<w64):∃s:Nat,Ij [U y]=some [I s]/\s<=63/\9223372036854775808<=y*2^s/\y*2^s<w64:=by
 have hw:=BI;obtain⟨b1,b2,b3⟩:=Lib.bitLenAux_bounds 64 y (by rw[<-show w64=2^64 by rw[hw]];exact h) (by omega);have hL:Lib.bitLen y=Lib.bitLenAux 64 y:=rfl;generalize hb:Lib.bitLenAux 64 y=L at*;have hL64:L<=64:=by
  by_cases c:L<=64
  ·exact c
  ·have:=Nat.pow_le_pow_right (show 0<2 by omega) (show 64<=L-1 by omega);rw[show(2:Nat)^64=18446744073709551616 from rfl]at this;omega
 refine⟨64-L,?_,by omega,?_,?_⟩
 ·unfold Ij;have e64:Fx=18446744073709551616:=rfl;have hu:inU (y:Int)=true:=by
   simp only[inU,e64,Bool.and_eq_true,decide_eq_true_eq];omega
  simp only[Hu,HB,gA,jA,wA,bA,hu,cond_true,Int.toNat_natCast,hL];rw[show(64:Int)-(L:Int)=((64-L:Nat):Int) by omega]
 ·have e:2^(L-1)*2^(64-L)=9223372036854775808:=by rw[<-Nat.pow_add,show L-1+(64-L)=63 by omega]
  rw[<-e];exact Nat.mul_le_mul_right _ b2
 ·have e:2^L*2^(64-L)=w64:=by rw[<-Nat.pow_add,show L+(64-L)=64 by omega,hw]
  rw[<-e];exact Nat.mul_lt_mul_of_pos_right b3 (Nat.two_pow_pos _)
theorem Q5f {hi lo y:Nat} (h1:hi<y) (hy:y<w64) (hlo:lo<w64):Gv [U hi,U lo,U y]=some [U (((hi*w64+lo)/y:Nat):Int),U (((hi*w64+lo)%y:Nat):Int)]:=by
 rcases Nat.eq_zero_or_pos hi with h|h
 ·subst h;rw[Nat.zero_mul,Nat.zero_add];exact Qpv hlo h1
 ·obtain⟨s,e,e1,e2,e3⟩:=Z1y (show 0<y by omega) hy;exact Za9 h h1 hy hlo e1 e2 e3 e
end Go.Bm
namespace Go.Bm
theorem Zw4 {M1 M2 M3 M4 M5 M6 M7:Fn} (h1:∀x b,(M1 [U x,B b]).isSome=true) (h2:∀x y b c,(M2 [I x,I y,B b,B c]).isSome=true) (h3:∀x y,(M3 [I x,I y]).isSome=true)
  (h4:∀{hi lo y:Nat},hi<y->y<w64->lo<w64->(M4 [U hi,U lo,U y]).isSome=true) (h5:∀{x y:Nat},x<w64->y<w64->M5 [U x,U y]=some [U ((x*y/w64:Nat):Int),U ((x*y%w64:Nat):Int)])
  (h6:∀{x:Int},i64 x->M6 [I x]=some [U (x.natAbs:Int)]) (h7:∀x,(M7 [I x]).isSome=true) {a b c:Int} (ha:i64 a) (hb:i64 b) (hc:i64 c) (m:Int):
  (Tu M1 M2 M3 M4 M5 M6 M7 [I a,I b,I c,I m]).isSome=true:=by
 have hw:∀{x:Int},i64 x->x.natAbs<w64:=by
  intro x hx;unfold i64 at hx;rw[BI];omega
 rw[Q1z,h6 ha,h6 hb,h6 hc];refine BV (fun _=>rfl) fun _=>Fo (h7 _) fun _ _=>BV (fun _=>rfl) fun _=> ?_;simp only[Option.bind_some,gA,wA,bA,jA,nth,Af];rw[h5 (hw ha) (hw hb)];simp only[Option.bind_some,gA,wA,bA,jA,nth,Af];refine BV (fun _=>rfl) fun c0=> ?_;have c0:=Bf c0;have hlo:a.natAbs*b.natAbs%w64<w64:=Nat.mod_lt _ (by rw[BI];decide);refine Fo (h4 (by omega) (hw hc) hlo) fun _ _=>Fo (h3 _ _) fun _ _=> ?_
 repeat' first|exact rfl|exact h1 _ _|exact h2 _ _ _ _|exact h3 _ _|refine BV (fun _=> ?_) (fun _=> ?_)|refine Fo ?_ fun _ _=> ?_
theorem Zgf (x:Int) (b:Bool):(EV [U x,B b]).isSome=true:=by
 show(Qo3 [U x,B b]).isSome=true;rw[Yf]
 repeat' first|exact rfl|refine BV (fun _=> ?_) (fun _=> ?_)
theorem Zgx (x y:Int) (b c:Bool):(He [I x,I y,B b,B c]).isSome=true:=by
 show(Qlz [I x,I y,B b,B c]).isSome=true;rw[Qwo]
 repeat' first|exact rfl|refine BV (fun _=> ?_) (fun _=> ?_)
theorem Zm4 (x y:Int):(Fz [I x,I y]).isSome=true:=by
 show(Qj7 [I x,I y]).isSome=true;rw[Q5k]
 repeat' first|exact rfl|refine BV (fun _=> ?_) (fun _=> ?_)
theorem Zjp (x:Int):(Fv [I x]).isSome=true:=by
 show(Qo6 [I x]).isSome=true;rw[Qrk]
 repeat' first|exact rfl|refine BV (fun _=> ?_) (fun _=> ?_)
theorem Qe5 {a b c:Int} (ha:i64 a) (hb:i64 b) (hc:i64 c) (m:Int):(Bq [I a,I b,I c,I m]).isSome=true:=
 Zw4 Zgf Zgx Zm4 (fun h1 h2 h3=>by rw[Q5f h1 h2 h3];rfl) (fun h1 h2=>Qty h1 h2) (fun h=>HY h) Zjp ha hb hc m
theorem R4 (x:Int):i64 (IntKind.i64.wrap x):=Znp x
theorem Qv1 {M:Fn} {l:List AC} (h:(M l).isSome=true) {f:List AC->List AC}:((M l).bind fun o=>some (f o)).isSome=true:=Fo h fun _ _=>rfl
theorem Zph {a b:Int} (ha:i64 a) (hb:i64 b):(PE [I a,I b]).isSome=true:=by
 show(Qce Bq [I a,I b]).isSome=true;have h:=Qe5 ha hb (show i64 4096 by unfold i64;omega) 0;generalize Bq=M at*;rw[Zt3];exact Qv1 h
theorem Qw5 {a:Int} (ha:i64 a):(E4 [I a]).isSome=true:=by
 show(RL Bq [I a]).isSome=true;have h:=Qe5 ha (show i64 1048576 by unfold i64;omega) (show i64 60000 by unfold i64;omega) 2;generalize Bq=M at*;rw[Qu8];exact Qv1 h
theorem Zxa (a b:Int):∃v,Px [I a,I b]=some [I v]/\i64 v:=by
 refine⟨mx (IntKind.i64.wrap (a-b)) (IntKind.i64.wrap (b-a)),?_,?_⟩
 ·show Qdi [I a,I b]=_;rw[Zzg]
 ·have h1:=R4 (a-b);have h2:=R4 (b-a)
  unfold mx;split<;>assumption
theorem Qu5 (a:Int):(Gm [I a]).isSome=true:=by
 show(Qf0 [I a]).isSome=true;rw[Zx0]
 repeat' first|exact rfl|refine BV (fun _=> ?_) (fun _=> ?_)
theorem Zfc {a b:Int} (hb:b≠0):(Km [I a,I b]).isSome=true:=by
 show(Qgz [I a,I b]).isSome=true;rw[Zp3];refine BV (fun c=>absurd (Bg c) hb) fun _=>BV (fun c=>absurd (Bg c) hb) fun _=>BV (fun _=>rfl) fun _=>rfl
theorem Zud (x0 x1 x2 x3 x4:Int) {x5:Int} (h5:i64 x5):(LT [I x0,I x1,I x2,I x3,I x4,I x5]).isSome=true:=by
 show(Qiy E4 Gm [I x0,I x1,I x2,I x3,I x4,I x5]).isSome=true;have h:=Qw5 h5;have h2:=Qu5 x4;generalize E4=M at*;generalize Gm=N at*;rw[Zkk]
 repeat' first|exact rfl|exact h|exact h2|refine BV (fun _=> ?_) (fun _=> ?_)|refine Fo ?_ fun _ _=> ?_
theorem Z1j (x0 x1 x2 x3 x4:Int) {x5:Int} (h5:i64 x5):(L7 [I x0,I x1,I x2,I x3,I x4,I x5]).isSome=true:=by
 show(Qgl E4 Gm [I x0,I x1,I x2,I x3,I x4,I x5]).isSome=true;have h:=Qw5 h5;have h2:=Qu5 x4;generalize E4=M at*;generalize Gm=N at*;rw[Zv6]
 repeat' first|exact rfl|exact h|exact h2|refine BV (fun _=> ?_) (fun _=> ?_)|refine Fo ?_ fun _ _=> ?_
end Go.Bm
namespace Go.Bm
end Go.Bm
namespace Go.Bm
structure Plan3 (a b c : Int) : Prop where
 a:1<=a/\a<=65536
 b:2<=b/\b<=65536
 c:1<=c/\c<=16777216
end Go.Bm
namespace Go.Bm
abbrev EH (m0 m1 m3 m4 v:Int):List AC:=[I (IntKind.i64.wrap (m0+v)),I v,I (IntKind.i64.wrap (v-m1)),I m0,I m3,I m4]
theorem Vi (m0 m1 m2 m3 m4 m5 v:Int):IJ [I m0,I m1,I m2,I m3,I m4,I m5,I v]=some (EH m0 m1 m3 m4 v):=by
 show Qoo [I m0,I m1,I m2,I m3,I m4,I m5,I v]=some (EH m0 m1 m3 m4 v);rw[Q8x]
end Go.Bm
namespace Go.Bm
theorem CI (a:AC) (l:List AC):nth .dead (a::l) 0=a:=rfl
theorem Em (a:AC) (l:List AC) (n:Nat):nth .dead (a::l) (n+1)=nth .dead l n:=rfl
theorem Dj (n:Int):Af (.int .i64 n)=n:=rfl
theorem Zr4 {M:Fn} {p:Pth} {x:Ax3} {t:Trk} (hM:∀u,(M (pxt p x t [I u])).isSome=true) (ht:0<=t.length/\t.length<=900000000000000) (u1 u2:Int) (hd:u2-u1<=1000000000000):
  (Yc M (An (Qkj M)) (pxt p x t [I u1,I u2])).isSome=true:=by
 rw[Zr7];have h1:0<=mx 0 (mn u1 t.length)/\mx 0 (mn u1 t.length)<=t.length/\mx 0 (mn u2 t.length)-mx 0 (mn u1 t.length)<=1000000000000/\mx 0 (mn u2 t.length)<=t.length:=by
  unfold mx mn
  (repeat' split)<;>omega
 obtain⟨k1,k2,k3,k4⟩:=h1;generalize mx 0 (mn u1 t.length)=f at*;generalize mx 0 (mn u2 t.length)=e at*;refine Fo (hM _) fun o _=> ?_;refine Out.is (p:=fun _=>True) ?_;refine .bind (p:=fun o=>o.1=1) ?_ fun o g=>by rw[g];exact .some trivial
 show Out _ (An _ (.view kPt []::I e::I f::pxt p x t [I (gA o 0),I (gA o 1),I (gA o 2)]));generalize gA o 0=w0;generalize gA o 1=w1;generalize gA o 2=w2;refine Cr (fun s:Rw×Int×Int×Int×Int=> .view kPt s.1::I e::I s.2.1::pxt p x t [I s.2.2.1,I s.2.2.2.1,I s.2.2.2.2]) (fun s=>f<=s.2.1/\s.2.1<=t.length/\(s.1.length:Int)<=3*(s.2.1-f)) (fun s=>(e-s.2.1).toNat) _ ?_ ([],f,w0,w1,w2) (by simp;omega);rintro⟨v,u,a0,a1,a2⟩ ⟨q1,q2,q3⟩;dsimp only at*;rw[Zw8];try dsimp only[Om]
 rw[Ae (x:=u+1) (by omega)];refine .cond (fun c=> ?_) (fun _=> .some (.inr ⟨by simp,rfl⟩));have c:=Bg c;refine .ibind (hM _) fun o _=> ?_
 repeat' first
  |(refine .cond (fun _=> ?_) fun c=>by rw[CY (by simp;omega)]at c;cases c)
  |refine .cond (fun _=> ?_) (fun _=> ?_)
 all_goals refine Out.some (Or.inl ⟨rfl,(_,u+1,_,_,_),rfl,by simp;omega,by show(e-(u+1)).toNat<(e-u).toNat;omega⟩)
theorem Z1m {p:Pth} {x:Ax3} {t:Trk} (h:Fix p x t) (u1 u2:Int) (hd:u2-u1<=1000000000000):(K8 (pxt p x t [I u1,I u2])).isSome=true:=
 Zr4 (fun u=>by rw[Xc h u];rfl) h.t.q.len u1 u2 hd
end Go.Bm
namespace Go.Bm
def Bl (k b:Int):Int:=if b<=0 then 0 else(b-1)/k*b-k*((b-1)/k*((b-1)/k+1)/2)
def Cj (j k v a:Int):Prop:= -j<=a/\a<=j/\Bl k (-a)<=v/\v<=16777216-Bl k a/\(v=0->a<=k)
instance (j k v a:Int):Decidable (Cj j k v a):=by unfold Cj;infer_instance
theorem Q57 {k b:Int} (hk:2<=k/\k<=65536) (hb:0<b/\b<=1048576):
  0<=(b-1)/k/\(b-1)/k<=524288/\k*((b-1)/k)<=b-1/\0<=(b-1)/k*b/\(b-1)/k*b<=549755813888/\0<=(b-1)/k*((b-1)/k+1)/\(b-1)/k*((b-1)/k+1)<=274878431232:=by
 have h0:0<=(b-1)/k:=Int.ediv_nonneg (by omega) (by omega);have h1:k*((b-1)/k)<=b-1:=Int.mul_ediv_self_le (by omega);have h2:2*((b-1)/k)<=k*((b-1)/k):=Int.mul_le_mul_of_nonneg_right hk.1 h0;have h3:(b-1)/k<=524288:=by omega
 have h4:(b-1)/k*b<=524288*1048576:=Int.mul_le_mul h3 hb.2 (by omega) (by omega);have h5:(b-1)/k*((b-1)/k+1)<=524288*524289:=Int.mul_le_mul h3 (by omega) (by omega) (by omega);exact⟨h0,h3,h1,Int.mul_nonneg h0 (by omega),by omega,Int.mul_nonneg h0 (by omega),by omega⟩
theorem Ik {k b:Int} (h:b<=0):Bl k b=0:=by simp[Bl,h]
theorem Qi2 {k b:Int} (h:b<=k):Bl k b=0:=by
 unfold Bl;split
 ·rfl
 ·rw[Int.ediv_eq_zero_of_lt (by omega) (by omega)];simp
theorem Zuj (m:Int):m*(m+1)/2=(m-1)*m/2+m:=by
 have:m*(m+1)=(m-1)*m+m*2:=by
  rw[Int.sub_mul,Int.mul_add,Int.mul_one,Int.one_mul];omega
 rw[this,Int.add_mul_ediv_right _ _ (by omega)]
theorem P_ {k b:Int} (hk:0<k) (h:k<b):Bl k b=(b-k)+Bl k (b-k):=by
 have e1:(b-1)/k=(b-k-1)/k+1:=by
  have:b-1=(b-k-1)+k*1:=by omega
  rw[this,Int.add_mul_ediv_left _ _ (by omega)]
 unfold Bl;rw[if_neg (by omega),if_neg (by omega),e1];generalize(b-k-1)/k=m;rw[Zuj (m+1)];have e2:m+1-1=m:=by omega
 rw[e2,Int.mul_add k,Int.add_mul m 1 b,Int.mul_sub m b k,Int.mul_add k m 1,Int.mul_comm k m];omega
theorem Q35 {k:Int} (hk:0<k):∀(n:Nat) (b:Int),b<=n->0<=Bl k b
 |0,b,h=>by rw[Ik (by omega)];omega
 |n+1,b,h=>by
  by_cases hb:b<=k
  ·rw[Qi2 hb];omega
  ·rw[P_ hk (by omega)];have:=Q35 hk n (b-k) (by omega);omega
theorem Hp {k b:Int} (hk:0<k):0<=Bl k b:=Q35 hk b.toNat b (by omega)
theorem Q4f {k:Int} (hk:0<k):∀(n:Nat) (b:Int),b<=n->Bl k b<=Bl k (b+1)
 |0,b,h=>by rw[Ik (by omega)];exact Hp hk
 |n+1,b,h=>by
  by_cases hb:b<=k
  ·rw[Qi2 hb];exact Hp hk
  ·rw[P_ hk (b:=b) (by omega),P_ hk (b:=b+1) (by omega)];have:=Q4f hk n (b-k) (by omega);have e:b+1-k=b-k+1:=by omega
   rw[e];omega
theorem Q5a {k:Int} (hk:0<k):∀(n:Nat) (b:Int),Bl k b<=Bl k (b+n)
 |0,b=>by simp
 |n+1,b=>by
  have h1:=Q5a hk n b;have h2:=Q4f hk (b+n).toNat (b+n) (by omega);have e:b+((n+1:Nat):Int)=b+n+1:=by omega
  rw[e];omega
theorem Zzh {k b c:Int} (hk:0<k) (h:b<=c):Bl k b<=Bl k c:=by
 have:=Q5a hk (c-b).toNat b;have e:b+((c-b).toNat:Int)=c:=by omega
 rwa [e]at this
theorem Qwy {k b:Int} (hk:2<=k/\k<=65536) (hb:b<=1048576):Bl k b<=549755813888:=by
 unfold Bl;split
 ·omega
 ·have p:=Q57 (k:=k) (b:=b) hk ⟨by omega,hb⟩;generalize(b-1)/k=m at p⊢;obtain⟨p1,p2,p3,p4,p5,p6,p7⟩:=p;have q1:0<=k*(m*(m+1)/2):=Int.mul_nonneg (by omega) (by omega);omega
def bs (k v:Int):Nat->Int->Int->Int
 |0,low,_=>low
 |n+1,low,high=>if low<high then
   if Bl k (high-(high-low)/2)<=v-(high-(high-low)/2)then bs k v n (high-(high-low)/2) high else bs k v n low (high-(high-low)/2-1)
  else low
def AA (j k v a:Int):Int:= -(bs k v 20 (-a-k) (min (k-a) j))
theorem Z9 (k v:Int):∀(n:Nat) (low high:Int),low<=bs k v n low high/\bs k v n low high<=max low high
 |0,low,high=>by simp only[bs];omega
 |n+1,low,high=>by
  unfold bs;split
  ·split
   ·have:=Z9 k v n (high-(high-low)/2) high;omega
   ·have:=Z9 k v n low (high-(high-low)/2-1);omega
  ·omega
theorem VS (k v:Int):∀(n:Nat) (low high:Int),low<=high->high-low<2^n->Bl k low<=v-low->
  Bl k (bs k v n low high)<=v-bs k v n low high/\low<=bs k v n low high/\bs k v n low high<=high/\(bs k v n low high=high\/v-(bs k v n low high+1)<Bl k (bs k v n low high+1))
 |0,low,high,h1,h2,h3=>by
  simp only[bs];have:high-low<1:=by simpa using h2
  exact⟨h3,by omega,h1, .inl (by omega)⟩
 |n+1,low,high,h1,h2,h3=>by
  have hp:(2:Int)^(n+1)=2*2^n:=by rw[Int.pow_succ];omega
  unfold bs;by_cases hlt:low<high
  ·rw[if_pos hlt];by_cases hc:Bl k (high-(high-low)/2)<=v-(high-(high-low)/2)
   ·rw[if_pos hc];obtain⟨a,b,c,d⟩:=VS k v n (high-(high-low)/2) high (by omega) (by omega) hc;exact⟨a,by omega,c,d⟩
   ·rw[if_neg hc];obtain⟨a,b,c,d⟩:=VS k v n low (high-(high-low)/2-1) (by omega) (by omega) h3;refine⟨a,b,by omega, .inr ?_⟩;rcases d with d|d
    ·have e:bs k v n low (high-(high-low)/2-1)+1=high-(high-low)/2:=by omega
     rw[e];omega
    ·exact d
  ·rw[if_neg hlt];exact⟨h3,by omega,h1, .inl (by omega)⟩
theorem R7 {j k r v a:Int} (hp:Plan3 j k r) (hr:Cj j k v a) {B:Int} (hB:B=bs k v 20 (-a-k) (min (k-a) j)):
  Bl k B<=v-B/\ -a-k<=B/\B<=k-a/\B<=j/\(B=min (k-a) j\/v-(B+1)<Bl k (B+1))/\0<=v:=by
 obtain⟨⟨p1,p2⟩,⟨p3,p4⟩,p5,p6⟩:=hp;obtain⟨h1,h2,h3,h4,h5⟩:=hr;have hk:0<k:=by omega
 have l0:=Hp (b:= -a) hk;have hlow:Bl k (-a-k)<=v-(-a-k):=by
  by_cases hc:k< -a
  ·rw[P_ hk hc]at h3;omega
  ·rw[Ik (by omega)];omega
 obtain⟨q1,q2,q3,q4⟩:=VS k v 20 (-a-k) (min (k-a) j) (by omega) (by simp;omega) hlow;rw[<-hB]at q1 q2 q3 q4;exact⟨q1,q2,by omega,by omega,q4,by omega⟩
theorem closed {j k r v a:Int} (hp:Plan3 j k r) (hr:Cj j k v a):
  Cj j k (v+AA j k v a) (AA j k v a)/\AA j k v a-a<=k/\a-AA j k v a<=k/\(0<a\/(v=0/\AA j k v a=0)\/AA j k v a<0):=by
 obtain⟨B,hB⟩:∃B,B=bs k v 20 (-a-k) (min (k-a) j):=⟨_,rfl⟩;have hb:AA j k v a= -B:=by unfold AA;rw[hB]
 obtain⟨q1,q2,q3,q4,q5,q6⟩:=R7 hp hr hB;rw[hb];obtain⟨⟨p1,p2⟩,⟨p3,p4⟩,p5,p6⟩:=hp;obtain⟨h1,h2,h3,h4,h5⟩:=hr;have hk:0<k:=by omega
 have top:B+1<=0->B=min (k-a) j:=by
  intro h;rcases q5 with q5|q5
  ·exact q5
  ·rw[Ik h]at q5;omega
 have hB0: -a<=B\/0<=B:=by
  by_cases hn:B+1<=0
  ·have:=top hn;omega
  ·right;omega
 have hneg:a<=0->0<=B:=fun ha=>by
  by_cases hn:B+1<=0
  ·have:=top hn;omega
  ·omega
 have la:=Hp (b:=a) hk;have hjB: -j<=B:=by
  by_cases hn:B+1<=0
  ·have:=top hn;omega
  ·omega
 have e1: -(-B)=B:=by omega
 refine⟨⟨by omega,by omega,by rw[e1];omega,?_,?_⟩,by omega,by omega,?_⟩
 ·by_cases hn:0<=B
  ·rw[Ik (b:= -B) (by omega)];omega
  ·have ht:=top (by omega);have hka:B=k-a:=by omega
   have e2: -B=a-k:=by omega
   have hs:=P_ (k:=k) (b:=a) hk (by omega);rw[e2];omega
 ·intro hv;omega
 ·by_cases ha:0<a
  ·exact .inl ha
  ·right;have hB1:=hneg (by omega);by_cases hv:v=0
   ·left;have:=Hp (b:=B) hk;exact⟨hv,by omega⟩
   ·right;by_cases hz:B=0
    ·rcases q5 with q5|q5
     ·omega
     ·rw[hz,Qi2 (k:=k) (b:=0+1) (by omega)]at q5;omega
    ·omega
def Bz (j k:Int):Nat->Int->Int->List Int×Bool
 |0,v,_=>([],decide (v<=0))
 |n+1,v,a=>if v<=0 then([],true)else((v+AA j k v a)::(Bz j k n (v+AA j k v a) (AA j k v a)).1,(Bz j k n (v+AA j k v a) (AA j k v a)).2)
theorem Q8m (j k:Int):∀(n:Nat) (v a:Int),(Bz j k n v a).2=true->Bz j k (n+1) v a=Bz j k n v a
 |0,v,a,h=>by
  have h:v<=0:=of_decide_eq_true h;unfold Bz;rw[if_pos h];show([],true)=([],decide (v<=0));rw[decide_eq_true h]
 |n+1,v,a,h=>by
  unfold Bz at h⊢;by_cases c:v<=0
  ·rw[if_pos c,if_pos c]
  ·rw[if_neg c]at h;rw[if_neg c,if_neg c,Q8m j k n _ _ h]
theorem FD {j k r v a:Int} (hp:Plan3 j k r) (hr:Cj j k v a): -65536<=a/\a<=65536/\0<=v/\v<=16777216:=by
 obtain⟨h1,h2,h3,h4,-⟩:=hr;have p1:=hp.a;have p2:=hp.b
 have q1:=Hp (k:=k) (b:=a) (by omega);have q2:=Hp (k:=k) (b:= -a) (by omega);omega
end Go.Bm
noncomputable section
namespace Go.Bm
theorem Qxw {a k c:Int} (hk:2<=k/\k<=65536) {d:Int} (hd:d<=1048576):G3 [I a,I k,I c,I d]=some [I (Bl k d)]:=by
  show Sy _=_;rw[Ua];by_cases h:d<=0
  · rw[Br (decide_eq_true h),Ik h]
  · rw[Ba (decide_eq_false h),Ba (decide_eq_false (by omega)),Ba (decide_eq_false (by omega))]
    obtain⟨p1,p2,p3,p4,p5,p6,p7⟩:=Q57 hk (show 0<d/\d<=1048576 by omega);rw[Ae (x:=d-1) (by omega),Int.tdiv_eq_ediv_of_nonneg (show 0<=d-1 by omega)];unfold Bl;rw[if_neg h];have hm:0<=k*((d-1)/k*((d-1)/k+1)/2):=Int.mul_nonneg (by omega) (by omega);have hm2:k*((d-1)/k*((d-1)/k+1)/2)<=65536*274878431232:=Int.mul_le_mul hk.2 (by omega) (by omega) (by omega);generalize hq:(d-1)/k=q at*;rw[Ae (x:=q) (by omega),Ae (x:=q*d) (by omega),Ae (x:=q+1) (by omega),Ae (x:=q*(q+1)) (by omega),Int.tdiv_eq_ediv_of_nonneg p6];generalize q*(q+1)=y at*;generalize q*d=z at*;rw[Ae (x:=y/2) (by omega),Ae (x:=k*(y/2)) (by omega),Ae (by omega)]
theorem Zhq {M:Fn} {a k c:Int} (hp:Plan3 a k c) (hM:∀{d:Int},d<=1048576->M [I a,I k,I c,I d]=some [I (Bl k d)]) (v x:Int):Ph M [I a,I k,I c,I v,I x]=some [B (decide (Cj a k v x))]:=by
  have ha:=hp.a;have hk:=hp.b
  rw[Ze,Ae (x:=0-a) (by omega)];refine eC (fun h=> ?_) fun h=> ?_
  · have h:x<0-a:=Bg h
    rw[decide_eq_false (fun q=>by have:=q.1;omega)]
  have h: ¬x<0-a:=Bf h;refine eC (fun h2=> ?_) fun h2=> ?_
  · have h2:x>a:=Bg h2
    rw[decide_eq_false (fun q=>by have:=q.2.1;omega)]
  have h2: ¬x>a:=Bf h2;have l1:=Qwy (b:= -x) hk (by omega);have l2:=Qwy (b:=x) hk (by omega);have l3:=Hp (k:=k) (b:=x) (by omega);have fin: ¬(v=0/\x>k)->((M [I a,I k,I c,I (IntKind.i64.wrap (0-x))]).bind fun o=>bif decide (v>=gA o 0)then(M [I a,I k,I c,I x]).bind fun o2=>some [B (decide (v<=IntKind.i64.wrap (16777216-gA o2 0)))]else some [B false])=some [B (decide (Cj a k v x))]:=fun hz=>by
    rw[Ae (x:=0-x) (by omega),show(0:Int)-x= -x by omega];refine eB (hM (by omega)) (eC (fun q=> ?_) fun q=> ?_)
    · have q:v>=Bl k (-x):=Bg q
      refine eB (hM (by omega)) ?_;show some [B (decide (v<=IntKind.i64.wrap (16777216-Bl k x)))]=_;rw[Ae (by omega)];have e:(v<=16777216-Bl k x)↔Cj a k v x:=⟨fun e=>⟨by omega,by omega,q,e,fun z=>by omega⟩,fun e=>e.2.2.2.1⟩;rw[decide_eq_decide.2 e]
    · have q: ¬v>=Bl k (-x):=Bf q
      rw[decide_eq_false (fun w=>q w.2.2.1)]
  refine eC (fun h0=>eC (fun h1=> ?_) fun h1=> ?_) fun h0=> ?_
  · have h0:v=0:=eq_of_beq h0
    have h1:x>k:=Bg h1;rw[decide_eq_false (fun q=>by have:=q.2.2.2.2 h0;omega)]
  · exact fin fun w=>Bf h1 w.2
  · exact fin fun w=>by rw[beT w.1]at h0;cases h0
theorem Zrr {a k c:Int} (hp:Plan3 a k c) (v x:Int):GJ [I a,I k,I c,I v,I x]=some [B (decide (Cj a k v x))]:=Zhq hp (fun hd=>Qxw hp.b hd) v x
theorem Zkv {k v:Int}:∀(n:Nat) {low high:Int},¬low<high->bs k v n low high=low
  |0,_,_,_=>rfl
  |n+1,_,_,h=>by unfold bs;rw[if_neg h]
theorem Z36 {M MV:Fn} {a k c v:Int} (hM:∀{d:Int},d<=1048576->M [I a,I k,I c,I d]=some [I (Bl k d)]) (hv: -1099511627776<=v/\v<=1099511627776):∀(n:Nat) (low high:Int),high-low<2^n-> -262144<=low->high<=262144->low<=262144-> -262145<=high->
    An (Lf M MV) [I v,I low,I high,I a,I k,I c]=some (1,[I (bs k v n low high)]):=by
  have endd:∀(n:Nat) {low high:Int},¬low<high->An (Lf M MV) [I v,I low,I high,I a,I k,I c]=some (1,[I (bs k v n low high)]):=fun n low high h=>by
    rw[Zkv n h];refine A5 ?_ (by simp);rw[Qhn,Ba (decide_eq_false h)]
  intro n;induction n with
  | zero => intro low high h _ _ _ _; exact endd 0 (by have h : high - low < 1 := by simpa using h
                                                       omega)
  |succ n ih=>
    intro low high h h1 h2 h3 h4;have hp:(2:Int)^(n+1)=2*2^n:=by rw[Int.pow_succ];omega
    rw[hp]at h;by_cases cc:low<high
    · have e1:IntKind.i64.wrap (high-IntKind.i64.wrap ((IntKind.i64.wrap (high-low)).tdiv 2))=high-(high-low)/2:=by
        rw[Ae (x:=high-low) (by omega),Int.tdiv_eq_ediv_of_nonneg (show 0<=high-low by omega),Ae (x:=(high-low)/2) (by omega),Ae (by omega)]
      have e2:IntKind.i64.wrap (v-(high-(high-low)/2))=v-(high-(high-low)/2):=Ae (by omega);have e3:IntKind.i64.wrap (high-(high-low)/2-1)=high-(high-low)/2-1:=Ae (by omega);have hs:=Qhn M MV v low high a k c;rw[Br (decide_eq_true cc),e1,e2,e3,hM (by omega)]at hs;unfold bs;rw[if_pos cc];by_cases q:Bl k (high-(high-low)/2)<=v-(high-(high-low)/2)
      · rw[if_pos q]
        rw[Bv (hs.trans (eB rfl (eT (decide_eq_true (show v-(high-(high-low)/2)>=Bl k (high-(high-low)/2)from q)) rfl)))];exact ih _ _ (by omega) (by omega) (by omega) (by omega) (by omega)
      · rw[if_neg q]
        rw[Bv (hs.trans (eB rfl (eF (decide_eq_false (show¬v-(high-(high-low)/2)>=Bl k (high-(high-low)/2)from q)) rfl)))];exact ih _ _ (by omega) (by omega) (by omega) (by omega) (by omega)
    · exact endd (n+1) cc
theorem Zmh {M MV:Fn} {a k c v x:Int} (hp:Plan3 a k c) (hr:Cj a k v x) (hM:∀{d:Int},d<=1048576->M [I a,I k,I c,I d]=some [I (Bl k d)]) (hV:MV [I a,I k,I c]=some [B true]):
    Th M MV (An (Lf M MV)) [I a,I k,I c,I v,I x]=some [I (AA a k v x)]:=by
  have hrg:=FD hp hr;have ha:=hp.a;have hk:=hp.b
  rw[Qrz];have m1:mx x v=max x v:=by unfold mx;split<;>omega
  have m2:mn x v=min x v:=by unfold mn;split<;>omega
  rw[m1,m2];refine eB hV (eF rfl (eF (decide_eq_false (by omega)) (eF (decide_eq_false (by omega)) ?_)));have m3:mn (IntKind.i64.wrap (k-x)) a=min (k-x) a:=by rw[Ae (x:=k-x) (by omega)];unfold mn;split<;>omega
  rw[m3,Ae (x:=0-x) (by omega),Ae (x:=0-x-k) (by omega),show(0:Int)-x-k= -x-k by omega];refine eB (Z36 (MV:=MV) hM (by omega) 20 (-x-k) (min (k-x) a) (by simp;omega) (by omega) (by omega) (by omega) (by omega)) (eT rfl ?_);have hb:=Z9 k v 20 (-x-k) (min (k-x) a);show some [I (IntKind.i64.wrap (0-bs k v 20 (-x-k) (min (k-x) a)))]=_;unfold AA;rw[Ae (by omega),Int.zero_sub]
theorem Q4b {a k c:Int} (hp:Plan3 a k c):E2 [I a,I k,I c]=some [B true]:=by
  rw[PC,decide_eq_true];exact⟨hp.a.1,hp.a.2,hp.b.1,hp.b.2,hp.c.1,hp.c.2⟩
theorem Qzh {a k c v x:Int} (hp:Plan3 a k c) (hr:Cj a k v x):Fm [I a,I k,I c,I v,I x]=some [I (AA a k v x)]:=
  Zmh hp hr (fun hd=>Qxw hp.b hd) (Q4b hp)
end Go.Bm
