/- laid together -/
import Derived.Test.YtommijghjlikkaaGreatPrMo
import Derived.Test.YtommijghjlikkaaGreatPrI
import Derived.Lib.ItoaNum
set_option linter.unusedVariables false
set_option linter.unusedSimpArgs false
/- the motors of a track: by the reference and by the program; the law TrackMotors -/
set_option maxRecDepth 100000
namespace Go.Bm
open Classical

def H7 (a:Axs) (d:Int):Int:=if d= -1 then-a.back else 0
def FI (a:Axs) (move at_ was dirs u:Int):Int:=if move≠0\/was=dirs then H7 a dirs else if dirs= -1 then-min (u-at_) a.back else min (u-at_) a.back-a.back
theorem Rp {a:Axs} (hb:0<=a.back/\a.back<=1000) (v:Int):IS (Bd a++[I v])=some [I (H7 a v)]:=by
 have he:=Q8d a.step a.speed a.accel a.jerk a.low a.high a.back a.origin a.spacing (a.pitch.map At) v
 unfold IS
 refine Eq.trans he ?_
 unfold H7
 by_cases c:v= -1
 ·rw[Bz (by simp[c]),if_pos c,Ae (by omega)]
  congr 3;omega
 ·rw[Bl (by simp[c]),if_neg c]
theorem Zhe {M:Fn} {a:Axs} {c:Pce} {u:Int} (hM:∀v:Int,M (Bd a++[I v])=some [I (H7 a v)]) (hb:0<=a.back/\a.back<=1000) (hu:0<=u-c.at_/\u-c.at_<=2000000000000000):
  OV M (Bd a++AM c++[I 0,I u])=some [I (FI a c.move c.at_ c.was.x c.dirs.x u)]:=by
 have he:=Qjl M a.step a.speed a.accel a.jerk a.low a.high a.back a.origin a.spacing (a.pitch.map At) c.at_ c.units c.s c.move c.was.x c.was.y c.was.z c.dirs.x c.dirs.y c.dirs.z 0 u
 refine Eq.trans he ?_
 have hm0:=hM c.dirs.x
 simp only[Bd,List.cons_append,List.nil_append]at hm0
 have e1:IntKind.i64.wrap (0+1)=1:=rfl
 have e2:IntKind.i64.wrap (1+1)=2:=rfl
 have w1:IntKind.i64.wrap (u-c.at_)=u-c.at_:=Ae (by omega)
 have w2:IntKind.i64.wrap (0-min (u-c.at_) a.back)= -min (u-c.at_) a.back:=by rw[Ae (by omega)];omega
 have w3:IntKind.i64.wrap (min (u-c.at_) a.back-a.back)=min (u-c.at_) a.back-a.back:=Ae (by omega)
 unfold FI
 simp only[go_sem,e1,e2,Jg,w1,w2,w3,Nat.reduceAdd,Int.cast_ofNat_Int,Int.natCast_zero,Int.natCast_one,Int.reduceEq,hm0]
 by_cases c1:c.move=0
 ·by_cases c2:c.was.x=c.dirs.x
  ·simp[c1,c2]
  ·by_cases c3:c.dirs.x= -1
   ·simp[c1,c3,show c.was.x≠-1 from fun e=>c2 (by rw[e,c3])]
   ·simp[c1,c2,c3]
 ·simp[c1]
theorem Zz8 {M:Fn} {a:Axs} {c:Pce} {u:Int} (hM:∀v:Int,M (Bd a++[I v])=some [I (H7 a v)]) (hb:0<=a.back/\a.back<=1000) (hu:0<=u-c.at_/\u-c.at_<=2000000000000000):
  OV M (Bd a++AM c++[I (IntKind.i64.wrap (0+1)),I u])=some [I (FI a c.move c.at_ c.was.y c.dirs.y u)]:=by
 have he:=Qjl M a.step a.speed a.accel a.jerk a.low a.high a.back a.origin a.spacing (a.pitch.map At) c.at_ c.units c.s c.move c.was.x c.was.y c.was.z c.dirs.x c.dirs.y c.dirs.z (IntKind.i64.wrap (0+1)) u
 refine Eq.trans he ?_
 have hm0:=hM c.dirs.y
 simp only[Bd,List.cons_append,List.nil_append]at hm0
 have e1:IntKind.i64.wrap (0+1)=1:=rfl
 have e2:IntKind.i64.wrap (1+1)=2:=rfl
 have w1:IntKind.i64.wrap (u-c.at_)=u-c.at_:=Ae (by omega)
 have w2:IntKind.i64.wrap (0-min (u-c.at_) a.back)= -min (u-c.at_) a.back:=by rw[Ae (by omega)];omega
 have w3:IntKind.i64.wrap (min (u-c.at_) a.back-a.back)=min (u-c.at_) a.back-a.back:=Ae (by omega)
 unfold FI
 simp only[go_sem,e1,e2,Jg,w1,w2,w3,Nat.reduceAdd,Int.cast_ofNat_Int,Int.natCast_zero,Int.natCast_one,Int.reduceEq,hm0]
 by_cases c1:c.move=0
 ·by_cases c2:c.was.y=c.dirs.y
  ·simp[c1,c2]
  ·by_cases c3:c.dirs.y= -1
   ·simp[c1,c3,show c.was.y≠-1 from fun e=>c2 (by rw[e,c3])]
   ·simp[c1,c2,c3]
 ·simp[c1]
theorem Zfk {M:Fn} {a:Axs} {c:Pce} {u:Int} (hM:∀v:Int,M (Bd a++[I v])=some [I (H7 a v)]) (hb:0<=a.back/\a.back<=1000) (hu:0<=u-c.at_/\u-c.at_<=2000000000000000):
  OV M (Bd a++AM c++[I (IntKind.i64.wrap (IntKind.i64.wrap (0+1)+1)),I u])=some [I (FI a c.move c.at_ c.was.z c.dirs.z u)]:=by
 have he:=Qjl M a.step a.speed a.accel a.jerk a.low a.high a.back a.origin a.spacing (a.pitch.map At) c.at_ c.units c.s c.move c.was.x c.was.y c.was.z c.dirs.x c.dirs.y c.dirs.z (IntKind.i64.wrap (IntKind.i64.wrap (0+1)+1)) u
 refine Eq.trans he ?_
 have hm0:=hM c.dirs.z
 simp only[Bd,List.cons_append,List.nil_append]at hm0
 have e1:IntKind.i64.wrap (0+1)=1:=rfl
 have e2:IntKind.i64.wrap (1+1)=2:=rfl
 have w1:IntKind.i64.wrap (u-c.at_)=u-c.at_:=Ae (by omega)
 have w2:IntKind.i64.wrap (0-min (u-c.at_) a.back)= -min (u-c.at_) a.back:=by rw[Ae (by omega)];omega
 have w3:IntKind.i64.wrap (min (u-c.at_) a.back-a.back)=min (u-c.at_) a.back-a.back:=Ae (by omega)
 unfold FI
 simp only[go_sem,e1,e2,Jg,w1,w2,w3,Nat.reduceAdd,Int.cast_ofNat_Int,Int.natCast_zero,Int.natCast_one,Int.reduceEq,hm0]
 by_cases c1:c.move=0
 ·by_cases c2:c.was.z=c.dirs.z
  ·simp[c1,c2]
  ·by_cases c3:c.dirs.z= -1
   ·simp[c1,c3,show c.was.z≠-1 from fun e=>c2 (by rw[e,c3])]
   ·simp[c1,c2,c3]
 ·simp[c1]

theorem Zau {a:Axs} (hb:0<=a.back/\a.back<=1000) {move at_ was dirs u:Int} (hu:0<=u-at_): -1000<=FI a move at_ was dirs u/\FI a move at_ was dirs u<=1000:=by
 unfold FI H7
 (repeat' split)<;>omega
theorem Zj4 {a:Pt} {g:Sgm} {d:Int} (ha:bd B26 a) (hg:1<=g.len/\g.len<=268435456/\bd B26 g.to) (hd:0<=d/\d<=g.len):bd 201326592 (Mc a g d):=by
 have key:∀u v:Int,u.natAbs<=B26->v.natAbs<=B26->(v+Bb ((u-v)*d) g.len).natAbs<=201326592:=by
  intro u v hu hv
  have h1:=HW hu hv
  have h2:=Qzb (D:=u-v) (L:=g.len) (d:=d) (by omega) (Nat.le_trans h1 (by decide)) hd
  have h3:v.natAbs<=67108864:=hv
  omega
 exact⟨key _ _ hg.2.2.1 ha.1,key _ _ hg.2.2.2.1 ha.2.1,key _ _ hg.2.2.2.2 ha.2.2⟩
theorem Ztf {p:Pth} (h:GoodPath p) (s:Int):bd 201326592 (atP p s):=by
 unfold atP
 by_cases c:p.segs=[]
 ·rw[c];exact AU h.start (by decide)
 ·have hok:=h.ok
  obtain⟨f1,f2,f3,f4⟩:=Xl (l:=p.segs) (a:=p.start) (s:=max s 0) c (fun g hg=>(hok.seg g hg).1) (by omega)
  rw[f4]
  exact Zj4 (Qvp h.start hok f1) (hok.seg _ (Hn f1)) ⟨f2,f3⟩
theorem Xz {a:Axs} (h:AxOK a) {p:Int} (hp:okB p):(HJ a p).natAbs<=2000000000:=by
 have hb:=Qsd h p
 have hs:=h.step
 unfold okB at hp
 unfold HJ
 refine Qli (by omega) ?_
 have e:((2000000000:Nat):Int)=2000000000:=rfl
 rw[e];omega
def shT (a:Axs) (t:Trk) (u:Int) (f:Pt->Int):Int:=if t.pieces=[]then H7 a (f t.dirs)else FI a (pcA t.pieces (iT t u)).move (pcA t.pieces (iT t u)).at_ (f (pcA t.pieces (iT t u)).was) (f (pcA t.pieces (iT t u)).dirs) (clT t u)
def Sz (p:Pth) (x:Ax3) (s:Int):Pt:=⟨HJ x.a (atP p s).x,HJ x.b (atP p s).y,HJ x.c (atP p s).z⟩
def Hk (p:Pth) (x:Ax3) (t:Trk) (u:Int):Pt:=
 ⟨(Sz p x (Bn t u)).x+shT x.a t u Pt.x,(Sz p x (Bn t u)).y+shT x.b t u Pt.y,(Sz p x (Bn t u)).z+shT x.c t u Pt.z⟩
theorem Qrj {t:Trk} (h:TQ t) (hch:∀i,i+1<t.pieces.length->(pcA t.pieces (i+1)).at_=eI t.pieces i) (h0:t.pieces≠[]->(pcA t.pieces 0).at_=0) (u:Int) (hne:t.pieces≠[]):(pcA t.pieces (iT t u)).at_<=clT t u/\(0<iT t u->(pcA t.pieces (iT t u)).at_<clT t u):=by
 have hi:=Ng h u hne
 have hc:=O2 h u
 by_cases c:iT t u=0
 ·rw[c,h0 hne];exact⟨hc.1,fun g=>absurd g (by omega)⟩
 ·obtain⟨j,hj⟩:∃j,iT t u=j+1:=⟨iT t u-1,by omega⟩
  rw[hj]at hi⊢
  rw[hch j hi]
  have: ¬clT t u<=eI t.pieces j:=by
   intro g
   have:=QZ (show j<t.pieces.length by omega) g
   unfold iT at hj;omega
  exact⟨by omega,fun _=>by omega⟩
theorem Zos {t:Trk} (h:TQ t) (u:Int):clT t (clT t u)=clT t u:=by have:=h.len;unfold clT BX;omega
theorem Q9u {t:Trk} (h:TQ t) (u:Int):Bn t (clT t u)=Bn t u:=by unfold Bn iT;rw[Zos h]
theorem Qye {t:Trk} (h:TQ t) (u:Int): -3000000000000000<=Bn t u/\Bn t u<=3000000000000000:=by
 unfold Bn
 by_cases c:t.pieces=[]
 ·rw[if_pos c];have:=h.start;omega
 ·have hi:=Ng h u c
  have h1:=h.pos _ hi
  have h2:=h.s _ hi
  have h3:=h.move _ hi
  have h4:=O2 h u
  have h5:=h.len
  rw[if_neg c]
  unfold eI at h1
  rcases h3 with h3|h3|h3<;>rw[h3]<;>omega
theorem Zma {p:Pth} (h:GoodPath p) (s:Int):okB (atP p s).x/\okB (atP p s).y/\okB (atP p s).z:=by
 obtain⟨h1,h2,h3⟩:=Ztf h s
 unfold okB;omega
structure TH (t : Trk) : Prop where
 q:TQ t
 at0:t.pieces≠[]->(pcA t.pieces 0).at_=0
 at1:∀i,i+1<t.pieces.length->(pcA t.pieces (i+1)).at_=eI t.pieces i
theorem T6 {a:Axs} (hb:0<=a.back/\a.back<=1000) {t:Trk} (h:TH t) (u:Int) (f:Pt->Int): -1000<=shT a t u f/\shT a t u f<=1000:=by
 unfold shT
 by_cases c:t.pieces=[]
 ·rw[if_pos c];unfold H7;split<;>omega
 ·rw[if_neg c]
  exact Zau hb (by have:=(Qrj h.q h.at1 h.at0 u c).1;omega)
theorem Zjv {MS MD MM MF MA ML MC:Fn} {p:Pth} {x:Ax3} {t:Trk} {u:Int} (hp:GoodPath p) (hx:Ax3M x) (ht:TH t) (hC:MC [I u,I t.length]=some [I (clT t u)]) (hL:ML (Bh t++[I (clT t u)])=some [I (Bn t u)]) (hA:MA (Bo p++[I (Bn t u)])=some (ptR (atP p (Bn t u))))
  (hF:MF (Bh t++[I (clT t u)])=some [I (if t.pieces=[]then-1 else(iT t u:Int))]) (hM:∀{a:Axs} {q:Int},AxOK a->okB q->MM (Bd a++[I q])=some [I (HJ a q)]) (hD:∀{a:Axs} (v:Int),(0<=a.back/\a.back<=1000)->MD (Bd a++[I v])=some [I (H7 a v)])
  (h0:∀{a:Axs} {c:Pce} {u:Int},(0<=a.back/\a.back<=1000)->(0<=u-c.at_/\u-c.at_<=2000000000000000)->MS (Bd a++AM c++[I 0,I u])=some [I (FI a c.move c.at_ c.was.x c.dirs.x u)])
  (h1:∀{a:Axs} {c:Pce} {u:Int},(0<=a.back/\a.back<=1000)->(0<=u-c.at_/\u-c.at_<=2000000000000000)->MS (Bd a++AM c++[I (IntKind.i64.wrap (0+1)),I u])=some [I (FI a c.move c.at_ c.was.y c.dirs.y u)])
  (h2:∀{a:Axs} {c:Pce} {u:Int},(0<=a.back/\a.back<=1000)->(0<=u-c.at_/\u-c.at_<=2000000000000000)->MS (Bd a++AM c++[I (IntKind.i64.wrap (IntKind.i64.wrap (0+1)+1)),I u])=some [I (FI a c.move c.at_ c.was.z c.dirs.z u)]):
  Qgz MS MD MM MF MA ML MC (Bo p++AJ x++Bh t++[I u])=some (ptR (Hk p x t u)):=by
 have he:=Q72 MS MD MM MF MA ML MC u p x t
 refine Eq.trans he ?_
 obtain⟨o1,o2,o3⟩:=Zma hp (Bn t u)
 have m1:=hM hx.a o1
 have m2:=hM hx.b o2
 have m3:=hM hx.c o3
 have b1:=Xz hx.a o1
 have b2:=Xz hx.b o2
 have b3:=Xz hx.c o3
 have s1:=T6 hx.ok.a ht u Pt.x
 have s2:=T6 hx.ok.b ht u Pt.y
 have s3:=T6 hx.ok.c ht u Pt.z
 unfold Hk Sz
 generalize HJ x.a (atP p (Bn t u)).x=q1 at*
 generalize HJ x.b (atP p (Bn t u)).y=q2 at*
 generalize HJ x.c (atP p (Bn t u)).z=q3 at*
 have w1:IntKind.i64.wrap (q1+shT x.a t u Pt.x)=q1+shT x.a t u Pt.x:=Ae (by omega)
 have w2:IntKind.i64.wrap (q2+shT x.b t u Pt.y)=q2+shT x.b t u Pt.y:=Ae (by omega)
 have w3:IntKind.i64.wrap (q3+shT x.c t u Pt.z)=q3+shT x.c t u Pt.z:=Ae (by omega)
 by_cases c:t.pieces=[]
 ·have d1:=hD t.dirs.x hx.ok.a
  have d2:=hD t.dirs.y hx.ok.b
  have d3:=hD t.dirs.z hx.ok.c
  unfold shT at*
  rw[if_pos c]at hF
  simp only[if_pos c]at w1 w2 w3⊢
  simp only[Bo,Bh,Bd,List.cons_append,List.nil_append]at hL hA hF d1 d2 d3 m1 m2 m3
  simp only[hC,hL,hA,hF,go_sem,m1,m2,m3,d1,d2,d3,w1,w2,w3]
  rw[if_pos (by omega),if_pos (by omega),if_pos (by omega)]
 ·have hi:=Ng ht.q u c
  have hcnt:=ht.q.count
  have hat:=(Qrj ht.q ht.at1 ht.at0 u c).1
  have hcl:=O2 ht.q u
  have hlen:=ht.q.len
  have hpos:=ht.q.pos _ hi
  have hin:(0:Int)<=(iT t u:Int)/\(iT t u:Int)<(t.pieces.length:Int):=by omega
  have hneg: ¬((iT t u:Int)<0):=by omega
  have d1:=h0 (c:=pcA t.pieces (iT t u)) (u:=clT t u) hx.ok.a (by omega)
  have d2:=h1 (c:=pcA t.pieces (iT t u)) (u:=clT t u) hx.ok.b (by omega)
  have d3:=h2 (c:=pcA t.pieces (iT t u)) (u:=clT t u) hx.ok.c (by omega)
  unfold shT at*
  rw[if_neg c]at hF
  simp only[if_neg c]at w1 w2 w3⊢
  simp only[Bo,Bh,Bd,AM,List.cons_append,List.nil_append]at hL hA hF d1 d2 d3 m1 m2 m3
  simp only[hC,hL,hA,hF,go_sem,m1,m2,m3,List.length_map,if_pos hin,Int.toNat_natCast,Qs hi,if_neg hneg,d1,d2,d3,w1,w2,w3]
theorem Zam {p:Pth} {x:Ax3} {t:Trk} (hp:GoodPath p) (hx:Ax3M x) (ht:TH t) (u:Int):En (Bo p++AJ x++Bh t++[I u])=some (ptR (Hk p x t u)):=by
 have hs:=Qye ht.q u
 have hpl:=QX ht.q (clT t u)
 rw[Q9u ht.q]at hpl
 exact Zjv hp hx ht Xb hpl (Zz7 hp (by unfold i64;omega)) (Qop ht.q u) (fun h1 h2=>Zpp h1 h2) (fun v hb=>Rp hb v) (fun hb hu=>Zhe (Rp hb) hb hu) (fun hb hu=>Zz8 (Rp hb) hb hu) (fun hb hu=>Zfk (Rp hb) hb hu)
end Go.Bm
/- the law TrackMotors, over the models -/
set_option maxRecDepth 100000
namespace Go.Bm
open Classical

theorem Qou {x:Ax3} {mv:Int} {Q:Int->Pt->Prop} {a s:Int} {d:Pt} {l:List Pce} (h:EQ x mv Q a s d l) (hne:l≠[]):(pcA l 0).at_=a:=by
 cases l with
 |nil=>exact absurd rfl hne
 |cons c l=>rw[J3];exact h.1
theorem Q4z {x:Ax3} {mv:Int} {Q:Int->Pt->Prop}:∀{a s:Int} {d:Pt} {l:List Pce},EQ x mv Q a s d l->∀i,i+1<l.length->(pcA l (i+1)).at_=eI l i
 |a,s,d,[],h,i,hi=>by simp at hi
 |a,s,d,c::l,h,0,hi=>by
  obtain⟨h1,h2,h3,h4,h5⟩:=h
  unfold eI
  rw[HC,J3,Qou h5 (fun e=>by rw[e]at hi;simp at hi),h1]
 |a,s,d,c::l,h,i+1,hi=>by
  obtain⟨h1,h2,h3,h4,h5⟩:=h
  have:=Q4z h5 i (by simpa using hi)
  unfold eI at*
  rw[HC,HC];exact this
theorem Zkn {p:Pth} {x:Ax3} (d:Pt) (a b:Int) (hx:Ax3OK x) (hp:GoodPath p):TH (Eo p x d a b):=by
 obtain⟨d',h1,h2,-⟩:=Q44 (d:=d) (a:=a) (b:=b) (Q:=fun _ _=>True) hx hp (fun _ _ _ _ _ _ _ _=>trivial)
 exact⟨Zzf d a b hx hp,Qou h1.ch,Q4z h1.ch⟩
end Go.Bm
/- the law TrackWhere: the first track position at a path position -/
set_option maxRecDepth 100000
namespace Go.Bm
open Classical

def wF (z:Int):List Pce->Int
 |[]=> -1
 |c::l=>if c.move≠0/\0<=(z-c.s)*c.move/\(z-c.s)*c.move<=c.units then c.at_+(z-c.s)*c.move else wF z l
def IC (t:Trk) (z:Int):Int:=if z=t.start then 0 else wF z t.pieces
theorem Qtt {t:Trk} (h:TQ t) {z:Int} (hz:i64 z):∀(k j:Nat),j+k=t.pieces.length->wF z (t.pieces.drop j)= -1/\An PS [I z, .view Aq (t.pieces.map AM),I t.pieces.length,I j]=some (2,[])\/
  An PS [I z, .view Aq (t.pieces.map AM),I t.pieces.length,I j]=some (1,[I (wF z (t.pieces.drop j))])
 |0,j,hj=>by
  left
  rw[List.drop_of_length_le (by omega)]
  refine⟨rfl,A7 (o:=(2,_)) ?_ (by simp)⟩
  rw[Qs5,AW (by omega)]
 |k+1,j,hj=>by
  have hlt:j<t.pieces.length:=by omega
  have hcnt:=h.count
  have hin:(0:Int)<=(j:Int)/\(j:Int)<(t.pieces.length:Int):=by omega
  have hpos:=h.pos j hlt
  have hl:=h.len
  have hs:=h.s j hlt
  have hmv:=h.move j hlt
  have e:t.pieces.drop j=pcA t.pieces j::t.pieces.drop (j+1):=by
   have e1:pcA t.pieces j=t.pieces[j]:=by unfold pcA;simp[hlt]
   rw[e1];exact NK _ _ hlt
  have hst:PS [I z, .view Aq (t.pieces.map AM),I t.pieces.length,I j]=if(pcA t.pieces j).move≠0/\0<=(z-(pcA t.pieces j).s)*(pcA t.pieces j).move/\(z-(pcA t.pieces j).s)*(pcA t.pieces j).move<=(pcA t.pieces j).units then
    some (1,[I ((pcA t.pieces j).at_+(z-(pcA t.pieces j).s)*(pcA t.pieces j).move)])else some (0,[I z, .view Aq (t.pieces.map AM),I t.pieces.length,I (j+1:Nat)]):=by
   rw[Qs5]
   simp only[go_sem,List.length_map,Int.toNat_natCast,Qs hlt,if_pos hin,Ae (x:=(j:Int)+1) (by omega)]
   rw[if_pos (by omega)]
   unfold eI at hpos
   unfold i64 at hz
   generalize pcA t.pieces j=c at*
   have wrap2:∀y:Int,-9223372036854775808-2000000000000000<=y->y<=9223372036854775807+2000000000000000->(IntKind.i64.wrap y=y/\ -9223372036854775808<=y/\y<=9223372036854775807)\/(IntKind.i64.wrap y=y+18446744073709551616/\y< -9223372036854775808)\/(IntKind.i64.wrap y=y-18446744073709551616/\y>9223372036854775807):=by
    intro y y1 y2
    have hw:=Zb2 y
    unfold i64 at hw
    by_cases c1: -9223372036854775808<=y/\y<=9223372036854775807
    ·exact .inl ⟨Ae c1,c1⟩
    ·have:=Qno y
     omega
   by_cases c0:c.move=0
   ·have hP: ¬(c.move≠0/\0<=(z-c.s)*c.move/\(z-c.s)*c.move<=c.units):=fun g=>g.1 c0
    rw[if_neg (by omega),if_neg hP];rfl
   ·rw[if_pos c0]
    have hm:c.move=1\/c.move= -1:=by omega
    have a1:=wrap2 (z-c.s) (by omega) (by omega)
    have hw2:IntKind.i64.wrap (IntKind.i64.wrap (z-c.s)*c.move)=(z-c.s)*c.move\/((IntKind.i64.wrap (IntKind.i64.wrap (z-c.s)*c.move)<0\/IntKind.i64.wrap (IntKind.i64.wrap (z-c.s)*c.move)>1000000000000000)/\((z-c.s)*c.move<0\/(z-c.s)*c.move>1000000000000000)):=by
     generalize IntKind.i64.wrap (z-c.s)=y at*
     have a2:=wrap2 (y*c.move) (by rcases hm with hm|hm<;>rw[hm]<;>omega) (by rcases hm with hm|hm<;>rw[hm]<;>omega)
     rcases hm with hm|hm<;>rw[hm]at a2⊢<;>omega
    generalize IntKind.i64.wrap (IntKind.i64.wrap (z-c.s)*c.move)=n at*
    by_cases c1:0<=(z-c.s)*c.move/\(z-c.s)*c.move<=c.units
    ·have en:n=(z-c.s)*c.move:=by omega
     have hP:c.move≠0/\0<=(z-c.s)*c.move/\(z-c.s)*c.move<=c.units:=⟨c0,c1⟩
     rw[if_pos hP,en,if_pos c1.1,if_pos c1.2,Ae (by omega)]
    ·have hP: ¬(c.move≠0/\0<=(z-c.s)*c.move/\(z-c.s)*c.move<=c.units):=fun g=>c1 g.2
     rw[if_neg hP]
     by_cases c2:0<=n
     ·rw[if_pos c2,if_neg (by omega)];rfl
     ·rw[if_neg c2];rfl
  rw[e]
  by_cases c:(pcA t.pieces j).move≠0/\0<=(z-(pcA t.pieces j).s)*(pcA t.pieces j).move/\(z-(pcA t.pieces j).s)*(pcA t.pieces j).move<=(pcA t.pieces j).units
  ·rw[if_pos c]at hst
   right
   rw[A7 hst (by simp)]
   unfold wF;rw[if_pos c]
  ·rw[if_neg c]at hst
   rw[Bt hst]
   unfold wF;rw[if_neg c]
   exact Qtt h hz k (j+1) (by omega)
theorem Zha {t:Trk} (h:TQ t) {z:Int} (hz:i64 z):NU (Bh t++[I z])=some [I (IC t z)]:=by
 have he:=Zkm Li (t.pieces.map AM) t.length t.start t.dirs.x t.dirs.y t.dirs.z z
 unfold NU
 refine Eq.trans he ?_
 unfold IC
 rw[List.length_map]
 by_cases c:z=t.start
 ·rw[if_pos c,Bz (by simp[c])]
 ·rw[if_neg c,Bl (by simp[c])]
  rcases Qtt h hz t.pieces.length 0 (by omega)with⟨h1,h2⟩|h2
  ·rw[List.drop_zero]at h1
   have h2':Li [I z, .view Aq (t.pieces.map AM),I t.pieces.length,I 0]=some (2,[]):=h2
   generalize Li=N at*
   rw[h1]
   simp only[h2',go_sem]
   rfl
  ·rw[List.drop_zero]at h2
   have h2':Li [I z, .view Aq (t.pieces.map AM),I t.pieces.length,I 0]=some (1,[I (wF z t.pieces)]):=h2
   generalize Li=N at*
   simp only[h2',go_sem]
end Go.Bm
/- limits and the planner's choice always answer -/
set_option maxRecDepth 100000
namespace Go.Bm

theorem Zf4 (l:Rw) (h:l.length<=100000):Out (fun o=>(wA o 0).length<=l.length) (PC [.view Aa l]):=by
 show Out _ (Qbf (An UX) [.view Aa l])
 rw[Zmf]
 refine .bind (p:=fun o=>o.1=1/\(wA o.2 0).length<=l.length) ?_ fun o g=>by rw[g.1];exact .some g.2
 refine CI (fun s:Rw×Nat=>[.view Aa s.1, .view Aa l,I (s.2:Int)]) (fun s=>1<=s.2/\s.2<=l.length+1/\s.1.length+1<=s.2) (fun s=>l.length+1-s.2) _ ?_ ([],1) (by simp)
 rintro⟨v,i⟩ ⟨g1,g2,g3⟩
 dsimp only at*
 rw[Zzs]
 rw[Ae (x:=(i:Int)-1) (by omega),Ae (x:=(i:Int)+1) (by omega)]
 refine .cond (fun c=> ?_) (fun c=> ?_)
 ·have c:=BA c
  refine .cond (fun _=> ?_) fun c=>by simp at c;omega
  refine .cond (fun _=> ?_) fun c=>by simp at c;omega
  refine .cond (fun _=> ?_) fun c=>by rw[CB (by simp;omega)]at c;cases c
  exact .some (.inl ⟨rfl,(_,i+1),rfl,by simp;omega,by simp;omega⟩)
 ·have c:=BD c
  exact .some (.inr ⟨by simp,rfl,by show v.length<=l.length;omega⟩)
theorem Ztt (l:Rw) (n:Int) (h:l.length<=100000):(OU [.view Aa l,I n]).isSome=true:=by
 show(Tq (An V9) [.view Aa l,I n]).isSome=true
 rw[Zi3]
 refine Out.is (p:=fun _=>True) ?_
 refine .bind (p:=fun o=>o.1=1\/o.1=2) ?_ fun o g=>by rcases g with g|g<;>rw[g]<;>exact .some trivial
 refine CI (fun s:Nat=>[I n, .view Aa l,I (l.length:Int),I (s:Int)]) (fun s=>s<=l.length) (fun s=>l.length-s) _ ?_ 0 (by simp)
 intro i g
 rw[Zcp]
 rw[Ae (x:=(i:Int)+1) (by omega)]
 refine .cond (fun c=> ?_) (fun c=> ?_)
 ·have c:=BA c
  refine .cond (fun _=> ?_) fun c=>by simp at c;omega
  refine .cond (fun _=> .some (.inr ⟨by simp, .inl rfl⟩)) fun _=> .cond (fun _=> .some (.inr ⟨by simp, .inl rfl⟩)) fun _=> ?_
  exact .some (.inl ⟨rfl,i+1,rfl,by omega,by omega⟩)
 ·exact .some (.inr ⟨by simp, .inr rfl⟩)
theorem Z0l {MB MD:Fn} (hD:∀l:Rw,l.length<=100000->Out (fun o=>(wA o 0).length<=l.length) (MD [.view Aa l])) (hB:∀(l:Rw) n,l.length<=100000->(MB [.view Aa l,I n]).isSome=true)
  (x0 x1 x2 x3 x4 x5 x6 x7 x8:Int) (x9 l:Rw) (h:l.length<=100000):(Qc2 MB MD [I x0,I x1,I x2,I x3,I x4,I x5,I x6,I x7,I x8, .view Aa x9, .view Aa l]).isSome=true:=by
 rw[Zmq]
 obtain⟨a,ha,ga⟩:=hD l h
 rw[ha]
 simp only[Option.bind_some]
 generalize wA a 0=la at*
 obtain⟨b,hb,gb⟩:=hD la (by omega)
 rw[hb]
 simp only[Option.bind_some]
 generalize wA b 0=lb at*
 obtain⟨c,hc,gc⟩:=hD lb (by omega)
 rw[hc]
 simp only[Option.bind_some]
 generalize wA c 0=lc at*
 refine EO (hB _ _ (by omega)) fun _ _=>BL (fun _=>rfl) fun _=>EO (hB _ _ (by omega)) fun _ _=>BL (fun _=>rfl) fun _=>EO (hB _ _ (by omega)) fun _ _=>BL (fun _=>rfl) fun _=>rfl
theorem Zdp (x0 x1 x2 x3 x4 x5 x6 x7 x8:Int) (x9 l:Rw) (h:l.length<=100000):(KP [I x0,I x1,I x2,I x3,I x4,I x5,I x6,I x7,I x8, .view Aa x9, .view Aa l]).isSome=true:=Z0l Zf4 Ztt x0 x1 x2 x3 x4 x5 x6 x7 x8 x9 l h

theorem Zyb {M:Fn} {x:Ax3} {k:Int} (hk:0<=k/\k<=2) {l out:Rw} (h0:out.length=l.length) (h1:l.length<=100000):
  Out (fun o=>o.1=1/\∃v:Rw,o.2= .view Aa v:: .view kPt l::I k::I k::AJ x/\v.length=l.length) (An (KR M) (.view Aa out:: .view kPt l::I k::I k::I (l.length:Int)::I 0::AJ x)):=by
 refine CI (fun s:Rw×Nat=> .view Aa s.1:: .view kPt l::I k::I k::I (l.length:Int)::I (s.2:Int)::AJ x) (fun s=>s.1.length=l.length/\s.2<=l.length) (fun s=>l.length-s.2) _ ?_ (out,0) ⟨h0,by simp⟩
 rintro⟨v,i⟩ ⟨g1,g2⟩
 dsimp only at*
 rw[Zh5]
 rw[Ae (x:=(i:Int)+1) (by omega)]
 refine .cond (fun c=> ?_) (fun c=> ?_)
 ·have c:=BA c
  refine .cond (fun _=> ?_) fun c=>by simp at c;omega
  refine .cond (fun _=> ?_) fun c0=> .cond (fun _=> ?_) fun c1=> .cond (fun _=> ?_) fun c2=> ?_
  ·refine .cond (fun _=> ?_) fun c=>by simp at c;omega
   exact .some (.inl ⟨rfl,(_,i+1),rfl,by simp;omega,by simp;omega⟩)
  ·refine .cond (fun _=> ?_) fun c=>by simp at c;omega
   exact .some (.inl ⟨rfl,(_,i+1),rfl,by simp;omega,by simp;omega⟩)
  ·refine .cond (fun _=> ?_) fun c=>by simp at c;omega
   exact .some (.inl ⟨rfl,(_,i+1),rfl,by simp;omega,by simp;omega⟩)
  ·have c0:=BD c0;have c1:=BD c1;have c2:=BD c2
   simp at c0 c1 c2
   omega
 ·exact .some (.inr ⟨by simp,rfl,v,rfl,g1⟩)
theorem Zpd {M:Fn} (hM:∀(x0 x1 x2 x3 x4 x5 x6 x7 x8:Int) (x9 l:Rw),l.length<=100000->(M [I x0,I x1,I x2,I x3,I x4,I x5,I x6,I x7,I x8, .view Aa x9, .view Aa l]).isSome=true) (x:Ax3) {l:Rw} (h1:l.length<=100000):
  (SB M (An (KR M)) (An (SV M (An (KR M)))) (AJ x++[.view kPt l])).isSome=true:=by
 show(SB M (An (KR M)) (An (SV M (An (KR M)))) [I x.a.step,I x.a.speed,I x.a.accel,I x.a.jerk,I x.a.low,I x.a.high,I x.a.back,I x.a.origin,I x.a.spacing, .view Aa (x.a.pitch.map At),I x.b.step,I x.b.speed,I x.b.accel,I x.b.jerk,I x.b.low,I x.b.high,I x.b.back,I x.b.origin,I x.b.spacing, .view Aa (x.b.pitch.map At),I x.c.step,I x.c.speed,I x.c.accel,I x.c.jerk,I x.c.low,I x.c.high,I x.c.back,I x.c.origin,I x.c.spacing, .view Aa (x.c.pitch.map At), .view kPt l]).isSome=true
 rw[Zpe]
 refine Out.is (p:=fun _=>True) ?_
 refine .bind (p:=fun o=>o.1=1\/o.1=2) ?_ fun o g=>by rcases g with g|g<;>rw[g]<;>exact .some trivial
 refine CI (fun s:Nat=> .view kPt l::I (s:Int)::AJ x) (fun s=>s<=3) (fun s=>3-s) _ ?_ 0 (by omega)
 intro k hk
 rw[Zk1]
 refine .cond (fun c=> ?_) (fun c=> ?_)
 ·have c:=BA c
  refine .cond (fun _=> ?_) fun c=>by simp at c
  refine .cond (fun _=> ?_) fun c=>by simp at c;omega
  refine .bind (Zyb (M:=M) (x:=x) (k:=(k:Int)) (by omega) (by simp) h1) fun o g=> ?_
  obtain⟨g1,v,g2,g3⟩:=g
  obtain⟨o1,o2⟩:=o
  subst g1
  subst g2
  refine .cond (fun _=> ?_) fun c=>by simp at c
  have e:IntKind.i64.wrap ((k:Int)+1)=((k+1:Nat):Int):=by rw[Ae (by omega)];rfl
  have hw:∀(x0 x1 x2 x3 x4 x5 x6 x7 x8:Int) (x9:Rw),(M [I x0,I x1,I x2,I x3,I x4,I x5,I x6,I x7,I x8, .view Aa x9, .view Aa v]).isSome=true:=fun x0 x1 x2 x3 x4 x5 x6 x7 x8 x9=>hM x0 x1 x2 x3 x4 x5 x6 x7 x8 x9 v (by omega)
  refine .cond (fun _=> ?_) fun c0=> .cond (fun _=> ?_) fun c1=> .cond (fun _=> ?_) fun c2=> ?_
  ·refine .ibind (hw _ _ _ _ _ _ _ _ _ _) fun _ _=> .cond (fun _=> .some (.inr ⟨by simp, .inl rfl⟩)) fun _=> .some (.inl ⟨rfl,k+1,?_,by omega,by omega⟩)
   simp only[gA,wA,bA,jA,nth,Af,Br,e]
  ·refine .ibind (hw _ _ _ _ _ _ _ _ _ _) fun _ _=> .cond (fun _=> .some (.inr ⟨by simp, .inl rfl⟩)) fun _=> .some (.inl ⟨rfl,k+1,?_,by omega,by omega⟩)
   simp only[gA,wA,bA,jA,nth,Af,Br,e]
  ·refine .ibind (hw _ _ _ _ _ _ _ _ _ _) fun _ _=> .cond (fun _=> .some (.inr ⟨by simp, .inl rfl⟩)) fun _=> .some (.inl ⟨rfl,k+1,?_,by omega,by omega⟩)
   simp only[gA,wA,bA,jA,nth,Af,Br,e]
  ·have c0:=BD c0;have c1:=BD c1;have c2:=BD c2
   simp[gA,wA,bA,jA,nth,Af]at c0 c1 c2
   omega
 ·exact .some (.inr ⟨by simp, .inr rfl⟩)
theorem Zoa (x:Ax3) {l:Rw} (h1:l.length<=100000):(Mv (AJ x++[.view kPt l])).isSome=true:=Zpd Zdp x h1
theorem Q1u (u:Int):(It [I u]).isSome=true:=by
 show(Qg6 [I u]).isSome=true
 rw[Zzz]
 exact BL (fun _=>rfl) fun _=>rfl
end Go.Bm
/- the planner's choice always answers -/
set_option maxRecDepth 100000
namespace Go.Bm

structure Fix (p : Pth) (x : Ax3) (t : Trk) : Prop where
 p:GoodPath p
 x:Ax3M x
 t:TH t
theorem R8 {p:Pth} {x:Ax3} {t:Trk} (h:Fix p x t) (u:Int):En (pxt p x t [I u])=some (ptR (Hk p x t u)):=Zam h.p h.x h.t u

theorem Zcw {MA MM MU:Fn} {p:Pth} {x:Ax3} {t:Trk} (hA:∀{l:Rw},l.length<=100000->(MA (AJ x++[.view kPt l])).isSome=true) (hM:∀u,(MM (pxt p x t [I u])).isSome=true) (hU:∀u,(MU [I u]).isSome=true) {way:Rw} (hw:way.length<=100000):
  (Qfu MA MM MU (An (Zg MA MM MU)) (pxt p x t [.view Aa way])).isSome=true:=by
 rw[Zbl]
 refine Out.is (p:=fun _=>True) ?_
 refine .bind (p:=fun o=>o.1=1\/o.1=2) ?_ fun o g=>by rcases g with g|g<;>rw[g]<;>exact .some trivial
 refine CI (fun s:Rw×Nat=> .view kPt s.1:: .view Aa way::I (way.length:Int)::I (s.2:Int)::pxt p x t []) (fun s=>s.1.length<=4/\s.2<=way.length) (fun s=>way.length-s.2) _ ?_ ([],0) (by simp)
 rintro⟨v,i⟩ ⟨g1,g2⟩
 dsimp only at g1 g2
 rw[Z0f]
 try dsimp only[g_s_planner_smooth_3_1]
 rw[Ae (x:=(i:Int)+1) (by omega)]
 refine .cond (fun c=> ?_) (fun c=> ?_)
 ·have c:=BA c
  refine .cond (fun _=> ?_) fun c=>by simp at c;omega
  refine .ibind (hU _) fun a _=> .ibind (hM _) fun b _=> ?_
  refine .cond (fun _=> ?_) fun c=>by rw[CB (by simp;omega)]at c;cases c
  generalize [jA b 0,jA b 1,jA b 2]=q
  refine .cond (fun _=> ?_) fun c4=> ?_
  ·refine .cond (fun _=> ?_) fun c=>by simp at c;omega
   refine .cond (fun _=> ?_) fun c=>by rw[CB (by simp)]at c;cases c
   refine .ibind (hA (l:=List.drop (Int.toNat 1) (v++[q])) (by simp;omega)) fun _ _=> .cond (fun _=> .some (.inr ⟨by simp, .inl rfl⟩)) fun _=> ?_
   exact .some (.inl ⟨rfl,(_,i+1),rfl,by simp;omega,by simp;omega⟩)
  ·have c4:=BD c4
   simp at c4
   refine .ibind (hA (l:=v++[q]) (by simp;omega)) fun _ _=> .cond (fun _=> .some (.inr ⟨by simp, .inl rfl⟩)) fun _=> ?_
   exact .some (.inl ⟨rfl,(_,i+1),rfl,by simp;omega,by simp;omega⟩)
 ·exact .some (.inr ⟨by simp, .inr rfl⟩)
theorem Zbo {p:Pth} {x:Ax3} {t:Trk} (h:Fix p x t) {way:Rw} (hw:way.length<=100000):(Ox (pxt p x t [.view Aa way])).isSome=true:=
 Zcw (Zoa x) (fun u=>by rw[R8 h u];rfl) Q1u hw

theorem Zyj (x0 x1:Int) (b0 b1 b2:Bool) (x5 x6 x7 x8 x9 x10 x11 x12 x13 x14:Int):(PW [I x0,I x1,B b0,B b1,B b2,I x5,I x6,I x7,I x8,I x9,I x10,I x11,I x12,I x13,I x14]).isSome=true:=by
 show(Qmd [I x0,I x1,B b0,B b1,B b2,I x5,I x6,I x7,I x8,I x9,I x10,I x11,I x12,I x13,I x14]).isSome=true
 rw[Zm8]
 repeat' first|exact rfl|refine BL (fun _=> ?_) (fun _=> ?_)
theorem Qes {p:Pth} {x:Ax3} {t:Trk} (h:Fix p x t) (u:Int):i64 (Bn t u):=by
 have:=Qye h.t.q u
 unfold i64
 omega
end Go.Bm
/- the planner's choice always answers: the greatest speed, the candidates -/
set_option maxRecDepth 100000
namespace Go.Bm

theorem Qbh:∀(l:List Sgm) (s:Int),l≠[]->(A9 l s).1<l.length
 |[],_,h=>absurd rfl h
 |[g],s,_=>by unfold A9;split<;>simp
 |g::h::l,s,_=>by
  by_cases c:s<g.len
  ·rw[A9,if_pos c];simp
  ·rw[Quq c];have:=Qbh (h::l) (s-g.len) (by simp);simp at this⊢;omega
theorem Zw1 {p:Pth} {x:Ax3} {t:Trk} (h:Fix p x t) {s:Int} (hs:i64 s):∃i v:Int,Eg (Bo p++[I s])=some [I i,I v]/\(i= -1\/0<=i/\i<p.segs.length)/\(p.segs≠[]->0<=i):=by
 rw[Qm3 (h.p.ok) hs]
 by_cases c:p.segs=[]
 ·rw[if_pos c];exact⟨-1,0,rfl, .inl rfl,fun h=>absurd c h⟩
 ·rw[if_neg c]
  have:=Qbh p.segs (max s 0) c
  exact⟨_,_,rfl, .inr ⟨by omega,by omega⟩,fun _=>by omega⟩
theorem Zp2 {MO MF MP MU:Fn} {p:Pth} {t:Trk} (hO:∀(x0 x1:Int) (b0 b1 b2:Bool) (x5 x6 x7 x8 x9 x10 x11 x12 x13 x14:Int),(MO [I x0,I x1,B b0,B b1,B b2,I x5,I x6,I x7,I x8,I x9,I x10,I x11,I x12,I x13,I x14]).isSome=true)
  (hF:∀s,i64 s->∃i v:Int,MF (Bo p++[I s])=some [I i,I v]/\(i= -1\/0<=i/\i<p.segs.length)/\(p.segs≠[]->0<=i)) (hP:∀u,∃s,MP (Bh t++[I u])=some [I s]/\i64 s) (hU:∀u,(MU [I u]).isSome=true) (hne:p.segs≠[])
  (a b c o0 o1:Int) (b0 b1 b2:Bool) (u:Int):
  (ZY MO MF MP MU (EZ p t [I a,I b,I c,I o0,I o1,B b0,B b1,B b2,I u])).isSome=true:=by
 rw[Ze1]
 refine EO (hU _) fun q _=> ?_
 obtain⟨s,h1,h2⟩:=hP (gA q 0)
 rw[h1]
 simp only[Option.bind_some]
 obtain⟨i,v,g1,g2,g3⟩:=hF s h2
 simp only[gA,wA,bA,jA,nth,Af]
 rw[g1]
 simp only[Option.bind_some,gA,wA,bA,jA,nth,Af]
 have g3:=g3 hne
 refine BL (fun _=>EO (hO _ _ _ _ _ _ _ _ _ _ _ _ _ _ _) fun _ _=>rfl) fun c=> ?_
 simp at c
 have:=c (decide_eq_true g3)
 omega
theorem Zj0 {p:Pth} {x:Ax3} {t:Trk} (h:Fix p x t) (hne:p.segs≠[]) (a b c o0 o1:Int) (b0 b1 b2:Bool) (u:Int):
  (LU (EZ p t [I a,I b,I c,I o0,I o1,B b0,B b1,B b2,I u])).isSome=true:=
 Zp2 Zyj (fun _ hs=>Zw1 h hs) (fun u=>⟨_,QX h.t.q u,Qes h u⟩) Q1u hne a b c o0 o1 b0 b1 b2 u
theorem Zxx {MT MF:Fn} {p:Pth} {t:Trk} {a b c o0 o1:Int} {b0 b1 b2:Bool} (hT:p.segs≠[]->∀u,(MT (EZ p t [I a,I b,I c,I o0,I o1,B b0,B b1,B b2,I u])).isSome=true)
  (hF:∀a b c x3 x4 x5 x6 x7 x8,Out (fun o=>(wA o 0).length<=4096) (MF [I a,I b,I c,I x3,I x4,I x5,I x6,I x7,I x8])) (m0 m1 m2 m3 m4 m5:Int):
  (UR MT MF (An (ZB MT MF)) (EZ p t [I a,I b,I c,I o0,I o1,B b0,B b1,B b2,I m0,I m1,I m2,I m3,I m4,I m5])).isSome=true:=by
 rw[Zcm]
 obtain⟨o,h1,h2⟩:=hF a b c m0 m1 m2 m3 m4 m5
 rw[h1]
 simp only[Option.bind_some]
 generalize wA o 0=sp at*
 refine BL (fun _=>rfl) fun _=>BL (fun _=>rfl) fun c0=> ?_
 have hne:p.segs≠[]:=by
  intro e;rw[e]at c0;simp at c0
 have hT:=hT hne
 refine EO (hT _) fun _ _=>BL (fun _=>rfl) fun _=> ?_
 refine Out.is (p:=fun _=>True) ?_
 refine .bind (p:=fun o=>o.1=1\/o.1=2) ?_ fun o g=>by rcases g with g|g<;>rw[g]<;>exact .some trivial
 refine CI (fun s:Int×Nat=>I s.1:: .view Aa sp::I (sp.length:Int)::I (s.2:Int)::EZ p t [I a,I b,I c,I o0,I o1,B b0,B b1,B b2]) (fun s=>s.2<=sp.length) (fun s=>sp.length-s.2) _ ?_ (m0,0) (by simp)
 rintro⟨v,i⟩ g
 dsimp only at g
 rw[Q97]
 rw[Ae (x:=(i:Int)+1) (by omega)]
 refine .cond (fun c=> ?_) (fun c=> ?_)
 ·have c:=BA c
  refine .cond (fun _=> ?_) fun c=>by simp at c;omega
  refine .ibind (hT _) fun _ _=> .cond (fun _=> .some (.inr ⟨by simp, .inl rfl⟩)) fun _=> ?_
  exact .some (.inl ⟨rfl,(_,i+1),rfl,by dsimp only;omega,by dsimp only;omega⟩)
 ·exact .some (.inr ⟨by simp, .inr rfl⟩)
theorem Zus {p:Pth} {x:Ax3} {t:Trk} (h:Fix p x t) (a b c o0 o1:Int) (b0 b1 b2:Bool) (m0 m1 m2 m3 m4 m5:Int):
  (NI (EZ p t [I a,I b,I c,I o0,I o1,B b0,B b1,B b2,I m0,I m1,I m2,I m3,I m4,I m5])).isSome=true:=
 Zxx (fun hne u=>Zj0 h hne a b c o0 o1 b0 b1 b2 u) Qfb m0 m1 m2 m3 m4 m5

theorem Znj {j:Int} (hj:0<=j/\j<=65536):Out (fun o=>o.1=1/\(wA o.2 0).length<=65536) (An PR [.view Aa [],I j]):=by
 refine CI (fun s:Rw×Int=>[.view Aa s.1,I s.2]) (fun s=>0<=s.2/\s.1.length+s.2<=65536) (fun s=>s.2.toNat) _ ?_ ([],j) (by simp;omega)
 rintro⟨v,k⟩ ⟨g1,g2⟩
 dsimp only at g1 g2
 rw[Zp8,Int.tdiv_eq_ediv_of_nonneg g1,Ae (x:=k/2) (by omega)]
 refine .cond (fun c=> ?_) (fun c=> ?_)
 ·have c:=BA c
  refine .cond (fun _=> ?_) fun c=>by rw[CB (by simp;omega)]at c;cases c
  exact .some (.inl ⟨rfl,(_,_),rfl,⟨by dsimp only;omega,by simp;omega⟩,by dsimp only;omega⟩)
 ·exact .some (.inr ⟨by simp,rfl,by show v.length<=65536;omega⟩)
theorem Zow {N:Lp} {up out:Rw} (h1:up.length<=65536) (h2:out.length=up.length+1):Out (fun o=>o.1=1/\(wA o.2 0).length<=140000) (An (Rf N) [.view Aa up, .view Aa out,I ((up.length:Int)-1)]):=by
 refine CI (fun s:Rw×Int=>[.view Aa up, .view Aa s.1,I s.2]) (fun s=> -1<=s.2/\s.2<up.length/\s.1.length+s.2<=2*up.length) (fun s=>(s.2+1).toNat) _ ?_ (out,(up.length:Int)-1) (by simp;omega)
 rintro⟨v,k⟩ ⟨g1,g2,g3⟩
 dsimp only at g1 g2 g3
 rw[Zvu,Ae (x:=k-1) (by omega)]
 refine .cond (fun c=> ?_) (fun c=> ?_)
 ·have c:=BA c
  refine .cond (fun _=> ?_) fun c=>by simp at c;omega
  refine .cond (fun _=> ?_) fun c=>by rw[CB (by simp;omega)]at c;cases c
  exact .some (.inl ⟨rfl,(_,_),rfl,⟨by dsimp only;omega,by dsimp only;omega,by simp;omega⟩,by dsimp only;omega⟩)
 ·have c:=BD c
  exact .some (.inr ⟨by simp,rfl,by show v.length<=140000;omega⟩)
theorem Q65 {j:Int} (hj:0<=j/\j<=65536):Out (fun o=>(wA o 0).length<=140000) (Mw [I j]):=by
 show Out _ (Qfk (An PR) (An (Rf (An PR))) [I j])
 rw[Zuq]
 refine .bind (Znj hj) fun o g=> ?_
 rw[g.1]
 generalize wA o.2 0=up at*
 refine .cond (fun _=> ?_) fun c=>by simp at c
 refine .cond (fun _=> ?_) fun c=>by rw[CB (by simp;omega)]at c;cases c
 refine .cond (fun _=> ?_) fun c=>by rw[CB (by simp;omega)]at c;cases c
 rw[Ae (x:=(up.length:Int)-1) (by omega)]
 refine .bind (Zow g.2 (by simp)) fun o g=> ?_
 rw[g.1]
 exact .some g.2

end Go.Bm
/- what the library's division of two words by one gives; a quotient of two words; a b / sqrt n -/
set_option maxRecDepth 100000
namespace Go.Bm

theorem Q6y {a b v u q r:Nat} (hU:v<a*4294967296+b) (hu:u<4294967296) (hq:v=q*a+r) (h:4294967296<=q\/r*4294967296+u<q*b):(v*4294967296+u)/(a*4294967296+b)<q:=by
 have hy:0<a*4294967296+b:=by omega
 rw[Nat.div_lt_iff_lt_mul hy]
 rcases h with h|h
 ·have h1:4294967296*(a*4294967296+b)<=q*(a*4294967296+b):=Nat.mul_le_mul_right _ h
  omega
 ·have e:q*(a*4294967296+b)=q*a*4294967296+q*b:=by rw[Nat.mul_add,Nat.mul_assoc]
  rw[e]
  clear e
  generalize q*a=p at*
  generalize q*b=t at*
  subst hq
  rw[Nat.add_mul p r 4294967296,Nat.add_assoc]
  exact Nat.add_lt_add_left h _
theorem Qx9 {a b v u q r:Nat} (hU:v<a*4294967296+b) (hq:v=q*a+r) (h:q*b<=r*4294967296+u):q<=(v*4294967296+u)/(a*4294967296+b):=by
 have hy:0<a*4294967296+b:=by omega
 rw[Nat.le_div_iff_mul_le hy]
 have e:q*(a*4294967296+b)=q*a*4294967296+q*b:=by rw[Nat.mul_add,Nat.mul_assoc]
 rw[e]
 generalize q*a=p at*
 generalize q*b=t at*
 omega
theorem Qs6 {a b v u:Nat} (hU:v<a*4294967296+b) (hu:u<4294967296):(v*4294967296+u)/(a*4294967296+b)<4294967296:=by
 rw[Nat.div_lt_iff_lt_mul (by omega)]
 omega
theorem Qsb {q b:Nat} (hq:q<4294967296) (hb:b<4294967296):q*b<=18446744065119617025:=by
 have:=Nat.mul_le_mul (show q<=4294967295 by omega) (show b<=4294967295 by omega)
 omega
theorem T7 {α:Type} {F G:Nat->Nat->Option α} {a b v u Q:Nat} (hQ:(v*4294967296+u)/(a*4294967296+b)=Q) (hb:b<4294967296) (ha:2147483648<=a) (ha2:a<4294967296) (hU:v<a*4294967296+b) (hu:u<4294967296) {X:α}
  (hF:∀q r:Nat,q<=4294967297->r<4294967296->F q r=if 4294967296<=q\/r*4294967296+u<q*b then(if 4294967296<=r+a then G (q-1) 0 else F (q-1) (r+a))else G q 0)
  (hG:G Q 0=some X):∀(k q r:Nat),q<=Q+k->Q<=q->v=q*a+r->r<4294967296->q<=4294967297->F q r=some X
 |k,q,r,hk,h1,h2,h3,h4=>by
  rw[hF q r h4 h3]
  by_cases c:4294967296<=q\/r*4294967296+u<q*b
  ·rw[if_pos c]
   have h5:=Q6y hU hu h2 c
   rw[hQ]at h5
   have e:v=(q-1)*a+(r+a):=by
    have:(q-1)*a+a=q*a:=by rw[<-Nat.succ_mul];congr 1;omega
    omega
   by_cases c2:4294967296<=r+a
   ·rw[if_pos c2]
    have h6:(q-1)*b<=(r+a)*4294967296+u:=by
     have:=Nat.mul_le_mul (show q-1<=4294967296 by omega) (show b<=4294967296 by omega)
     omega
    have h7:=Qx9 hU e h6
    rw[hQ]at h7
    rw[show q-1=Q by omega]
    exact hG
   ·rw[if_neg c2]
    match k with
    |0=>omega
    |k+1=>exact T7 hQ hb ha ha2 hU hu hF hG k (q-1) (r+a) (by omega) (by omega) e (by omega) (by omega)
  ·rw[if_neg c]
   have h7:=Qx9 (u:=u) hU h2 (by omega)
   rw[hQ]at h7
   rw[show q=Q by omega]
   exact hG
theorem Qq9 {a b v u:Nat} (hb:b<4294967296) (ha:2147483648<=a) (hU:v<a*4294967296+b) (hu:u<4294967296):(v*4294967296+u)/(a*4294967296+b)<=v/a/\v/a<=4294967297/\v=v/a*a+v%a/\v%a<a:=by
 have e:v=v/a*a+v%a:=by have:=Nat.div_add_mod v a;rw[Nat.mul_comm]at this;omega
 have hm:v%a<a:=Nat.mod_lt _ (by omega)
 refine⟨?_,?_,e,hm⟩
 ·rw[<-Nat.lt_succ_iff,Nat.div_lt_iff_lt_mul (by omega)]
  have e2:(v/a).succ*(a*4294967296+b)=(v/a*a+a)*4294967296+(v/a).succ*b:=by rw[Nat.mul_add,<-Nat.mul_assoc,Nat.succ_mul]
  rw[e2]
  omega
 ·rw[<-Nat.lt_succ_iff,Nat.div_lt_iff_lt_mul (by omega)]
  omega
theorem wr {x:Nat} (h:x<=18446744073709551615):IntKind.u64.wrap (x:Int)=x:=G2 (by omega)
theorem Zwu {M:Fn} {y s v0:Int} {a b v u:Nat} (hb:b<4294967296) (ha:2147483648<=a) (ha2:a<4294967296) (hU:v<a*4294967296+b) (hu:u<4294967296):
  An (Kb M) [U y,U s,U a,U b,U v,U u,U v0,U ((v/a:Nat):Int),U ((v%a:Nat):Int)]=some (1,[U y,U s,U a,U b,U v,U u,U v0,U (((v*4294967296+u)/(a*4294967296+b):Nat):Int)]):=by
 obtain⟨f1,f2,f3,f4⟩:=Qq9 hb ha hU hu
 refine T7 (F:=fun q r=>An (Kb M) [U y,U s,U a,U b,U v,U u,U v0,U q,U r]) (G:=fun q _=>some (1,[U y,U s,U a,U b,U v,U u,U v0,U q])) rfl hb ha ha2 hU hu ?_ rfl (v/a) _ _ (Nat.le_add_left _ _) f1 f3 (by omega) f2
 intro q r hq hr
 have w1:IntKind.u64.wrap ((r:Int)+(a:Int))=((r+a:Nat):Int):=by rw[<-Int.natCast_add,wr (by omega)]
 have w3:IntKind.u64.wrap (IntKind.u64.wrap (4294967296*(r:Int))+(u:Int))=((r*4294967296+u:Nat):Int):=by rw[show(4294967296:Int)*r=((r*4294967296:Nat):Int) by omega,wr (by omega),<-Int.natCast_add,wr (by omega)]
 have w4:4294967296<=q->IntKind.u64.wrap ((q:Int)-1)=((q-1:Nat):Int):=fun h=>by rw[show(q:Int)-1=((q-1:Nat):Int) by omega,wr (by omega)]
 have hst:=Zzo (Dq:=M) y s a b v u v0 q r
 rw[w1,w3]at hst
 by_cases c1:4294967296<=q
 ·rw[Du (show(q:Int)>=4294967296 by omega),w4 c1]at hst
  show _=if _ then _ else _
  rw[if_pos (.inl c1)]
  by_cases c2:4294967296<=r+a
  ·rw[Du (show((r+a:Nat):Int)>=4294967296 by omega)]at hst
   rw[if_pos c2]
   exact A7 hst (by simp)
  ·rw[AW (show¬((r+a:Nat):Int)>=4294967296 by omega)]at hst
   rw[if_neg c2]
   exact Bt hst
 ·have hqb:=Qsb (q:=q) (b:=b) (by omega) hb
  rw[AW (show¬(q:Int)>=4294967296 by omega),<-Int.natCast_mul,wr (Nat.le_trans hqb (by decide))]at hst
  show _=if _ then _ else _
  by_cases c3:r*4294967296+u<q*b
  ·rw[Du (show((q*b:Nat):Int)>((r*4294967296+u:Nat):Int) by omega)]at hst
   rw[if_pos (.inr c3)]
   have hq0:0<q:=by
    rcases Nat.eq_zero_or_pos q with h|h
    ·rw[h]at c3;omega
    ·exact h
   rw[show(q:Int)-1=((q-1:Nat):Int) by omega,wr (by omega)]at hst
   by_cases c2:4294967296<=r+a
   ·rw[Du (show((r+a:Nat):Int)>=4294967296 by omega)]at hst
    rw[if_pos c2]
    exact A7 hst (by simp)
   ·rw[AW (show¬((r+a:Nat):Int)>=4294967296 by omega)]at hst
    rw[if_neg c2]
    exact Bt hst
  ·rw[AW (show¬((q*b:Nat):Int)>((r*4294967296+u:Nat):Int) by omega)]at hst
   rw[if_neg (fun h=>h.elim c1 c3)]
   exact A7 hst (by simp)
theorem Zu5 {M:Fn} {N:Lp} {y s q1 w:Int} {a b v u:Nat} (hb:b<4294967296) (ha:2147483648<=a) (ha2:a<4294967296) (hU:v<a*4294967296+b) (hu:u<4294967296):
  An (Pe M N) [U y,U s,U a,U b,U u,U q1,U ((v%a:Nat):Int),U w,U ((v/a:Nat):Int)]=some (1,[U y,U s,U u,U q1,U w,U (((v*4294967296+u)/(a*4294967296+b):Nat):Int)]):=by
 obtain⟨f1,f2,f3,f4⟩:=Qq9 hb ha hU hu
 refine T7 (F:=fun q r=>An (Pe M N) [U y,U s,U a,U b,U u,U q1,U r,U w,U q]) (G:=fun q _=>some (1,[U y,U s,U u,U q1,U w,U q])) rfl hb ha ha2 hU hu ?_ rfl (v/a) _ _ (Nat.le_add_left _ _) f1 f3 (by omega) f2
 intro q r hq hr
 have w1:IntKind.u64.wrap ((r:Int)+(a:Int))=((r+a:Nat):Int):=by rw[<-Int.natCast_add,wr (by omega)]
 have w3:IntKind.u64.wrap (IntKind.u64.wrap (4294967296*(r:Int))+(u:Int))=((r*4294967296+u:Nat):Int):=by rw[show(4294967296:Int)*r=((r*4294967296:Nat):Int) by omega,wr (by omega),<-Int.natCast_add,wr (by omega)]
 have w4:4294967296<=q->IntKind.u64.wrap ((q:Int)-1)=((q-1:Nat):Int):=fun h=>by rw[show(q:Int)-1=((q-1:Nat):Int) by omega,wr (by omega)]
 have hst:=Zfh (Dq:=M) (N17:=N) y s a b u q1 r w q
 rw[w1,w3]at hst
 by_cases c1:4294967296<=q
 ·rw[Du (show(q:Int)>=4294967296 by omega),w4 c1]at hst
  show _=if _ then _ else _
  rw[if_pos (.inl c1)]
  by_cases c2:4294967296<=r+a
  ·rw[Du (show((r+a:Nat):Int)>=4294967296 by omega)]at hst
   rw[if_pos c2]
   exact A7 hst (by simp)
  ·rw[AW (show¬((r+a:Nat):Int)>=4294967296 by omega)]at hst
   rw[if_neg c2]
   exact Bt hst
 ·have hqb:=Qsb (q:=q) (b:=b) (by omega) hb
  rw[AW (show¬(q:Int)>=4294967296 by omega),<-Int.natCast_mul,wr (Nat.le_trans hqb (by decide))]at hst
  show _=if _ then _ else _
  by_cases c3:r*4294967296+u<q*b
  ·rw[Du (show((q*b:Nat):Int)>((r*4294967296+u:Nat):Int) by omega)]at hst
   rw[if_pos (.inr c3)]
   have hq0:0<q:=by
    rcases Nat.eq_zero_or_pos q with h|h
    ·rw[h]at c3;omega
    ·exact h
   rw[show(q:Int)-1=((q-1:Nat):Int) by omega,wr (by omega)]at hst
   by_cases c2:4294967296<=r+a
   ·rw[Du (show((r+a:Nat):Int)>=4294967296 by omega)]at hst
    rw[if_pos c2]
    exact A7 hst (by simp)
   ·rw[AW (show¬((r+a:Nat):Int)>=4294967296 by omega)]at hst
    rw[if_neg c2]
    exact Bt hst
  ·rw[AW (show¬((q*b:Nat):Int)>((r*4294967296+u:Nat):Int) by omega)]at hst
   rw[if_neg (fun h=>h.elim c1 c3)]
   exact A7 hst (by simp)
theorem Qsa {s:Nat} (hs:s<=63):(2:Int)^min (Int.toNat (s:Int)) IntKind.u64.bits=((2^s:Nat):Int):=by
 have e:min (Int.toNat (s:Int)) IntKind.u64.bits=s:=by
  show min (Int.toNat (s:Int)) 64=s
  omega
 rw[e]
 simp
theorem Zl0 {s:Nat} (hs:s<=63):(2:Int)^min (Int.toNat ((64-s:Nat):Int)) IntKind.u64.bits=((2^(64-s):Nat):Int):=by
 have e:min (Int.toNat ((64-s:Nat):Int)) IntKind.u64.bits=64-s:=by
  show min (Int.toNat ((64-s:Nat):Int)) 64=64-s
  omega
 rw[e]
 simp
theorem Q4y (x y:Nat):((x:Int)).fdiv (y:Int)=((x/y:Nat):Int):=by
 rw[Int.fdiv_eq_ediv_of_nonneg _ (by omega)];rfl
theorem Qkc (x y:Nat):((x:Int)).tdiv (y:Int)=((x/y:Nat):Int):=by
 rw[Int.tdiv_eq_ediv_of_nonneg (by omega)];rfl
theorem orP {A B s:Nat} (hB:B<2^s) (h:A*2^s+B<w64):IntKind.u64.wrap (((BitVec.ofInt IntKind.u64.bits ((A*2^s:Nat):Int)|||BitVec.ofInt IntKind.u64.bits (B:Int)).toNat:Nat):Int)=((A*2^s+B:Nat):Int):=by
 rw[BB]at h
 have e:(BitVec.ofInt IntKind.u64.bits ((A*2^s:Nat):Int)|||BitVec.ofInt IntKind.u64.bits (B:Int)).toNat=A*2^s+B:=by
  rw[BitVec.toNat_or]
  have e1:∀v:Nat,v<18446744073709551616->(BitVec.ofInt IntKind.u64.bits (v:Int)).toNat=v:=by
   intro v hv
   simp only[IntKind.bits,BitVec.toNat_ofInt]
   omega
  have:=(Nat.two_pow_add_eq_or_of_lt hB A).symm
  rw[Nat.mul_comm]at this
  generalize A*2^s=X at*
  rw[e1 _ (by omega),e1 _ (by omega)]
  exact this
 rw[e,wr (by omega)]
theorem Q3j {v u q1 y:Nat} (hy:y<w64) (hq:q1=(v*4294967296+u)/y) (hy0:0<y):IntKind.u64.wrap (IntKind.u64.wrap (IntKind.u64.wrap ((v:Int)*4294967296)+(u:Int))-IntKind.u64.wrap ((q1:Int)*(y:Int)))=(((v*4294967296+u)%y:Nat):Int):=by
 have h1:=Nat.div_add_mod (v*4294967296+u) y
 have h2:=Nat.mod_lt (v*4294967296+u) hy0
 rw[<-hq,Nat.mul_comm]at h1
 rw[BB]at hy
 rw[NH,NH,NH,NH,<-Int.natCast_mul]
 generalize q1*y=p at*
 generalize(v*4294967296+u)%y=r at*
 omega
theorem Qt7 {v a:Nat} (ha:0<a) (hv:v<w64):IntKind.u64.wrap ((v:Int)-IntKind.u64.wrap (IntKind.u64.wrap ((v/a:Nat):Int)*(a:Int)))=((v%a:Nat):Int):=by
 have h1:=Nat.div_add_mod v a
 have h2:=Nat.mod_lt v ha
 have h3:=Nat.div_le_self v a
 rw[BB]at hv
 rw[wr (x:=v/a) (by omega),<-Int.natCast_mul]
 rw[Nat.mul_comm]at h1
 generalize v/a*a=p at*
 generalize v%a=r at*
 rw[wr (x:=p) (by omega),show(v:Int)-(p:Int)=(r:Int) by omega,wr (by omega)]
theorem Zhs {v u1 u0 Y:Nat} (hY:0<Y):(v*w64+(u1*4294967296+u0))/Y=(v*4294967296+u1)/Y*4294967296+((v*4294967296+u1)%Y*4294967296+u0)/Y/\
  (v*w64+(u1*4294967296+u0))%Y=((v*4294967296+u1)%Y*4294967296+u0)%Y:=by
 have e:v*w64+(u1*4294967296+u0)=((v*4294967296+u1)%Y*4294967296+u0)+(v*4294967296+u1)/Y*4294967296*Y:=by
  have h:=Nat.div_add_mod (v*4294967296+u1) Y
  rw[Nat.mul_comm]at h
  rw[BB]
  generalize(v*4294967296+u1)%Y=r at*
  have e2:(v*4294967296+u1)/Y*4294967296*Y=(v*4294967296+u1)/Y*Y*4294967296:=by rw[Nat.mul_assoc,Nat.mul_comm 4294967296,<-Nat.mul_assoc]
  rw[e2]
  generalize(v*4294967296+u1)/Y*Y=p at*
  omega
 rw[e,Nat.add_mul_div_right _ _ hY,Nat.add_mul_mod_self_right]
 exact⟨Nat.add_comm _ _,rfl⟩
theorem Zsa {M:Fn} {hi lo y s:Nat} (h0:0<hi) (h1:hi<y) (hyw:y<w64) (hlo:lo<w64) (hs:s<=63) (h2:9223372036854775808<=y*2^s) (h3:y*2^s<w64) (hM:M [U y]=some [I s]):
  Qd9 M (An (Kb M)) (An (Pe M (An (Kb M)))) [U hi,U lo,U y]=some [U (((hi*w64+lo)/y:Nat):Int),U (((hi*w64+lo)%y:Nat):Int)]:=by
 have hP:0<2^s:=Nat.two_pow_pos _
 have hPT:2^s*2^(64-s)=w64:=by rw[BB,<-Nat.pow_add,show s+(64-s)=64 by omega]
 have hT:0<2^(64-s):=Nat.two_pow_pos _
 have es:IntKind.u64.wrap (s:Int)=s:=wr (by omega)
 have et:IntKind.u64.wrap (64-(s:Int))=((64-s:Nat):Int):=by rw[show(64:Int)-s=((64-s:Nat):Int) by omega,wr (by omega)]
 have hB:lo/2^(64-s)<2^s:=by rw[Nat.div_lt_iff_lt_mul hT,hPT];exact hlo
 have hv:hi*2^s+lo/2^(64-s)<y*2^s:=by
  have:hi*2^s+2^s<=y*2^s:=by rw[<-Nat.succ_mul];exact Nat.mul_le_mul_right _ h1
  omega

 have hN:(hi*w64+lo)*2^s=(hi*2^s+lo/2^(64-s))*w64+lo*2^s%w64:=by
  have e1:lo*2^s/w64=lo/2^(64-s):=by
   rw[<-hPT,Nat.mul_comm lo,Nat.mul_div_mul_left _ _ hP]
  have e2:=Nat.div_add_mod (lo*2^s) w64
  rw[e1]at e2
  rw[Nat.add_mul,Nat.add_mul,Nat.add_assoc,Nat.mul_comm (lo/2^(64-s)),e2]
  congr 1
  rw[Nat.mul_assoc,Nat.mul_comm w64,Nat.mul_assoc]
 have hU:lo*2^s%w64<w64:=Nat.mod_lt _ OK
 have ey:IntKind.u64.wrap ((y:Int)*((2^s:Nat):Int))=((y*2^s:Nat):Int):=by rw[<-Int.natCast_mul,wr (Nat.le_of_lt_succ (by rw[BB]at h3;exact h3))]
 have eh:IntKind.u64.wrap ((hi:Int)*((2^s:Nat):Int))=((hi*2^s:Nat):Int):=by
  rw[<-Int.natCast_mul,wr (Nat.le_of_lt_succ (by have:=Nat.mul_lt_mul_of_pos_right h1 hP;rw[BB]at h3;exact Nat.lt_trans this h3))]
 have el:IntKind.u64.wrap ((lo:Int)*((2^s:Nat):Int))=((lo*2^s%w64:Nat):Int):=by
  rw[<-Int.natCast_mul,NH,BB];rfl
 have eo:=orP (A:=hi) (B:=lo/2^(64-s)) (s:=s) hB (by omega)
 have hq:(hi*w64+lo)/y=(hi*w64+lo)*2^s/(y*2^s):=(Nat.mul_div_mul_right _ _ hP).symm
 have hr:(hi*w64+lo)%y=(hi*w64+lo)*2^s%(y*2^s)/2^s:=by rw[Nat.mul_mod_mul_right,Nat.mul_div_cancel _ hP]
 rw[hq,hr,hN]
 rw[Qtn]
 simp only[hM,Option.bind_some,G8,Ke,Kn,Ou,Pf,R_,Qe8,YP,He,gA,jA,wA,bA,es,et,Qsa hs,Zl0 hs,ey,eh,el,Q4y,eo]
 rw[Bl (by simp;omega),AW (show¬(y:Int)<=hi by omega),Bl (by simp;omega),AW (show¬(s:Int)<0 by omega),AW (show¬(s:Int)<0 by omega),AW (show¬((64-s:Nat):Int)<0 by omega),AW (show¬(s:Int)<0 by omega)]
 rw[Qyc,Qso _ h3,Qyc,Qso _ hU]
 have hY:y*2^s=y*2^s/4294967296*4294967296+y*2^s%4294967296:=by omega
 have hW:lo*2^s%w64=lo*2^s%w64/4294967296*4294967296+lo*2^s%w64%4294967296:=by omega
 have hb:y*2^s%4294967296<4294967296:=Nat.mod_lt _ (by omega)
 have hu0:lo*2^s%w64%4294967296<4294967296:=Nat.mod_lt _ (by omega)
 have hu1:lo*2^s%w64/4294967296<4294967296:=by rw[BB]at hU⊢;omega
 have ha:2147483648<=y*2^s/4294967296:=by omega
 have ha2:y*2^s/4294967296<4294967296:=by rw[BB]at h3;omega
 clear hN hq hr eh el eo ey hB
 generalize hi*2^s+lo/2^(64-s)=v at*
 generalize lo*2^s%w64=w at*
 generalize y*2^s=Y at*
 generalize w/4294967296=u1 at*
 generalize w%4294967296=u0 at*
 generalize Y/4294967296=a at*
 generalize Y%4294967296=b at*
 subst hW
 rw[AW (show¬(a:Int)=0 by omega),Qkc,Qt7 (by omega) (Nat.lt_trans hv h3),wr (x:=v/a) (by have:=Nat.div_le_self v a;rw[BB]at h3;omega)]
 have hl:=Zwu (M:=M) (y:=(Y:Int)) (s:=s) (v0:=u0) hb ha ha2 (by rw[<-hY];exact hv) hu1
 rw[hl]
 rw[<-hY]
 have hY0:0<Y:=by omega
 have hr1:=Q3j (v:=v) (u:=u1) (y:=Y) h3 rfl hY0
 have hq1:(v*4294967296+u1)/Y<4294967296:=by rw[hY];exact Qs6 (by rw[<-hY];exact hv) hu1
 have hm1:=Nat.mod_lt (v*4294967296+u1) hY0
 obtain⟨k1,k2⟩:=Zhs (v:=v) (u1:=u1) (u0:=u0) hY0
 rw[k1,k2]
 clear hl k1 k2
 obtain⟨q1,g1⟩:∃q1,(v*4294967296+u1)/Y=q1:=⟨_,rfl⟩
 obtain⟨r1,g2⟩:∃r1,(v*4294967296+u1)%Y=r1:=⟨_,rfl⟩
 rw[g1]at hr1 hq1⊢
 rw[g2]at hr1 hm1⊢
 simp only[Option.bind_some,G8,Ke,Kn,Ou,Pf,R_,Qe8,YP,He,hr1]
 rw[show Nat.beq 1 1=true from rfl,cond_true,AW (show¬(a:Int)=0 by omega),Qkc,Qt7 (by omega) (Nat.lt_trans hm1 h3),wr (x:=r1/a) (by have:=Nat.div_le_self r1 a;rw[BB]at h3;omega)]
 have hl2:=Zu5 (M:=M) (N:=An (Kb M)) (y:=(Y:Int)) (s:=s) (q1:=q1) (w:=r1) hb ha ha2 (by rw[<-hY];exact hm1) hu0
 rw[hl2]
 rw[<-hY]
 have hr0:=Q3j (v:=r1) (u:=u0) (y:=Y) h3 rfl hY0
 have hq0:(r1*4294967296+u0)/Y<4294967296:=by rw[hY];exact Qs6 (by rw[<-hY];exact hm1) hu0
 obtain⟨q0,g3⟩:∃q0,(r1*4294967296+u0)/Y=q0:=⟨_,rfl⟩
 obtain⟨r0,g4⟩:∃r0,(r1*4294967296+u0)%Y=r0:=⟨_,rfl⟩
 rw[g3]at hr0 hq0⊢
 rw[g4]at hr0⊢
 simp only[Option.bind_some,G8,Ke,Kn,Ou,Pf,R_,He,hr0]
 rw[show Nat.beq 1 1=true from rfl,cond_true,AW (show¬(s:Int)<0 by omega),Qsa hs,Q4y]
 have w1:IntKind.u64.wrap (IntKind.u64.wrap ((q1:Int)*4294967296)+(q0:Int))=((q1*4294967296+q0:Nat):Int):=by
  rw[show(q1:Int)*4294967296=((q1*4294967296:Nat):Int) by omega,wr (by omega),<-Int.natCast_add,wr (by omega)]
 rw[w1]
theorem Zdy {y:Nat} (h0:0<y) (h:y<w64):∃s:Nat,HZ [U y]=some [I s]/\s<=63/\9223372036854775808<=y*2^s/\y*2^s<w64:=by
 have hw:=BB
 obtain⟨b1,b2,b3⟩:=Lib.bitLenAux_bounds 64 y (by rw[<-show w64=2^64 by rw[hw]];exact h) (by omega)
 have hL:Lib.bitLen y=Lib.bitLenAux 64 y:=rfl
 generalize hb:Lib.bitLenAux 64 y=L at*
 have hL64:L<=64:=by
  by_cases c:L<=64
  ·exact c
  ·have:=Nat.pow_le_pow_right (show 0<2 by omega) (show 64<=L-1 by omega)
   rw[show(2:Nat)^64=18446744073709551616 from rfl]at this
   omega
 refine⟨64-L,?_,by omega,?_,?_⟩
 ·unfold HZ
  have e64:Fv=18446744073709551616:=rfl
  have hu:inU (y:Int)=true:=by
   simp only[inU,e64,Bool.and_eq_true,decide_eq_true_eq]
   omega
  simp only[G8,He,gA,jA,wA,bA,hu,cond_true,Int.toNat_natCast,hL]
  rw[show(64:Int)-(L:Int)=((64-L:Nat):Int) by omega]
 ·have e:2^(L-1)*2^(64-L)=9223372036854775808:=by rw[<-Nat.pow_add,show L-1+(64-L)=63 by omega]
  rw[<-e]
  exact Nat.mul_le_mul_right _ b2
 ·have e:2^L*2^(64-L)=w64:=by rw[<-Nat.pow_add,show L+(64-L)=64 by omega,hw]
  rw[<-e]
  exact Nat.mul_lt_mul_of_pos_right b3 (Nat.two_pow_pos _)
theorem Qzm {hi lo y:Nat} (h1:hi<y) (hy:y<w64) (hlo:lo<w64):F6 [U hi,U lo,U y]=some [U (((hi*w64+lo)/y:Nat):Int),U (((hi*w64+lo)%y:Nat):Int)]:=by
 rcases Nat.eq_zero_or_pos hi with h|h
 ·subst h
  rw[Nat.zero_mul,Nat.zero_add]
  exact Qq5 hlo h1
 ·obtain⟨s,e,e1,e2,e3⟩:=Zdy (show 0<y by omega) hy
  exact Zsa h h1 hy hlo e1 e2 e3 e
end Go.Bm
/- the spindle always answers -/
set_option maxRecDepth 100000
namespace Go.Bm

theorem Zay {M1 M2 M3 M4 M5 M6 M7:Fn} (h1:∀x b,(M1 [U x,B b]).isSome=true) (h2:∀x y b c,(M2 [I x,I y,B b,B c]).isSome=true) (h3:∀x y,(M3 [I x,I y]).isSome=true)
  (h4:∀{hi lo y:Nat},hi<y->y<w64->lo<w64->(M4 [U hi,U lo,U y]).isSome=true) (h5:∀{x y:Nat},x<w64->y<w64->M5 [U x,U y]=some [U ((x*y/w64:Nat):Int),U ((x*y%w64:Nat):Int)])
  (h6:∀{x:Int},i64 x->M6 [I x]=some [U (x.natAbs:Int)]) (h7:∀x,(M7 [I x]).isSome=true) {a b c:Int} (ha:i64 a) (hb:i64 b) (hc:i64 c) (m:Int):
  (QJ M1 M2 M3 M4 M5 M6 M7 [I a,I b,I c,I m]).isSome=true:=by
 have hw:∀{x:Int},i64 x->x.natAbs<w64:=by
  intro x hx;unfold i64 at hx;rw[BB];omega
 rw[Qot,h6 ha,h6 hb,h6 hc]
 refine BL (fun _=>rfl) fun _=>EO (h7 _) fun _ _=>BL (fun _=>rfl) fun _=> ?_
 simp only[Option.bind_some,gA,wA,bA,jA,nth,Af]
 rw[h5 (hw ha) (hw hb)]
 simp only[Option.bind_some,gA,wA,bA,jA,nth,Af]
 refine BL (fun _=>rfl) fun c0=> ?_
 have c0:=BD c0
 have hlo:a.natAbs*b.natAbs%w64<w64:=Nat.mod_lt _ (by rw[BB];decide)
 refine EO (h4 (by omega) (hw hc) hlo) fun _ _=>EO (h3 _ _) fun _ _=> ?_
 repeat' first|exact rfl|exact h1 _ _|exact h2 _ _ _ _|exact h3 _ _|refine BL (fun _=> ?_) (fun _=> ?_)|refine EO ?_ fun _ _=> ?_
theorem Q6u (x:Int) (b:Bool):(Ew [U x,B b]).isSome=true:=by
 show(Ua [U x,B b]).isSome=true
 rw[WK]
 repeat' first|exact rfl|refine BL (fun _=> ?_) (fun _=> ?_)
theorem Zjr (x y:Int) (b c:Bool):(GZ [I x,I y,B b,B c]).isSome=true:=by
 show(Qdg [I x,I y,B b,B c]).isSome=true
 rw[Qsc]
 repeat' first|exact rfl|refine BL (fun _=> ?_) (fun _=> ?_)
theorem Q83 (x y:Int):(Fi [I x,I y]).isSome=true:=by
 show(Qgw [I x,I y]).isSome=true
 rw[Qp9]
 repeat' first|exact rfl|refine BL (fun _=> ?_) (fun _=> ?_)
theorem Z0k (x:Int):(Fd [I x]).isSome=true:=by
 show(ZH [I x]).isSome=true
 rw[Q1i]
 repeat' first|exact rfl|refine BL (fun _=> ?_) (fun _=> ?_)
theorem Yw {a b c:Int} (ha:i64 a) (hb:i64 b) (hc:i64 c) (m:Int):(Be [I a,I b,I c,I m]).isSome=true:=
 Zay Q6u Zjr Q83 (fun h1 h2 h3=>by rw[Qzm h1 h2 h3];rfl) (fun h1 h2=>Qpm h1 h2) (fun h=>Hv h) Z0k ha hb hc m
theorem L4 (x:Int):i64 (IntKind.i64.wrap x):=Zxf x
theorem Q57 {M:Fn} {l:List AC} (h:(M l).isSome=true) {f:List AC->List AC}:((M l).bind fun o=>some (f o)).isSome=true:=EO h fun _ _=>rfl
theorem Zwr {a b:Int} (ha:i64 a) (hb:i64 b):(PV [I a,I b]).isSome=true:=by
 show(Qaq Be [I a,I b]).isSome=true
 have h:=Yw ha hb (show i64 4096 by unfold i64;omega) 0
 generalize Be=M at*
 rw[Zv7]
 exact Q57 h
theorem Q3y {a:Int} (ha:i64 a):(Es [I a]).isSome=true:=by
 show(Qf Be [I a]).isSome=true
 have h:=Yw ha (show i64 1048576 by unfold i64;omega) (show i64 60000 by unfold i64;omega) 2
 generalize Be=M at*
 rw[Q21]
 exact Q57 h
theorem Zwe (a b:Int):∃v,OZ [I a,I b]=some [I v]/\i64 v:=by
 refine⟨mx (IntKind.i64.wrap (a-b)) (IntKind.i64.wrap (b-a)),?_,?_⟩
 ·show Qja [I a,I b]=_
  rw[Q8e]
 ·have h1:=L4 (a-b);have h2:=L4 (b-a)
  unfold mx;split<;>assumption
theorem Q02 (a:Int):(F1 [I a]).isSome=true:=by
 show(Qen [I a]).isSome=true
 rw[Zdc]
 repeat' first|exact rfl|refine BL (fun _=> ?_) (fun _=> ?_)
theorem Zz6 {a b:Int} (hb:b≠0):(Jv [I a,I b]).isSome=true:=by
 show(Qer [I a,I b]).isSome=true
 rw[Zcg]
 refine BL (fun c=>absurd (BA c) hb) fun _=>BL (fun c=>absurd (BA c) hb) fun _=>BL (fun _=>rfl) fun _=>rfl
theorem Zx4 (x0 x1 x2 x3 x4:Int) {x5:Int} (h5:i64 x5):(Kk [I x0,I x1,I x2,I x3,I x4,I x5]).isSome=true:=by
 show(XE Es F1 [I x0,I x1,I x2,I x3,I x4,I x5]).isSome=true
 have h:=Q3y h5
 have h2:=Q02 x4
 generalize Es=M at*
 generalize F1=N at*
 rw[Zwi]
 repeat' first|exact rfl|exact h|exact h2|refine BL (fun _=> ?_) (fun _=> ?_)|refine EO ?_ fun _ _=> ?_
theorem Znx (x0 x1 x2 x3 x4:Int) {x5:Int} (h5:i64 x5):(NJ [I x0,I x1,I x2,I x3,I x4,I x5]).isSome=true:=by
 show(Qaf Es F1 [I x0,I x1,I x2,I x3,I x4,I x5]).isSome=true
 have h:=Q3y h5
 have h2:=Q02 x4
 generalize Es=M at*
 generalize F1=N at*
 rw[Zgy]
 repeat' first|exact rfl|exact h|exact h2|refine BL (fun _=> ?_) (fun _=> ?_)|refine EO ?_ fun _ _=> ?_
end Go.Bm
/- the panel, the guard, the window, the outputs always answer -/
set_option maxRecDepth 100000
namespace Go.Bm

end Go.Bm
/- how far the machine may go in a cycle -/
set_option maxRecDepth 100000
namespace Go.Bm

theorem Zxu {a b c d:Int} (hb:2<=b/\b<=65536) (hd:d<=65536):∃v,GE [I a,I b,I c,I d]=some [I v]/\0<=v/\v<=4294967296:=by
 show∃v,Q9 [I a,I b,I c,I d]=some [I v]/\0<=v/\v<=4294967296
 rw[Qhf]
 by_cases h0:d<=0
 ·exact⟨0,by simp[h0],by omega,by omega⟩
 have e1:IntKind.i64.wrap (d-1)=d-1:=Ae (by omega)
 have e2:(d-1).tdiv b=(d-1)/b:=Int.tdiv_eq_ediv_of_nonneg (by omega)
 have hq0:0<=(d-1)/b:=Int.ediv_nonneg (by omega) (by omega)
 have hq1:b*((d-1)/b)<=d-1:=Int.mul_ediv_self_le (by omega)
 have hq2:(d-1)/b<=65536:=by
  have:=Int.ediv_le_self (a:=d-1) b (by omega);omega
 simp only[e1,e2]
 generalize(d-1)/b=q at*
 have e3:IntKind.i64.wrap q=q:=Ae (by omega)
 have e4:IntKind.i64.wrap (q+1)=q+1:=Ae (by omega)
 simp only[e3,e4]
 have hqd:q*d<=65536*65536:=Int.mul_le_mul hq2 hd (by omega) (by omega)
 have hqd0:0<=q*d:=Int.mul_nonneg hq0 (by omega)
 have hqq:q*(q+1)<=65536*65537:=Int.mul_le_mul hq2 (by omega) (by omega) (by omega)
 have hqq0:0<=q*(q+1):=Int.mul_nonneg hq0 (by omega)
 have e5:IntKind.i64.wrap (q*(q+1))=q*(q+1):=Ae (by omega)
 have e6:(q*(q+1)).tdiv 2=q*(q+1)/2:=Int.tdiv_eq_ediv_of_nonneg hqq0
 have e7:IntKind.i64.wrap (q*(q+1)/2)=q*(q+1)/2:=Ae (by omega)
 have e8:IntKind.i64.wrap (q*d)=q*d:=Ae (by omega)
 simp only[e5,e6,e7,e8]
 have hT:2*(q*(q+1)/2)<=q*(q+1):=by omega
 have hbT:b*(2*(q*(q+1)/2))<=b*(q*(q+1)):=Int.mul_le_mul_of_nonneg_left hT (by omega)
 have hbq:b*(q*(q+1))<=(d-1)*(q+1):=by
  rw[<-Int.mul_assoc];exact Int.mul_le_mul_of_nonneg_right hq1 (by omega)
 have hT0:0<=q*(q+1)/2:=Int.ediv_nonneg hqq0 (by omega)
 have hbT0:0<=b*(q*(q+1)/2):=Int.mul_nonneg (by omega) hT0
 have e9:b*(2*(q*(q+1)/2))=2*(b*(q*(q+1)/2)):=by grind
 have hdq:(d-1)*(q+1)=q*d+d-q-1:=by grind
 generalize b*(q*(q+1)/2)=z at*
 generalize q*(q+1)/2=w at*
 have e10:IntKind.i64.wrap z=z:=Ae (by omega)
 have hz:z<=q*d:=by
  by_cases c0:q=0
  ·subst c0
   simp at*
   omega
  ·have:d<=q*d:=by
    have:=Int.mul_le_mul_of_nonneg_right (show 1<=q by omega) (show 0<=d by omega)
    omega
   omega
 rw[e10,Ae (x:=q*d-z) (by omega)]
 have hn: ¬d<=0:=h0
 have hb1: ¬b<=0:=by omega
 have hb2: ¬b=0:=by omega
 exact⟨q*d-z,by simp[hn,hb1,hb2],by omega,by omega⟩
structure Plan3 (a b c : Int) : Prop where
 a:1<=a/\a<=65536
 b:2<=b/\b<=65536
 c:1<=c/\c<=16777216
theorem Zm4 {M:Fn} {a b c:Int} (h:Plan3 a b c) (hL:∀{d:Int},d<=65536->∃v,M [I a,I b,I c,I d]=some [I v]/\0<=v/\v<=4294967296) {v x:Int} (hx:i64 x):
  Out (fun o=>bA o 0=true->0<=v/\v<=16777216/\ -65536<=x/\x<=65536) (Pv M [I a,I b,I c,I v,I x]):=by
 have ha:=h.a
 unfold i64 at hx
 rw[Xu]
 rw[Ae (x:=0-a) (by omega)]
 refine .cond (fun _=> .some fun h=>by simp[gA,wA,bA,jA,nth,B6]at h) fun c1=> .cond (fun _=> .some fun h=>by simp[gA,wA,bA,jA,nth,B6]at h) fun c2=> ?_
 have c1:=BD c1;have c2:=BD c2
 rw[Ae (x:=0-x) (by omega)]
 obtain⟨v1,e1,w1,w2⟩:=hL (d:= -x) (by omega)
 obtain⟨v2,e2,w3,w4⟩:=hL (d:=x) (by omega)
 have e1':M [I a,I b,I c,I (0-x)]=some [I v1]:=by rw[show 0-x= -x by omega];exact e1
 rw[e1',e2]
 have e3:IntKind.i64.wrap (16777216-v2)=16777216-v2:=Ae (by omega)
 simp only[Option.bind_some,gA,wA,bA,jA,nth,Af,e3]
 have fin:Out (fun o=>bA o 0=true->0<=v/\v<=16777216/\ -65536<=x/\x<=65536) (bif decide (v>=v1)then some [B (decide (v<=16777216-v2))]else some [B false]):=by
  refine .cond (fun c3=> .some fun h=> ?_) fun _=> .some fun h=>by simp[gA,wA,bA,jA,nth,B6]at h
  have c3:=BA c3
  simp only[gA,wA,bA,jA,nth,B6,decide_eq_true_eq]at h
  omega
 exact .cond (fun _=> .cond (fun _=> .some fun h=>by simp[gA,wA,bA,jA,nth,B6]at h) fun _=>fin) fun _=>fin
theorem Zm1 {a b c:Int} (h:Plan3 a b c) {v x:Int} (hx:i64 x):Out (fun o=>bA o 0=true->0<=v/\v<=16777216/\ -65536<=x/\x<=65536) (F9 [I a,I b,I c,I v,I x]):=
 Zm4 h (fun hd=>Zxu h.b hd) hx

theorem Zkq {ML MV:Fn} (hL:∀a b c d,(ML [I a,I b,I c,I d]).isSome=true) {v a b c low high K:Int} (h1: -K<=low/\low<=K) (h2: -K<=high/\high<=K) (hK:K<=9000000000000):
  Out (fun o=>o.1=1/\ -K<=gA o.2 0/\gA o.2 0<=K) (An (Nb ML MV) [I v,I low,I high,I a,I b,I c]):=by
 refine CI (fun s:Int×Int=>[I v,I s.1,I s.2,I a,I b,I c]) (fun s=>(-K<=s.1/\s.1<=K)/\(-K<=s.2+1/\s.2<=K)) (fun s=>(s.2-s.1).toNat) _ ?_ (low,high) ⟨h1,by omega,h2.2⟩
 rintro⟨l,h⟩ ⟨q1,q2⟩
 dsimp only at q1 q2
 rw[Qy0]
 refine .cond (fun c=> ?_) (fun c=> ?_)
 ·have c:=BA c
  have e:IntKind.i64.wrap (h-IntKind.i64.wrap ((IntKind.i64.wrap (h-l)).tdiv 2))=h-(h-l)/2:=by
   rw[Ae (x:=h-l) (by omega),Int.tdiv_eq_ediv_of_nonneg (by omega),Ae (x:=(h-l)/2) (by omega),Ae (by omega)]
  rw[e]
  refine .ibind (hL _ _ _ _) fun o _=> ?_
  refine .cond (fun _=> ?_) (fun _=> ?_)
  ·exact .some (.inl ⟨rfl,(h-(h-l)/2,h),rfl,by dsimp only;omega,by dsimp only;omega⟩)
  ·refine .some (.inl ⟨rfl,(l,h-(h-l)/2-1),?_,by dsimp only;omega,by dsimp only;omega⟩)
   rw[Ae (x:=h-(h-l)/2-1) (by omega)]
 ·exact .some (.inr ⟨by simp,rfl,q1⟩)
theorem Zbu {ML MV:Fn} (hL:∀a b c d,(ML [I a,I b,I c,I d]).isSome=true) (hV:∀a b c,MV [I a,I b,I c]=some [B (decide (1<=a/\a<=65536/\2<=b/\b<=65536/\1<=c/\c<=16777216))]) {a b c v x K:Int} (h:Plan3 a b c) (hx: -K<=x/\x<=K) (hK:0<=K/\K<=1000000000):
  Out (fun o=>∃r:Int,o=[I r]/\ -(K+65536)<=r/\r<=K+65536) (Ru ML MV (An (Nb ML MV)) [I a,I b,I c,I v,I x]):=by
 obtain⟨p1,p2,p3⟩:=h
 rw[Q0f,hV]
 simp only[Option.bind_some]
 refine .cond (fun _=> .some ⟨0,rfl,by omega,by omega⟩) fun _=> .cond (fun _=> .some ⟨0,rfl,by omega,by omega⟩) fun _=> .cond (fun _=> .some ⟨0,rfl,by omega,by omega⟩) fun _=> ?_
 have e1:IntKind.i64.wrap (IntKind.i64.wrap (0-x)-b)= -x-b:=by rw[Ae (x:=0-x) (by omega),Ae (by omega)];omega
 have e2:IntKind.i64.wrap (b-x)=b-x:=Ae (by omega)
 rw[e1,e2]
 refine .bind (Zkq (MV:=MV) hL (K:=K+65536) (by omega) (by unfold mn;split<;>omega) (by omega)) fun o g=> ?_
 obtain⟨g1,g2,g3⟩:=g
 rw[g1]
 refine .some ⟨_,rfl,?_,?_⟩<;>rw[Ae (by omega)]<;>omega
theorem Q29 {a b c v x K:Int} (h:Plan3 a b c) (hx: -K<=x/\x<=K) (hK:0<=K/\K<=1000000000):
  Out (fun o=>∃r:Int,o=[I r]/\ -(K+65536)<=r/\r<=K+65536) (Fg [I a,I b,I c,I v,I x]):=Zbu Vp NB h hx hK
end Go.Bm
/- how far the machine may go in a cycle: the planner -/
set_option maxRecDepth 100000
namespace Go.Bm

abbrev D0 (v x:Int):Prop:=0<=v/\v<=16777216/\ -65536<=x/\x<=65536
theorem Zeo {MB MR MV:Fn} {a b c v x:Int} (hB:∀a b c v x,(MB [I a,I b,I c,I v,I x]).isSome=true) (hR:Out (fun o=>bA o 0=true->D0 v x) (MR [I a,I b,I c,I v,I x])) (hV:∀a b c,(MV [I a,I b,I c]).isSome=true):
  Out (fun o=>(wA o 0).length<=4096/\(bA o 1=true->D0 v x)) (P0 MB MR MV (An (J4 MB MR MV)) [I a,I b,I c,I v,I x]):=by
 rw[Qjv]
 refine .ibind (hV _ _ _) fun _ _=> .cond (fun _=> .some ⟨by simp[gA,wA,bA,jA,nth,Br],fun h=>by simp[gA,wA,bA,jA,nth,B6]at h⟩) fun _=> .bind hR fun o hr=> .cond (fun _=> .some ⟨by simp[gA,wA,bA,jA,nth,Br],fun h=>by simp[gA,wA,bA,jA,nth,B6]at h⟩) fun c1=> ?_
 have hs:D0 v x:=hr (by simpa using c1)
 refine .bind (Qyd hB) fun o h=> ?_
 rcases h with h|⟨h,h2⟩
 ·rw[h];exact .some ⟨by simp[gA,wA,bA,jA,nth,Br],fun _=>hs⟩
 ·rw[h];exact .some ⟨h2,fun _=>hs⟩
theorem Zts {a b c v x:Int} (h:Plan3 a b c) (hx:i64 x):Out (fun o=>(wA o 0).length<=4096/\(bA o 1=true->D0 v x)) (I7 [I a,I b,I c,I v,I x]):=
 Zeo Q5d (Zm1 h hx) (fun a b c=>by rw[NB];rfl)
theorem Q7k {M:Fn} {a b c x3 x4 x5 x6 x7 x8:Int} (hS:Out (fun o=>(wA o 0).length<=4096/\(bA o 1=true->D0 x4 x5)) (M [I a,I b,I c,I x4,I x5])):
  Out (fun o=>(wA o 0).length<=4096/\(bA o 1=true->D0 x4 x5)) (OG M (An (KG M)) [I a,I b,I c,I x3,I x4,I x5,I x6,I x7,I x8]):=by
 rw[Qje]
 refine .bind hS fun o h=> ?_
 obtain⟨h,hs⟩:=h
 generalize wA o 0=sp at*
 refine .cond (fun _=> .some ⟨by simp[gA,wA,bA,jA,nth,Br],fun h=>by simp[gA,wA,bA,jA,nth,B6]at h⟩) fun c1=> ?_
 have hs:=hs (by simpa using c1)
 refine .cond (fun _=> ?_) fun c=>by simp at c
 refine .cond (fun _=> ?_) fun c=>by simp at c;omega
 refine .bind (Qus (by simp) h) fun o g=> ?_
 rw[g.1]
 exact .some ⟨by show(wA o.2 0).length<=4096;omega,fun _=>hs⟩
theorem Q9h {a b c x3 x4 x5 x6 x7 x8:Int} (h:Plan3 a b c) (hx:i64 x5):Out (fun o=>(wA o 0).length<=4096/\(bA o 1=true->D0 x4 x5)) (E2 [I a,I b,I c,I x3,I x4,I x5,I x6,I x7,I x8]):=
 Q7k (Zts h hx)
theorem Zit {MS MF:Fn} {p:Pth} {x:Ax3} {t:Trk} (hS:∀{way:Rw},way.length<=100000->(MS (pxt p x t [.view Aa way])).isSome=true)
  {a b c m0 m1 m2 m3 m4 m5 l:Int} (hF:Out (fun o=>(wA o 0).length<=4096/\(bA o 1=true->D0 m1 m2)) (MF [I a,I b,I c,I m0,I m1,I m2,I m3,I m4,I m5])):
  Out (fun o=>bA o 0=true->D0 m1 m2) (Qd5 MS MF (pxt p x t [I a,I b,I c,I m0,I m1,I m2,I m3,I m4,I m5,I l])):=by
 rw[Zdd]
 refine .bind hF fun o h=> ?_
 obtain⟨h2,hs⟩:=h
 generalize wA o 0=sp at*
 refine .cond (fun _=> .some fun h=>by simp[gA,wA,bA,jA,nth,B6]at h) fun c1=> ?_
 have hs:=hs (by simpa using c1)
 refine .cond (fun c=> ?_) fun c=> ?_
 ·have c:=BA c
  rw[Ae (x:=(sp.length:Int)-1) (by omega)]
  refine .cond (fun _=> ?_) fun c=>by simp at c;omega
  generalize Af (nth .dead (nth [] sp ((sp.length:Int)-1).toNat) 0)=e
  refine .cond (fun _=> .some fun _=>hs) fun _=> ?_
  refine .cond (fun _=> ?_) fun c=>by rw[CB (by simp;omega)]at c;cases c
  refine .cond (fun _=> ?_) fun c=>by rw[CB (by simp;omega)]at c;cases c
  exact .ibind (hS (by simp;omega)) fun _ _=> .some fun _=>hs
 ·refine .cond (fun _=> .some fun _=>hs) fun _=> ?_
  refine .cond (fun _=> ?_) fun c=>by rw[CB (by simp;omega)]at c;cases c
  refine .cond (fun _=> ?_) fun c=>by rw[CB (by simp;omega)]at c;cases c
  exact .ibind (hS (by simp;omega)) fun _ _=> .some fun _=>hs
theorem Q46 {p:Pth} {x:Ax3} {t:Trk} (h:Fix p x t) {a b c m0 m1 m2 m3 m4 m5 l:Int} (hp:Plan3 a b c) (hx:i64 m2):Out (fun o=>bA o 0=true->D0 m1 m2) (I6 (pxt p x t [I a,I b,I c,I m0,I m1,I m2,I m3,I m4,I m5,I l])):=
 Zit (Zbo h) (Q9h hp hx)
abbrev Ee (m0 m1 m3 m4 v:Int):List AC:=[I (IntKind.i64.wrap (m0+v)),I v,I (IntKind.i64.wrap (v-m1)),I m0,I m3,I m4]
theorem Q1b (m0 m1 m2 m3 m4 m5 v:Int):Iv [I m0,I m1,I m2,I m3,I m4,I m5,I v]=some (Ee m0 m1 m3 m4 v):=by
 show Qk9 [I m0,I m1,I m2,I m3,I m4,I m5,I v]=some (Ee m0 m1 m3 m4 v)
 rw[Q89]
def Vm (m0 m1 m3 m4 K:Int) (o:List AC):Prop:=∃v:Int,o=Ee m0 m1 m3 m4 v/\(D0 v (IntKind.i64.wrap (v-m1))\/∃r:Int,v=IntKind.i64.wrap (m1+r)/\ -(K+65536)<=r/\r<=K+65536)
theorem Zs6 {MB MS MF MM MR MC:Fn} {p:Pth} {x:Ax3} {t:Trk} {a b c o0 o1:Int} {b0 b1 b2:Bool} (hp:Plan3 a b c) {m0 m1 m2 m3 m4 m5 l K:Int}
  (hB:Out (fun o=>∃r:Int,o=[I r]/\ -(K+65536)<=r/\r<=K+65536) (MB [I a,I b,I c,I m1,I m2]))
  (hS:∀v:Int,Out (fun o=>bA o 0=true->D0 v (IntKind.i64.wrap (v-m1))) (MS (pxt p x t [I a,I b,I c,I (IntKind.i64.wrap (m0+v)),I v,I (IntKind.i64.wrap (v-m1)),I m0,I m3,I m4,I l])))
  (hF:∀m0 m1 m2 m3 m4 m5:Int,(MF (EZ p t [I a,I b,I c,I o0,I o1,B b0,B b1,B b2,I m0,I m1,I m2,I m3,I m4,I m5])).isSome=true)
  (hM:∀m0 m1 m2 m3 m4 m5 v,MM [I m0,I m1,I m2,I m3,I m4,I m5,I v]=some (Ee m0 m1 m3 m4 v))
  (hR:∀a b c v x,(MR [I a,I b,I c,I v,I x]).isSome=true)
  (hC:∀j,0<=j/\j<=65536->Out (fun o=>(wA o 0).length<=140000) (MC [I j])):
  Out (Vm m0 m1 m3 m4 K) (Qnq MB MS MF MM MR MC (An (Qj3 MB MS MF MM MR MC)) (pxt p x t [I a,I b,I c,I o0,I o1,B b0,B b1,B b2,I m0,I m1,I m2,I m3,I m4,I m5,I l])):=by
 have hb:=hp.b
 rw[Z0s]
 refine .bind (hC b (by omega)) fun q h1=> ?_
 generalize wA q 0=ch at*
 refine .bind (p:=fun o=>o.1=1/\((∃v:Int,∃g0 g1 g2 g3 g4 g5:Int,o.2=B true::I a::I b::I c::I m0::I m1::I m2::I m3::I m4::I m5::I g0::I g1::I g2::I g3::I g4::I g5::Ee m0 m1 m3 m4 v/\D0 v (IntKind.i64.wrap (v-m1)))\/∃l:List AC,o.2=B false::I a::I b::I c::I m0::I m1::I m2::I m3::I m4::I m5::l)) ?_ fun o g=>by
  obtain⟨g,g2⟩:=g
  rw[g]
  refine .cond (fun _=> ?_) fun c=>by simp at c
  rcases g2 with⟨v,g0,g1,g2,g3,g4,g5,e,hs⟩|⟨l',e⟩
  ·rw[e]
   refine .cond (fun _=> .some ⟨v,rfl, .inl hs⟩) fun c=>by simp[gA,wA,bA,jA,nth,B6]at c
  ·rw[e]
   refine .cond (fun c=>by simp[gA,wA,bA,jA,nth,B6]at c) fun _=> ?_
   simp only[gA,wA,bA,jA,nth,Af]
   refine .bind hB fun o g=> ?_
   obtain⟨r,rfl,hr⟩:=g
   simp only[gA,wA,bA,jA,nth,Af]
   rw[hM]
   exact .some ⟨_,rfl, .inr ⟨r,rfl,hr⟩⟩
 refine CI (fun s:Nat×(Int×Int×Int×Int×Int×Int)=>I l::B false:: .view Aa ch::I (ch.length:Int)::I (s.1:Int)::pxt p x t [I a,I b,I c,I o0,I o1,B b0,B b1,B b2,I m0,I m1,I m2,I m3,I m4,I m5,I 0,I 0,I 0,I 0,I 0,I 0,I s.2.1,I s.2.2.1,I s.2.2.2.1,I s.2.2.2.2.1,I s.2.2.2.2.2.1,I s.2.2.2.2.2.2])
  (fun s=>s.1<=ch.length) (fun s=>ch.length-s.1) _ ?_ (0,(0,0,0,0,0,0)) (by simp)
 rintro⟨i,f0,f1,f2,f3,f4,f5⟩ g
 dsimp only at g
 rw[Zz0]
 rw[Ae (x:=(i:Int)+1) (by omega)]
 refine .cond (fun c=> ?_) (fun c=> ?_)
 ·have c:=BA c
  refine .cond (fun _=> ?_) fun c=>by simp at c;omega
  refine .cond (fun _=> ?_) fun _=> ?_
  ·exact .some (.inl ⟨rfl,(i+1,f0,f1,f2,f3,f4,f5),rfl,by dsimp only;omega,by dsimp only;omega⟩)
  ·refine .ibind (hR _ _ _ _ _) fun _ _=> .cond (fun _=> ?_) fun _=> ?_
   ·exact .some (.inl ⟨rfl,(i+1,f0,f1,f2,f3,f4,f5),rfl,by dsimp only;omega,by dsimp only;omega⟩)
   ·generalize IntKind.i64.wrap (m1+IntKind.i64.wrap (m2+Af (nth AC.dead (nth [] ch (i:Int).toNat) 0)))=v
    rw[hM]
    simp only[Option.bind_some,gA,wA,bA,jA,nth,Af]
    refine .ibind (hF _ _ _ _ _ _) fun _ _=> .cond (fun _=> ?_) fun _=> ?_
    ·refine .bind (hS v) fun o hs=> .cond (fun c=> ?_) fun _=> ?_
     ·exact .some (.inr ⟨by simp,rfl, .inl ⟨v,0,0,0,0,0,0,rfl,hs c⟩⟩)
     ·exact .some (.inl ⟨rfl,(i+1,_,_,_,_,_,_),rfl,by dsimp only;omega,by dsimp only;omega⟩)
    ·exact .some (.inl ⟨rfl,(i+1,_,_,_,_,_,_),rfl,by dsimp only;omega,by dsimp only;omega⟩)
 ·exact .some (.inr ⟨by simp,rfl, .inr ⟨_,rfl⟩⟩)
theorem Qy7 {p:Pth} {x:Ax3} {t:Trk} (h:Fix p x t) {a b c:Int} (hp:Plan3 a b c) (o0 o1:Int) (b0 b1 b2:Bool) {m0 m1 m2 m3 m4 m5 l K:Int} (hm: -K<=m2/\m2<=K) (hK:0<=K/\K<=1000000000):
  Out (Vm m0 m1 m3 m4 K) (Fj (pxt p x t [I a,I b,I c,I o0,I o1,B b0,B b1,B b2,I m0,I m1,I m2,I m3,I m4,I m5,I l])):=
 Zs6 hp (Q29 hp hm hK) (fun v=>Q46 h hp (L4 _)) (fun m0 m1 m2 m3 m4 m5=>Zus h a b c o0 o1 b0 b1 b2 m0 m1 m2 m3 m4 m5) Q1b Qwv (fun _ hj=>Q65 hj)
end Go.Bm
