/- laid together -/
import Derived.Test.YtommijghjlikkaaGreatMx3
import Derived.Test.YtommijghjlikkaaGreatPrTk4
import Derived.Test.YtommijghjlikkaaGreatBmTy
import Derived.Lib.ItoaNum
set_option linter.unusedVariables false
set_option linter.unusedSimpArgs false
set_option maxRecDepth 100000
open Go.IntKind (wrap)
namespace Go.Bm
open Classical
def pcA (l:List Pce) (i:Nat):Pce:=l.getD i pc0
def eI (l:List Pce) (i:Nat):Int:=(pcA l i).at_+(pcA l i).units
def fI:List Pce->Int->Nat
 |[],_=>0
 |c::l,u=>if u<=c.at_+c.units then 0 else fI l u+1
theorem Ha (c:Pce) (l:List Pce) (i:Nat):pcA (c::l) (i+1)=pcA l i:=by unfold pcA;simp
theorem Kc (c:Pce) (l:List Pce):pcA (c::l) 0=c:=by unfold pcA;simp
theorem SM {l:List Pce} {i:Nat} (h:i<l.length):nth [] (l.map AL) i=AL (pcA l i):=by
 have e:pcA l i=l[i]:=by unfold pcA;simp[h]
 rw[e];exact I1 _ _ _ _ h
theorem QN:∀{l:List Pce} {u:Int} {j:Nat},j<l.length->u<=eI l j->fI l u<=j
 |c::l,u,0,_,h=>by
  unfold eI at h;rw[Kc]at h;unfold fI;rw[if_pos h];exact Nat.le_refl _
 |c::l,u,j+1,hj,h=>by
  unfold fI;by_cases c0:u<=c.at_+c.units
  ·rw[if_pos c0];omega
  ·rw[if_neg c0];have:fI l u<=j:=QN (by simpa using hj) (by unfold eI at h⊢;rw[Ha]at h;exact h);omega
theorem Q4r:∀{l:List Pce} {u:Int},fI l u<l.length->u<=eI l (fI l u)
 |[],_,h=>by simp at h
 |c::l,u,h=>by
  unfold fI at h⊢;by_cases c0:u<=c.at_+c.units
  ·rw[if_pos c0];unfold eI;rw[Kc];exact c0
  ·rw[if_neg c0]at h⊢;have:=Q4r (l:=l) (u:=u) (by simpa using h);unfold eI at this⊢;rw[Ha];exact this
structure TQ (t : Trk) : Prop where
 count:t.aE.length<=10000000
 len:0<=t.length/\t.length<=900000000000000
 pos:∀i,i<t.aE.length->0<=(pcA t.aE i).at_/\1<=(pcA t.aE i).units/\eI t.aE i<=t.length
 mono:∀i j,i<=j->j<t.aE.length->eI t.aE i<=eI t.aE j
 last:t.aE≠[]->eI t.aE (t.aE.length-1)=t.length
 start:0<=t.start/\t.start<=263886834032640
 s:∀i,i<t.aE.length-> -900000000000000<=(pcA t.aE i).s/\(pcA t.aE i).s<=2000000000000000
 move:∀i,i<t.aE.length->(pcA t.aE i).move=0\/(pcA t.aE i).move=1\/(pcA t.aE i).move= -1
def clT (t:Trk) (u:Int):Int:=BC u t.length
theorem NO {t:Trk} (h:TQ t) (u:Int):0<=clT t u/\clT t u<=t.length:=by have:=h.len;unfold clT BC;omega
def iT (t:Trk) (u:Int):Nat:=fI t.aE (clT t u)
theorem KZ {t:Trk} (h:TQ t) (u:Int) (hne:t.aE≠[]):iT t u<t.aE.length:=by
 have hp:0<t.aE.length:=by
  cases hh:t.aE with
  |nil=>exact absurd hh hne
  |cons _ _=>simp
 have:=QN (l:=t.aE) (u:=clT t u) (j:=t.aE.length-1) (by omega) (by rw[h.last hne];exact(NO h u).2);unfold iT;omega
def AQ (t:Trk) (u:Int):Int:=if t.aE=[]then t.start else(pcA t.aE (iT t u)).s+(pcA t.aE (iT t u)).move*(clT t u-(pcA t.aE (iT t u)).at_)
theorem Qjz {t:Trk} (h:TQ t) {u:Int} (hi:fI t.aE u<t.aE.length):∀(k lo hi:Nat),hi-lo<=k->lo<=fI t.aE u->fI t.aE u<=hi->hi<t.aE.length->
  Am RP [I u,I lo,I hi, .view As (t.aE.map AL),I t.length,I t.start,I t.dirs.x,I t.dirs.y,I t.dirs.z]=some (1,[I (fI t.aE u)])
 |k,lo,hi,hk,h1,h2,h3=>by
  have hcnt:=h.count;have hl:=h.len;by_cases c:lo<hi
  ·have em:wrap .i64 ((wrap .i64 ((lo:Int)+hi)).tdiv 2)=(((lo+hi)/2:Nat):Int):=by
    rw[Ae (x:=(lo:Int)+hi) (by omega),Int.tdiv_eq_ediv_of_nonneg (by omega),Ae (by omega)];omega
   have hm1:lo<=(lo+hi)/2/\(lo+hi)/2<hi:=by omega
   generalize(lo+hi)/2=m at*;have hlt:m<t.aE.length:=by omega
   have hpos:=h.pos m hlt;have hin:(0:Int)<=(m:Int)/\(m:Int)<(t.aE.length:Int):=by omega
   have hw:wrap .i64 ((pcA t.aE m).at_+(pcA t.aE m).units)=eI t.aE m:=by unfold eI at hpos⊢;exact Ae (by omega)
   have hst:RP [I u,I lo,I hi, .view As (t.aE.map AL),I t.length,I t.start,I t.dirs.x,I t.dirs.y,I t.dirs.z]=if u<=eI t.aE m then some (0,[I u,I lo,I m, .view As (t.aE.map AL),I t.length,I t.start,I t.dirs.x,I t.dirs.y,I t.dirs.z])else some (0,[I u,I (m+1:Nat),I hi, .view As (t.aE.map AL),I t.length,I t.start,I t.dirs.x,I t.dirs.y,I t.dirs.z]):=by
    rw[V8,em];simp only[go_sem,List.length_map,Int.toNat_natCast,SM hlt,if_pos hin,hw,Ae (x:=(m:Int)+1) (by omega)];rw[if_pos (by omega)];rfl
   by_cases c2:u<=eI t.aE m
   ·rw[if_pos c2]at hst;rw[Bw hst];cases k with
    |zero=>omega
    |succ k=>exact Qjz h (by omega) k lo m (by omega) h1 (QN hlt c2) hlt
   ·rw[if_neg c2]at hst;rw[Bw hst];have hgt:m<fI t.aE u:=by
     by_cases c3:fI t.aE u<=m
     ·exact absurd (Int.le_trans (Q4r (by omega)) (h.mono _ _ c3 hlt)) c2
     ·omega
    cases k with
    |zero=>omega
    |succ k=>exact Qjz h (by omega) k (m+1) hi (by omega) (by omega) h2 h3
  ·refine Bb (o:=(1,_)) ?_ (by simp);rw[V8,AX (by omega),show fI t.aE u=hi by omega]
theorem Qry {t:Trk} (h:TQ t) (u:Int):II (Bo t++[I (clT t u)])=some [I (if t.aE=[]then-1 else(iT t u:Int))]:=by
 have he:=Zfw Ld (t.aE.map AL) t.length t.start t.dirs.x t.dirs.y t.dirs.z (clT t u);unfold II;refine Eq.trans he ?_;rw[List.length_map];have hcnt:=h.count;by_cases c:t.aE=[]
 ·have hl:Ld [I (clT t u),I 0,I (-1), .view As (t.aE.map AL),I t.length,I t.start,I t.dirs.x,I t.dirs.y,I t.dirs.z]=some (1,[I (-1)]):=by
   refine Bb (o:=(1,_)) ?_ (by simp);rw[V8,AX (by omega)]
  have e1:wrap .i64 ((t.aE.length:Int)-1)= -1:=by rw[c];rfl
  rw[if_pos c,e1];generalize Ld=N at*;simp only[hl,go_sem]
 ·have hp:0<t.aE.length:=by
   cases hh:t.aE with
   |nil=>exact absurd hh c
   |cons _ _=>simp
  have hi:=KZ h u c;have hl:=Qjz h (u:=clT t u) hi t.aE.length 0 (t.aE.length-1) (by omega) (by omega) (by unfold iT at hi;omega) (by omega);have hl':Ld [I (clT t u),I 0,I (t.aE.length-1:Nat), .view As (t.aE.map AL),I t.length,I t.start,I t.dirs.x,I t.dirs.y,I t.dirs.z]=some (1,[I (iT t u:Int)]):=hl;have e1:wrap .i64 ((t.aE.length:Int)-1)=((t.aE.length-1:Nat):Int):=by rw[Ae (by omega)];omega
  rw[if_neg c,e1];generalize Ld=N at*;simp only[hl',go_sem]
theorem Zsf {t:Trk} (h:TQ t) (u:Int) (hne:t.aE≠[]):
  wrap .i64 ((pcA t.aE (iT t u)).s+wrap .i64 ((pcA t.aE (iT t u)).move*wrap .i64 (clT t u-(pcA t.aE (iT t u)).at_)))=AQ t u:=by
 have hi:=KZ h u hne;have h1:=h.pos _ hi;have h2:=h.s _ hi;have h3:=h.move _ hi;have h4:=NO h u;have h5:=h.len;unfold AQ eI at*;rw[if_neg hne,Ae (x:=clT t u-_) (by omega)];generalize pcA t.aE (iT t u)=c at*;have hb:(-900000000000000<=c.move*(clT t u-c.at_)/\c.move*(clT t u-c.at_)<=900000000000000):=by
  rcases h3 with h3|h3|h3<;>rw[h3]<;>omega
 rw[Ae (x:=c.move*_) (by omega),Ae (by omega)]
theorem Zig {MF MC:Fn} {t:Trk} (h:TQ t) {u:Int} (hC:MC [I u,I t.length]=some [I (clT t u)]) (hM:MF (Bo t++[I (clT t u)])=some [I (if t.aE=[]then-1 else(iT t u:Int))]):Qg0 MF MC (Bo t++[I u])=some [I (AQ t u)]:=by
 have he:=Zmj MF MC (t.aE.map AL) t.length t.start t.dirs.x t.dirs.y t.dirs.z u;refine Eq.trans he ?_;simp only[Bo,List.cons_append,List.nil_append]at hM;by_cases c:t.aE=[]
 ·rw[if_pos c]at hM;simp only[hC,hM,go_sem];rw[if_pos (by omega)];unfold AQ;rw[if_pos c]
 ·have hi:=KZ h u c;have hcnt:=h.count;have hin:(0:Int)<=(iT t u:Int)/\(iT t u:Int)<(t.aE.length:Int):=by omega
  rw[if_neg c]at hM;simp only[hC,hM,go_sem,List.length_map,if_pos hin,Int.toNat_natCast,SM hi,Zsf h u c];rw[if_neg (by omega)]
theorem OK {t:Trk} (h:TQ t) (u:Int):EQ (Bo t++[I u])=some [I (AQ t u)]:=Zig h Qh5 (Qry h u)
end Go.Bm
namespace Go.Bm
open Classical
def Ij (sp:Int) (l:List Int):Prop:=(∀v∈l,-4096<=v/\v<=4096)/\∀i,i+1<l.length-> -sp<=4*(l.getD (i+1) 0-l.getD i 0)/\4*(l.getD (i+1) 0-l.getD i 0)<=sp
structure AxOK (a : Axs) : Prop where
 step:4<=a.step/\a.step<=64
 back:0<=a.back/\a.back<=6
 origin: -200<=a.origin/\a.origin<=200
 spacing:a.pitch≠[]->4<=a.spacing/\a.spacing<=123
 pitch:Ij a.spacing a.pitch
 count:a.pitch.length<=4
 lim:1<=a.speed/\a.speed<=1000/\2<=a.accel/\a.accel<=1000/\4<=a.jerk/\a.jerk<=1000/\a.low= -16777216/\a.high=16777216
theorem Tl {l m:List Int} {i:Nat} (h:i<l.length):(l++m).getD i 0=l.getD i 0:=by simp[List.getD_eq_getElem?_getD,List.getElem?_append_left h]
theorem Zu8 (l m:List Int) (v:Int):(l++v::m).getD l.length 0=v:=by simp[List.getD_eq_getElem?_getD]
theorem Zy4 {sp v w:Int} {l:List Int} (h:Ij sp (l++[v])) (hw: -4096<=w/\w<=4096) (hd: -sp<=4*(w-v)/\4*(w-v)<=sp):Ij sp (l++[v]++[w]):=by
 refine⟨?_,?_⟩
 ·intro x hx;rcases List.mem_append.1 hx with hx|hx
  ·exact h.1 x hx
  ·rw[List.mem_singleton]at hx;subst hx;exact hw
 ·intro i hi;simp only[List.length_append,List.length_cons,List.length_nil]at hi;by_cases c:i+1<(l++[v]).length
  ·have:=h.2 i c;have c':i<(l++[v]).length:=by omega
   rw[Tl c,Tl c'];exact this
  ·simp only[List.length_append,List.length_cons,List.length_nil]at c;have e:i=l.length:=by omega
   subst e;have g1:(l++[v]++[w]).getD (l.length+1) 0=w:=by
    simp
   have g2:(l++[v]++[w]).getD l.length 0=v:=by
    rw[List.append_assoc];exact Zu8 l ([]++[w]) v
   rw[g1,g2];exact hd
theorem Q9t {sp v:Int} {l:List Int} (h:Ij sp (l++[v])):Ij sp l:=by
 refine⟨fun x hx=>h.1 x (by simp[hx]),fun i hi=> ?_⟩;have:=h.2 i (by simp;omega);rw[Tl hi,Tl (by omega)]at this;exact this
theorem Zrz {sp v:Int} (hv: -4096<=v/\v<=4096):Ij sp ([]++[v]):=⟨fun x hx=>by simp at hx;subst hx;exact hv,fun i hi=>by simp at hi⟩
theorem Zim {v:Int} (h:0<=v/\v<6):∃x,Af (nth .dead (nth [] [[I 8],[I 4],[I 5],[I 16],[I 23],[I 64]] v.toNat) 0)=x/\4<=x/\x<=64:=by
 have hc:v=0\/v=1\/v=2\/v=3\/v=4\/v=5:=by omega
 rcases hc with rfl|rfl|rfl|rfl|rfl|rfl<;>exact⟨_,rfl,by decide⟩
theorem WP {v:Int} (h:0<=v/\v<5):∃x y z,Af (nth .dead (nth [] [[I 40],[I 1],[I 3],[I 9],[I 1000]] v.toNat) 0)=x/\Af (nth .dead (nth [] [[I 20],[I 2],[I 3],[I 5],[I 1000]] v.toNat) 0)=y/\Af (nth .dead (nth [] [[I 30],[I 4],[I 5],[I 8],[I 1000]] v.toNat) 0)=z/\1<=x/\x<=1000/\2<=y/\y<=1000/\4<=z/\z<=1000:=by
 have hc:v=0\/v=1\/v=2\/v=3\/v=4:=by omega
 rcases hc with rfl|rfl|rfl|rfl|rfl<;>exact⟨_,_,_,rfl,rfl,rfl,by decide⟩
theorem Zlu {v:Int} (h:0<=v/\v<4):∃x,Af (nth .dead (nth [] [[I 0],[I 1],[I 3],[I 6]] v.toNat) 0)=x/\0<=x/\x<=6:=by
 have hc:v=0\/v=1\/v=2\/v=3:=by omega
 rcases hc with rfl|rfl|rfl|rfl<;>exact⟨_,rfl,by decide⟩
abbrev axS (l:Rw) (pit:List Int) (n v:Int) (j:Nat) (a:Axs) (k:Nat):List AC:=
 [.view Aa [], .view Aa (pit.map Ao),I n,I v,I j,I 0,I 0,I 0,I 0,I 0,I 0,I 0,I 0,I 0,I a.step,I a.speed,I a.accel,I a.jerk,I a.low,I a.high,I a.back,I a.origin,I a.spacing, .view Aa l,I k]
theorem Q5t {MN:Fn} {l:Rw} (hN:LI l MN) {a:Axs} (hsp:4<=a.spacing/\a.spacing<=123):∀(r j:Nat) (pit:List Int) (v:Int) (k:Nat),j+r<=4->pit.length=j->Ij a.spacing (pit++[v])->
  ∃(pit':List Int) (k':Nat),Am (QO MN) (axS l pit (j+r:Nat) v j a k)=some (1,[.view Aa [], .view Aa (pit'.map Ao),I 0,I 0,I 0,I 0,I 0,I 0,I 0,I 0,I 0,I a.step,I a.speed,I a.accel,I a.jerk,I a.low,I a.high,I a.back,I a.origin,I a.spacing, .view Aa l,I k'])/\pit'.length=j+r/\Ij a.spacing pit'
 |0,j,pit,v,k,_,hl,h=>by
  refine⟨pit,k,Bb (o:=(1,_)) ?_ (by simp),by omega,Q9t h⟩;rw[Qvd,AX (by omega)]
 |r+1,j,pit,v,k,hj,hl,h=>by
  have hv:=h.1 v (by simp);have e4:wrap .i64 (a.spacing.tdiv 4)=a.spacing/4:=by rw[Int.tdiv_eq_ediv_of_nonneg (by omega),Ae (by omega)]
  have e5:wrap .i64 (wrap .i64 (2*(a.spacing/4))+1)=2*(a.spacing/4)+1:=by rw[Ae (x:=2*(a.spacing/4)) (by omega),Ae (by omega)]
  obtain⟨w,k1,hw,w0,w1,-⟩:=hN k (n:=2*(a.spacing/4)+1) (by omega);have e6:wrap .i64 (wrap .i64 (v+w)-a.spacing/4)=v+w-a.spacing/4:=by rw[Ae (x:=v+w) (by omega),Ae (by omega)]
  have hle:(pit.map Ao++[[I v]]).length*8<=140737488355328:=by rw[List.length_append,List.length_map];simp only[List.length_cons,List.length_nil];omega
  have hst:QO MN (axS l pit (j+(r+1):Nat) v j a k)=some (0,axS l (pit++[v]) (j+1+r:Nat) (min (max (v+w-a.spacing/4) (-4096)) 4096) (j+1) a k1):=by
   rw[Qvd];simp only[go_sem,if_pos hle,e4,e5,hw,e6,JR,Np];rw[if_pos (by omega),Ae (x:=(j:Int)+1) (by omega),show j+(r+1)=j+1+r by omega];simp only[axS,List.map_append,List.map_cons,List.map_nil,Ao,Int.natCast_add,Int.cast_ofNat_Int]
  rw[Bw hst];obtain⟨p',k',h1,h2,h3⟩:=Q5t hN hsp r (j+1) (pit++[v]) (min (max (v+w-a.spacing/4) (-4096)) 4096) k1 (by omega) (by simp[hl]) (Zy4 h (by omega) (by omega));exact⟨p',k',h1,by omega,h3⟩
theorem Zcj {MN:Fn} {N:Lp} {l:Rw} (hN:LI l MN)
  (hL:∀{a:Axs} {n:Nat} {v:Int} {k:Nat},(4<=a.spacing/\a.spacing<=123)->n<=4->Ij a.spacing ([]++[v])->∃(pit':List Int) (k':Nat),N (axS l [] n v 0 a k)=some (1,[.view Aa [], .view Aa (pit'.map Ao),I 0,I 0,I 0,I 0,I 0,I 0,I 0,I 0,I 0,I a.step,I a.speed,I a.accel,I a.jerk,I a.low,I a.high,I a.back,I a.origin,I a.spacing, .view Aa l,I k'])/\pit'.length=n/\Ij a.spacing pit') (k:Nat):
  ∃(a:Axs) (k':Nat),Vt MN N [.view Aa l,I k]=some (Bk a++[.view Aa l,I k'])/\AxOK a:=by
 obtain⟨v1,k1,h1,a1,b1,-⟩:=hN k (n:=6) (by omega);obtain⟨v2,k2,h2,a2,b2,-⟩:=hN k1 (n:=4) (by omega);obtain⟨v3,k3,h3,a3,b3,-⟩:=hN k2 (n:=5) (by omega);obtain⟨v4,k4,h4,a4,b4,-⟩:=hN k3 (n:=5) (by omega);obtain⟨v5,k5,h5,a5,b5,-⟩:=hN k4 (n:=5) (by omega);obtain⟨v6,k6,h6,a6,b6,-⟩:=hN k5 (n:=5) (by omega);obtain⟨v7,k7,h7,a7,b7,-⟩:=hN k6 (n:=400) (by omega);obtain⟨v8,k8,h8,a8,b8,-⟩:=hN k7 (n:=120) (by omega);obtain⟨v9,k9,h9,a9,b9,-⟩:=hN k8 (n:=9) (by omega);obtain⟨x1,e1,s1⟩:=Zim ⟨a1,b1⟩;obtain⟨x2,e2,s2⟩:=Zlu ⟨a2,b2⟩;have i1:(0:Int)<=v1/\v1<(([[I 8],[I 4],[I 5],[I 16],[I 23],[I 64]]:Rw).length:Int):=⟨a1,by simp;omega⟩;have i2:(0:Int)<=v2/\v2<(([[I 0],[I 1],[I 3],[I 6]]:Rw).length:Int):=⟨a2,by simp;omega⟩;have i3:(0:Int)<=v3/\v3<(([[I 40],[I 1],[I 3],[I 9],[I 1000]]:Rw).length:Int):=⟨a3,by simp;omega⟩;have i4:(0:Int)<=v4/\v4<(([[I 20],[I 2],[I 3],[I 5],[I 1000]]:Rw).length:Int):=⟨a4,by simp;omega⟩;have i5:(0:Int)<=v5/\v5<(([[I 30],[I 4],[I 5],[I 8],[I 1000]]:Rw).length:Int):=⟨a5,by simp;omega⟩;obtain⟨x3,_,_,hx3,-,-,s3,t3,-⟩:=WP ⟨a3,b3⟩;obtain⟨_,x4,_,-,hx4,-,-,-,s4,t4,-⟩:=WP ⟨a4,b4⟩;obtain⟨_,_,x5,-,-,hx5,-,-,-,-,s5,t5⟩:=WP ⟨a5,b5⟩;have main : ∀ R, R = (if v6 = 0 then some [I x1, I x3, I x4, I x5, I (-16777216), I 16777216, I x2, I 0, I 0, .view Aa [], .view Aa l, I k6] else
   (N (axS l [] v6.toNat (v9-4) 0 ⟨x1,x3,x4,x5,-16777216,16777216,x2,v7-200,4+v8,[]⟩ k9)).bind fun o=>if o.1=1 then some [I (Af (nth .dead o.2 11)),I (Af (nth .dead o.2 12)),I (Af (nth .dead o.2 13)),I (Af (nth .dead o.2 14)),I (Af (nth .dead o.2 15)),I (Af (nth .dead o.2 16)),I (Af (nth .dead o.2 17)),I (Af (nth .dead o.2 18)),I (Af (nth .dead o.2 19)), .view Aa (BR (nth .dead o.2 1)), .view Aa (BR (nth .dead o.2 20)),I (Af (nth .dead o.2 21))]else none)->
   ∃(a:Axs) (k':Nat),R=some (Bk a++[.view Aa l,I k'])/\AxOK a:=by
  intro R hR;by_cases c:v6=0
  ·rw[if_pos c]at hR;refine⟨⟨x1,x3,x4,x5,-16777216,16777216,x2,0,0,[]⟩,k6,hR,?_⟩;exact⟨s1,s2,by simp,fun h=>absurd rfl h,⟨by simp,by simp⟩,by simp,⟨s3,t3,s4,t4,s5,t5,rfl,rfl⟩⟩
  ·rw[if_neg c]at hR;obtain⟨pit,k',g1,g2,g3⟩:=hL (a:=⟨x1,x3,x4,x5,-16777216,16777216,x2,v7-200,4+v8,[]⟩) (n:=v6.toNat) (v:=v9-4) (k:=k9) (by simp only;omega) (by omega) (Zrz (by omega));rw[g1]at hR;refine⟨⟨x1,x3,x4,x5,-16777216,16777216,x2,v7-200,4+v8,pit⟩,k',?_,?_⟩
   ·rw[hR];simp only[go_sem];try rfl
   ·exact⟨s1,s2,by simp only;omega,fun _=>by simp only;omega,g3,by simp only;omega,⟨s3,t3,s4,t4,s5,t5,rfl,rfl⟩⟩
 refine main _ ?_;rw[Zry];simp only[go_sem,h1,h2,h3,h4,h5,h6,if_pos i1,if_pos i2,if_pos i3,if_pos i4,if_pos i5,e1,e2,hx3,hx4,hx5];by_cases c:v6=0
 ·rw[if_pos c,if_pos c]
 ·rw[if_neg c,if_neg c];simp only[h7,h8,h9,go_sem,Ae (x:=v9-4) (by omega),Ae (x:=v7-200) (by omega),Ae (x:=4+v8) (by omega)];have e:((v6.toNat:Nat):Int)=v6:=by omega
  simp only[axS,e,List.map_nil];rfl
theorem Qea {l:Rw} (hl:Src l) (k:Nat):∃(a:Axs) (k':Nat),Ms [.view Aa l,I k]=some (Bk a++[.view Aa l,I k'])/\AxOK a:=by
 refine Zcj (N:=Qgs) (Mf hl) (fun{a n v k} hs hn hv=> ?_) k;obtain⟨p,k',h1,h2,h3⟩:=Q5t (MN:=Df) (Mf hl) hs n 0 [] v k (by omega) rfl hv;rw[Nat.zero_add]at h1 h2;exact⟨p,k',h1,h2,h3⟩
structure Ax3M (x : Ax3) : Prop where
 a:AxOK x.a
 b:AxOK x.b
 c:AxOK x.c
theorem Ax3M.ok {x:Ax3} (h:Ax3M x):Ax3OK x:=⟨by have:=h.a.back;omega,by have:=h.b.back;omega,by have:=h.c.back;omega⟩
theorem Zcu {l:Rw} (hl:Src l):∃x:Ax3,NV [.view Aa l]=some (AO x)/\Ax3M x:=by
 obtain⟨a,k1,h1,g1⟩:=Qea hl 0;obtain⟨b,k2,h2,g2⟩:=Qea hl k1;obtain⟨c,k3,h3,g3⟩:=Qea hl k2;refine⟨⟨a,b,c⟩,?_,g1,g2,g3⟩;have hf:=RL l;unfold NV;generalize Ms=MA at*;generalize Dw=MF at*;rw[Zbs];have h1':MA [.view Aa l,I 0]=some (Bk a++[.view Aa l,I k1]):=h1;simp only[Bk,List.cons_append,List.nil_append]at h1' h2 h3;simp only[go_sem,hf,h1',h2,h3]
end Go.Bm
namespace Go.Bm
open Classical
theorem Zm1 {p:Pth} {x:Ax3} {mv lo hi f:Int} {d:Pt} (j:Nat):(CJ p x mv lo hi (⟨[],0,f,d⟩,d) j).1.start=f/\(CJ p x mv lo hi (⟨[],0,f,d⟩,d) j).1.dirs=d:=by
 induction j with
 |zero=>exact⟨rfl,rfl⟩
 |succ j ih=>rw[CJ,(Qsf _).1,(Qsf _).2];exact ih
theorem Q1r {p:Pth} {x:Ax3} {lo hi mv f:Int} {d:Pt} (hv:mv=1\/mv= -1) (hp:GoodPath p) (hx:Ax3OK x):∀(k j:Nat),j+k=p.aF.length->∀w,w=CJ p x mv lo hi (⟨[],0,f,d⟩,d) j->
  Am (Tq FA Nr) (PK p x lo hi mv w.1 w.2 j)=some (1,Fqs x mv (CJ p x mv lo hi (⟨[],0,f,d⟩,d) p.aF.length).1 (CJ p x mv lo hi (⟨[],0,f,d⟩,d) p.aF.length).2)
 |0,j,hj,w,hw=>by
  have hj':j=p.aF.length:=by omega
  refine Bb (o:=(1,_)) ?_ (by simp);rw[Qu8,AX (by omega),hw,hj']
 |k+1,j,hj,w,hw=>by
  have hcnt:=hp.count;have hb:=Qk3 (mv:=mv) (lo:=lo) (hi:=hi) (f:=f) (d:=d) hx hp.ok j (by omega);rw[<-hw]at hb;have hst:=Zbn (MV:=FA) (N:=Nr) (lo:=lo) (hi:=hi) (now:=w.2) (j:=j) hv hp hx hb (by omega) (by omega) (by omega) (fun{a b s units} hu=>Znt hv hx hb (by omega) (by omega) (k:=268435456) (by omega) hu);rw[Bw hst];exact Q1r hv hp hx k (j+1) (by omega) _ (by rw[CJ,<-hw])
theorem Q7w {MV:Fn} {N4 N10:Lp} {p:Pth} {x:Ax3} {lo hi mv f:Int} {d:Pt}
  (h4:N4 (Qk p x lo hi mv ⟨[],0,f,d⟩ d 0 [] 0)=some (1,[.view Aa (Fa p.aF p.aF.length), .view As [],I lo,I hi,I mv,I p.start.x,I p.start.y,I p.start.z, .view Ag (p.aF.map Ay), .view AE (p.aD.map At),I d.x,I d.y,I d.z,I mv,I x.a.step,I x.a.speed,I x.a.accel,I x.a.jerk,I x.a.low,I x.a.high,I x.a.back,I x.a.origin,I x.a.spacing, .view Aa (x.a.pitch.map Ao),I x.b.step,I x.b.speed,I x.b.accel,I x.b.jerk,I x.b.low,I x.b.high,I x.b.back,I x.b.origin,I x.b.spacing, .view Aa (x.b.pitch.map Ao),I x.c.step,I x.c.speed,I x.c.accel,I x.c.jerk,I x.c.low,I x.c.high,I x.c.back,I x.c.origin,I x.c.spacing, .view Aa (x.c.pitch.map Ao),I 0,I f,I d.x,I d.y,I d.z]))
  (h10:N10 (PK p x lo hi mv ⟨[],0,f,d⟩ d 0)=some (1,Fqs x mv (CJ p x mv lo hi (⟨[],0,f,d⟩,d) p.aF.length).1 (CJ p x mv lo hi (⟨[],0,f,d⟩,d) p.aF.length).2)):
  Yl MV N4 N10 [.view As [],I p.start.x,I p.start.y,I p.start.z, .view Ag (p.aF.map Ay), .view AE (p.aD.map At),I lo,I hi,I mv,I d.x,I d.y,I d.z,I mv,I x.a.step,I x.a.speed,I x.a.accel,I x.a.jerk,I x.a.low,I x.a.high,I x.a.back,I x.a.origin,I x.a.spacing, .view Aa (x.a.pitch.map Ao),I x.b.step,I x.b.speed,I x.b.accel,I x.b.jerk,I x.b.low,I x.b.high,I x.b.back,I x.b.origin,I x.b.spacing, .view Aa (x.b.pitch.map Ao),I x.c.step,I x.c.speed,I x.c.accel,I x.c.jerk,I x.c.low,I x.c.high,I x.c.back,I x.c.origin,I x.c.spacing, .view Aa (x.c.pitch.map Ao),I 0,I f,I d.x,I d.y,I d.z]=some (Fqs x mv (CJ p x mv lo hi (⟨[],0,f,d⟩,d) p.aF.length).1 (CJ p x mv lo hi (⟨[],0,f,d⟩,d) p.aF.length).2):=by
 rw[Zk4];simp only[Qk,List.map_nil,Int.cast_ofNat_Int]at h4;simp only[PK,Fqs,List.map_nil,Int.cast_ofNat_Int]at h10;simp only[go_sem,List.length_map,h4,h10]
theorem Zzb {p:Pth} {x:Ax3} {lo hi mv f:Int} {d:Pt} (hv:mv=1\/mv= -1) (hp:GoodPath p) (hx:Ax3OK x):
  O7 [.view As [],I p.start.x,I p.start.y,I p.start.z, .view Ag (p.aF.map Ay), .view AE (p.aD.map At),I lo,I hi,I mv,I d.x,I d.y,I d.z,I mv,I x.a.step,I x.a.speed,I x.a.accel,I x.a.jerk,I x.a.low,I x.a.high,I x.a.back,I x.a.origin,I x.a.spacing, .view Aa (x.a.pitch.map Ao),I x.b.step,I x.b.speed,I x.b.accel,I x.b.jerk,I x.b.low,I x.b.high,I x.b.back,I x.b.origin,I x.b.spacing, .view Aa (x.b.pitch.map Ao),I x.c.step,I x.c.speed,I x.c.accel,I x.c.jerk,I x.c.low,I x.c.high,I x.c.back,I x.c.origin,I x.c.spacing, .view Aa (x.c.pitch.map Ao),I 0,I f,I d.x,I d.y,I d.z]=some (Fqs x mv (CJ p x mv lo hi (⟨[],0,f,d⟩,d) p.aF.length).1 (CJ p x mv lo hi (⟨[],0,f,d⟩,d) p.aF.length).2):=by
 refine Q7w (MV:=FA) (N4:=Nr) (N10:=XE) ?_ (Q1r hv hp hx p.aF.length 0 (by omega) _ rfl);have h:=Qs4 (M:=FA) (x:=x) (lo:=lo) (hi:=hi) (mv:=mv) (t:=⟨[],0,f,d⟩) (now:=d) hp.ok p.aF.length 0 (by omega);rw[Sd]at h;exact h
theorem Zzj {ME M2 M1 MC ML:Fn} {p:Pth} {x:Ax3} {d:Pt} {from_ to:Int} (hL:ML (Bp p)=some [I (AF p.aF)]) (hC:∀n h:Int,MC [I n,I h]=some [I (BC n h)])
  (hE:∀{lo hi mv f:Int},(mv=1\/mv= -1)->ME [.view As [],I p.start.x,I p.start.y,I p.start.z, .view Ag (p.aF.map Ay), .view AE (p.aD.map At),I lo,I hi,I mv,I d.x,I d.y,I d.z,I mv,I x.a.step,I x.a.speed,I x.a.accel,I x.a.jerk,I x.a.low,I x.a.high,I x.a.back,I x.a.origin,I x.a.spacing, .view Aa (x.a.pitch.map Ao),I x.b.step,I x.b.speed,I x.b.accel,I x.b.jerk,I x.b.low,I x.b.high,I x.b.back,I x.b.origin,I x.b.spacing, .view Aa (x.b.pitch.map Ao),I x.c.step,I x.c.speed,I x.c.accel,I x.c.jerk,I x.c.low,I x.c.high,I x.c.back,I x.c.origin,I x.c.spacing, .view Aa (x.c.pitch.map Ao),I 0,I f,I d.x,I d.y,I d.z]=some (Fqs x mv (CJ p x mv lo hi (⟨[],0,f,d⟩,d) p.aF.length).1 (CJ p x mv lo hi (⟨[],0,f,d⟩,d) p.aF.length).2)):
  Ql3 ME M2 M1 MC ML (Bp p++AO x++[I d.x,I d.y,I d.z,I from_,I to])=some (Bo (Ee p x d from_ to)):=by
 have he:=Zpi ME M2 M1 MC ML p.start.x p.start.y p.start.z (p.aF.map Ay) (p.aD.map At) x.a.step x.a.speed x.a.accel x.a.jerk x.a.low x.a.high x.a.back x.a.origin x.a.spacing (x.a.pitch.map Ao) x.b.step x.b.speed x.b.accel x.b.jerk x.b.low x.b.high x.b.back x.b.origin x.b.spacing (x.b.pitch.map Ao) x.c.step x.c.speed x.c.accel x.c.jerk x.c.low x.c.high x.c.back x.c.origin x.c.spacing (x.c.pitch.map Ao) d.x d.y d.z from_ to;refine Eq.trans he ?_;unfold Ee;simp only[Bp]at hL;simp only[hL,hC,go_sem,JR,Np];generalize BC from_ (AF p.aF)=f at*;generalize BC to (AF p.aF)=t at*;by_cases c:t<f
 ·have h:=hE (lo:=min f t) (hi:=max f t) (mv:= -1) (f:=f) (.inr rfl);simp only[Fqs]at h;simp only[h,go_sem,c,if_true]
 ·have h:=hE (lo:=min f t) (hi:=max f t) (mv:=1) (f:=f) (.inl rfl);simp only[Fqs]at h;simp only[h,go_sem,c,if_false]
theorem Zkd {p:Pth} {x:Ax3} {d:Pt} {from_ to:Int} (hp:GoodPath p) (hx:Ax3OK x):Qn (Bp p++AO x++[I d.x,I d.y,I d.z,I from_,I to])=some (Bo (Ee p x d from_ to)):=
 Zzj (Q2k hp.ok) (fun _ _=>Qh5) fun hv=>Zzb hv hp hx
theorem Zsd {p:Pth} {x:Ax3} (d:Pt) (a b:Int) (hp:GoodPath p) (hx:Ax3OK x):(Ee p x d a b).aE.length<=10000000/\0<=(Ee p x d a b).length/\(Ee p x d a b).length<=900000000000000:=by
 have hc:=hp.count;have h:=Qk3 (mv:=if BC a (AF p.aF)>BC b (AF p.aF)then-1 else 1) (lo:=min (BC a (AF p.aF)) (BC b (AF p.aF))) (hi:=max (BC a (AF p.aF)) (BC b (AF p.aF))) (f:=BC a (AF p.aF)) (d:=d) hx hp.ok p.aF.length (Nat.le_refl _);obtain⟨h1,h2,-⟩:=h;unfold Ee;simp only;refine⟨by omega,by omega,by omega⟩
end Go.Bm
namespace Go.Bm
open Classical
theorem Qjk {x:Ax3} {mv:Int} {Q:Int->Pt->Prop}:∀{a s:Int} {d:Pt} {l:List Pce},DW x mv Q a s d l->a<=CR a l
 |a,_,_,[],_=>Int.le_refl _
 |a,s,d,c::l,h=>by
  obtain⟨-,-,h3,-,h5⟩:=h;have:=Qjk h5;unfold CR;omega
theorem Pe {x:Ax3} {mv:Int} {Q:Int->Pt->Prop} (hv:mv=1\/mv= -1):∀{a s:Int} {d:Pt} {l:List Pce},DW x mv Q a s d l->∀i,i<l.length->
  a<=(pcA l i).at_/\1<=(pcA l i).units/\eI l i<=CR a l/\(s-((pcA l i).at_-a)<=(pcA l i).s/\(pcA l i).s<=s+((pcA l i).at_-a))/\((pcA l i).move=0\/(pcA l i).move=mv)
 |a,s,d,c::l,h,0,_=>by
  obtain⟨h1,h2,h3,h4,h5⟩:=h;have:=Qjk h5;unfold eI;rw[Kc];refine⟨by omega,h3,by unfold CR;omega,by omega,?_⟩;rcases h4 with h4|h4
  ·exact .inr h4.1
  ·exact .inl h4.1
 |a,s,d,c::l,h,i+1,hi=>by
  obtain⟨h1,h2,h3,h4,h5⟩:=h;have ih:=Pe hv h5 i (by simpa using hi);unfold eI at ih⊢;rw[Ha];obtain⟨g1,g2,g3,g4,g5⟩:=ih;have hm:c.move*c.units=0\/c.move*c.units=c.units\/c.move*c.units= -c.units:=by
   rcases h4 with h4|h4
   ·rw[h4.1];rcases hv with rfl|rfl<;>omega
   ·rw[h4.1];omega
  refine⟨by omega,g2,by unfold CR;exact g3,by omega,g5⟩
theorem Q1l {x:Ax3} {mv:Int} {Q:Int->Pt->Prop} (hv:mv=1\/mv= -1):∀{a s:Int} {d:Pt} {l:List Pce},DW x mv Q a s d l->∀i j,i<=j->j<l.length->eI l i<=eI l j
 |a,s,d,c::l,h,0,0,_,_=>Int.le_refl _
 |a,s,d,c::l,h,0,j+1,_,hj=>by
  obtain⟨h1,h2,h3,h4,h5⟩:=h;have:=Pe hv h5 j (by simpa using hj);unfold eI at*;rw[Kc,Ha];omega
 |a,s,d,c::l,h,i+1,0,hij,_=>by omega
 |a,s,d,c::l,h,i+1,j+1,hij,hj=>by
  obtain⟨h1,h2,h3,h4,h5⟩:=h;have:=Q1l hv h5 i j (by omega) (by simpa using hj);unfold eI at*;rw[Ha,Ha];exact this
theorem Qxx {x:Ax3} {mv:Int} {Q:Int->Pt->Prop}:∀{a s:Int} {d:Pt} {l:List Pce},DW x mv Q a s d l->l≠[]->eI l (l.length-1)=CR a l
 |a,s,d,[c],h,_=>by
  obtain⟨h1,-⟩:=h;show eI [c] 0=CR a [c];unfold eI;rw[Kc];simp only[CR];omega
 |a,s,d,c::e::l,h,_=>by
  obtain⟨-,-,-,-,h5⟩:=h;have:=Qxx h5 (by simp);have e1:(c::e::l).length-1=((e::l).length-1)+1:=by simp
  rw[e1];unfold eI at*;rw[Ha,this];rfl
def mvP (p:Pth) (a b:Int):Int:=if BC a (AF p.aF)>BC b (AF p.aF)then-1 else 1
theorem Zj6 (p:Pth) (a b:Int):mvP p a b=1\/mvP p a b= -1:=by unfold mvP;split<;>simp
theorem Qky {p:Pth} {x:Ax3} {d:Pt} {a b:Int} {Q:Int->Pt->Prop} (hx:Ax3OK x) (hp:GoodPath p) (hQ:Q6d p (mvP p a b) Q):
  ∃d',TC x (mvP p a b) Q (Ee p x d a b) (BC b (AF p.aF)) d'/\(Ee p x d a b).start=BC a (AF p.aF)/\(Ee p x d a b).dirs=d:=by
 have hn:=QL hp;have ha:0<=BC a (AF p.aF)/\BC a (AF p.aF)<=AF p.aF:=by unfold BC;omega
 have hb:0<=BC b (AF p.aF)/\BC b (AF p.aF)<=AF p.aF:=by unfold BC;omega
 have hk:=fun mv lo hi f=>Zm1 (p:=p) (x:=x) (mv:=mv) (lo:=lo) (hi:=hi) (f:=f) (d:=d) p.aF.length;unfold Ee mvP at*;simp only;generalize BC a (AF p.aF)=f at*;generalize BC b (AF p.aF)=t at*;have h:=Qoi (p:=p) (x:=x) (mv:=if f>t then-1 else 1) (lo:=min f t) (hi:=max f t) (f:=f) (d:=d) (Q:=Q) (by split<;>simp) hx hp.ok (by omega) (by split<;>omega) hQ p.aF.length (Nat.le_refl _);have hs:JB p.aF (if f>t then-1 else 1) (min f t) (max f t) p.aF.length=t:=by
  unfold JB;rw[Nat.sub_self,Sd,Qvh];by_cases c:f>t
  ·rw[if_pos c,if_pos (by omega)];omega
  ·rw[if_neg c,if_neg (by omega)];omega
 rw[hs]at h;exact⟨_,h,(hk _ _ _ _).1,(hk _ _ _ _).2⟩
theorem Zwe {x:Ax3} {mv:Int} {Q:Int->Pt->Prop} {t:Trk} {s:Int} {d:Pt} (hv:mv=1\/mv= -1) (h:TC x mv Q t s d) (hb:t.aE.length<=10000000/\0<=t.length/\t.length<=900000000000000) (hs:0<=t.start/\t.start<=263886834032640):TQ t:=by
 obtain⟨h1,h2,-,-⟩:=h;refine⟨hb.1,hb.2,fun i hi=> ?_,Q1l hv h1,fun hne=>by rw[Qxx h1 hne,h2],hs,fun i hi=> ?_,fun i hi=> ?_⟩
 ·have:=Pe hv h1 i hi;rw[h2]at this;exact⟨this.1,this.2.1,this.2.2.1⟩
 ·have:=Pe hv h1 i hi;rw[h2]at this;unfold eI at this;omega
 ·have:=(Pe hv h1 i hi).2.2.2.2;rcases hv with rfl|rfl
  ·rcases this with h|h
   ·exact .inl h
   ·exact .inr (.inl h)
  ·rcases this with h|h
   ·exact .inl h
   ·exact .inr (.inr h)
theorem Qy9 {p:Pth} {x:Ax3} (d:Pt) (a b:Int) (hx:Ax3OK x) (hp:GoodPath p):TQ (Ee p x d a b):=by
 have hn:=QL hp;obtain⟨d',h1,h2,-⟩:=Qky (d:=d) (a:=a) (b:=b) (Q:=fun _ _=>True) hx hp (fun _ _ _ _ _ _ _ _=>trivial);exact Zwe (Zj6 p a b) h1 (Zsd d a b hp hx) (by rw[h2];unfold BC;omega)
end Go.Bm
namespace Go.Bm
open Classical
def Ca (a:Axs) (i:Nat):Int:=a.pitch.getD i 0
def JH (a:Axs) (p:Int):Int:=
 if a.pitch=[]then 0
 else if p<=a.origin then Ca a 0
 else if(p-a.origin)/a.spacing>=a.pitch.length-1 then Ca a (a.pitch.length-1)
 else Ca a ((p-a.origin)/a.spacing).toNat+Bh ((Ca a (((p-a.origin)/a.spacing).toNat+1)-Ca a ((p-a.origin)/a.spacing).toNat)*(p-a.origin-(p-a.origin)/a.spacing*a.spacing)) a.spacing
def HS (a:Axs) (p:Int):Int:=Bh (p+JH a p) a.step
def okB (p:Int):Prop:= -1000000000<=p/\p<=1000000000
theorem Qo3 {l:List Int} (h:l≠[]):0<l.length:=by
 cases l with
 |nil=>exact absurd rfl h
 |cons _ _=>simp
theorem PT {a:Axs} (h:AxOK a) {i:Nat} (hi:i<a.pitch.length): -4096<=Ca a i/\Ca a i<=4096:=by
 have e:Ca a i=a.pitch[i]:=by unfold Ca;simp[hi]
 rw[e];exact h.pitch.1 _ (List.getElem_mem _)
theorem Q9 {a:Axs} {i:Nat} (hi:i<a.pitch.length):nth [] (a.pitch.map Ao) i=[I (Ca a i)]:=by
 have e:Ca a i=a.pitch[i]:=by unfold Ca;simp[hi]
 rw[e];exact I1 _ _ _ _ hi
theorem Qx8 {a:Axs} (h:AxOK a) (hne:a.pitch≠[]) {p:Int} (h1: ¬p<=a.origin) (h2: ¬(p-a.origin)/a.spacing>=a.pitch.length-1):
  ∃(i:Nat) (r:Int),((p-a.origin)/a.spacing=i)/\i+1<a.pitch.length/\0<=r/\r<a.spacing/\p-a.origin=i*a.spacing+r/\p-a.origin-(p-a.origin)/a.spacing*a.spacing=r:=by
 have hs:=h.spacing hne;have e0:=Int.mul_ediv_add_emod (p-a.origin) a.spacing;have e1:=Int.emod_nonneg (p-a.origin) (show a.spacing≠0 by omega);have e2:=Int.emod_lt_of_pos (p-a.origin) (show 0<a.spacing by omega);have e3:0<=(p-a.origin)/a.spacing:=Int.ediv_nonneg (by omega) (by omega);refine⟨((p-a.origin)/a.spacing).toNat,(p-a.origin)%a.spacing,by omega,by omega,e1,e2,?_,?_⟩
 ·rw[Int.toNat_of_nonneg e3,Int.mul_comm];omega
 ·rw[Int.mul_comm ((p-a.origin)/a.spacing)];omega
theorem Q66 {a:Axs} (h:AxOK a) (hne:a.pitch≠[]) {i:Nat} (hi:i+1<a.pitch.length) {r:Int} (hr:0<=r/\r<=a.spacing):
  (-30<=Ca a (i+1)-Ca a i/\Ca a (i+1)-Ca a i<=30)/\(Bh ((Ca a (i+1)-Ca a i)*r) a.spacing).natAbs<=31:=by
 have hs:=h.spacing hne;have hp:=h.pitch.2 i hi;have hd: -30<=Ca a (i+1)-Ca a i/\Ca a (i+1)-Ca a i<=30:=by unfold Ca;omega
 refine⟨hd,ZP (by omega) ?_⟩;have m1:(Ca a (i+1)-Ca a i)*r<=31*r:=Int.mul_le_mul_of_nonneg_right (by omega) hr.1;have m2: -31*r<=(Ca a (i+1)-Ca a i)*r:=Int.mul_le_mul_of_nonneg_right (by omega) hr.1;have e:((31:Nat):Int)=31:=rfl;rw[e];omega
theorem Qyn {a:Axs} (h:AxOK a) (p:Int): -5000<=JH a p/\JH a p<=5000:=by
 unfold JH;by_cases c:a.pitch=[]
 ·rw[if_pos c];omega
 ·have hl:=Qo3 c;rw[if_neg c];by_cases c1:p<=a.origin
  ·rw[if_pos c1];have:=PT h (show 0<a.pitch.length from hl);omega
  ·rw[if_neg c1];by_cases c2:(p-a.origin)/a.spacing>=a.pitch.length-1
   ·rw[if_pos c2];have:=PT h (show a.pitch.length-1<a.pitch.length by omega);omega
   ·rw[if_neg c2];obtain⟨i,r,e1,e2,e3,e4,e5,e6⟩:=Qx8 h c c1 c2;rw[e6,e1,Int.toNat_natCast];have b1:=PT h (show i<a.pitch.length by omega);have b2:=(Q66 h c e2 (r:=r) (by omega)).2;omega
theorem Zwt {a:Axs} (h:AxOK a) {v:Int} (hv:v.natAbs<=1000010000):Jo (Bk a++[I v])=some [I (Bh v a.step)]:=by
 have hs:=h.step;have he:=Zf9 a.step a.speed a.accel a.jerk a.low a.high a.back a.origin a.spacing (a.pitch.map Ao) v;unfold Jo;refine Eq.trans he ?_;rw[Ae (x:=2*v) (by omega),Ae (x:=2*v+a.step) (by omega),Ae (x:=2*a.step) (by omega)];have hm:=Int.tmod_add_mul_tdiv (2*v+a.step) (2*a.step);have h1:=Int.tmod_lt_of_pos (2*v+a.step) (show 0<2*a.step by omega);have h2:=Int.lt_tmod_of_pos (2*v+a.step) (show 0<2*a.step by omega);have hq:((2*v+a.step).tdiv (2*a.step)).natAbs<=(2*v+a.step).natAbs:=by rw[Int.natAbs_tdiv];exact Nat.div_le_self _ _
 generalize(2*v+a.step).tdiv (2*a.step)=q at*;generalize(2*v+a.step).tmod (2*a.step)=r at*;have e1:2*a.step*q=q*(2*a.step):=Int.mul_comm _ _;rw[AX (by omega),AX (by omega),AX (by omega),AX (by omega),Ae (x:=q) (by omega)];by_cases h:r<0
 ·rw[DT h,Ae (by omega),Lj (k:=q-1) (by omega)]
  ·rw[Int.sub_mul];omega
  ·rw[Int.sub_add_cancel];omega
 ·rw[AX h,Lj (k:=q) (by omega)]
  ·omega
  ·rw[Int.add_mul];omega
theorem Znm {a:Axs} (h:AxOK a) {p:Int} (hp:okB p):Kb (Bk a++[I p])=some [I (JH a p)]:=by
 unfold okB at hp;have ho:=h.origin;have hc:=h.count;have he:=Zrw Bi a.step a.speed a.accel a.jerk a.low a.high a.back a.origin a.spacing (a.pitch.map Ao) p;unfold Kb;have hF:=fun{x y:Int} (hx:x.natAbs<=30) (hy:y.natAbs<=123) (hs:4<=a.spacing/\a.spacing<=123)=>Qwo (a:=x) (b:=y) (c:=a.spacing) (by omega) (by omega) (by omega);generalize Bi=M at*;refine Eq.trans he ?_;unfold JH;rw[List.length_map];by_cases c:a.pitch=[]
 ·rw[if_pos c,c];rfl
 ·have hl:=Qo3 c;have hs:=h.spacing c;have e1:wrap .i64 ((a.pitch.length:Int)-1)=((a.pitch.length-1:Nat):Int):=by rw[Ae (by omega)];omega
  have e2:wrap .i64 (p-a.origin)=p-a.origin:=Ae (by omega);rw[if_neg c,e2,e1];by_cases c1:p<=a.origin
  ·rw[if_pos c1];simp only[go_sem,Q9 hl];rw[if_neg (by omega),if_pos (by omega),if_pos (by omega)]
  ·have e3:wrap .i64 ((p-a.origin).tdiv a.spacing)=(p-a.origin)/a.spacing:=by
    rw[Int.tdiv_eq_ediv_of_nonneg (by omega)];have:=Int.ediv_nonneg (show 0<=p-a.origin by omega) (show 0<=a.spacing by omega);have:=Int.ediv_le_self a.spacing (show 0<=p-a.origin by omega);exact Ae (by omega)
   rw[if_neg c1,e3];by_cases c2:(p-a.origin)/a.spacing>=(a.pitch.length:Int)-1
   ·rw[if_pos c2];simp only[go_sem,Int.toNat_natCast,Q9 (show a.pitch.length-1<a.pitch.length by omega)];rw[if_neg (by omega),if_neg (by omega),if_neg (by omega),if_neg (by omega),if_pos (by omega),if_pos (by omega)]
   ·rw[if_neg c2];obtain⟨i,r,g1,g2,g3,g4,g5,g6⟩:=Qx8 h c c1 c2;obtain⟨n1,n2⟩:=Q66 h c g2 (r:=r) (by omega);have b1:=PT h (show i<a.pitch.length by omega);rw[g6,g1]at*;rw[Int.toNat_natCast];have w1:wrap .i64 ((i:Int)+1)=((i+1:Nat):Int):=by rw[Ae (by omega)];omega
    have hmul:(i:Int)*a.spacing=p-a.origin-r:=by omega
    have w2:wrap .i64 (p-a.origin-wrap .i64 ((i:Int)*a.spacing))=r:=by rw[hmul,Ae (x:=p-a.origin-r) (by omega),Ae (by omega)];omega
    have hin1:(0:Int)<=(i:Int)/\(i:Int)<(a.pitch.length:Int):=by omega
    have hin2:(0:Int)<=((i+1:Nat):Int)/\((i+1:Nat):Int)<(a.pitch.length:Int):=by omega
    simp only[go_sem,w1,w2,Int.toNat_natCast,Q9 (show i<a.pitch.length by omega),Q9 g2,if_pos hin1,if_pos hin2];have b2:=PT h g2;generalize Ca a (i+1)=y at*;generalize Ca a i=z at*;rw[if_neg (by omega),if_neg (by omega),if_neg (by omega),if_neg (by omega),if_neg (by omega),Ae (x:=y-z) (by omega),hF (by omega) (by omega) hs];simp only[go_sem];rw[Ae (by omega)]
theorem Zy5 {a:Axs} (h:AxOK a) {p:Int} (hp:okB p):Oq (Bk a++[I p])=some [I (HS a p)]:=by
 have hb:=Qyn h p;have h1:=Znm h hp;unfold okB at hp;have h2:=Zwt h (v:=p+JH a p) (by omega);have he:=Zhs Jo Kb a.step a.speed a.accel a.jerk a.low a.high a.back a.origin a.spacing (a.pitch.map Ao) p;unfold Oq;generalize Jo=M1 at*;generalize Kb=M2 at*;refine Eq.trans he ?_;simp only[Bk,List.cons_append,List.nil_append]at h1 h2;simp only[h1,go_sem,Ae (x:=p+JH a p) (by omega),h2];rfl
end Go.Bm
namespace Go.Bm
open Classical
def HN (a:Axs) (d:Int):Int:=if d= -1 then-a.back else 0
def FY (a:Axs) (move at_ was dirs u:Int):Int:=if move≠0\/was=dirs then HN a dirs else if dirs= -1 then-min (u-at_) a.back else min (u-at_) a.back-a.back
theorem Rv {a:Axs} (hb:0<=a.back/\a.back<=1000) (v:Int):I2 (Bk a++[I v])=some [I (HN a v)]:=by
 have he:=Zvw a.step a.speed a.accel a.jerk a.low a.high a.back a.origin a.spacing (a.pitch.map Ao) v;unfold I2;refine Eq.trans he ?_;unfold HN;by_cases c:v= -1
 ·rw[Bu (by simp[c]),if_pos c,Ae (by omega)];congr 3;omega
 ·rw[Bf (by simp[c]),if_neg c]
theorem Zhe {M:Fn} {a:Axs} {c:Pce} {u:Int} (hM:∀v:Int,M (Bk a++[I v])=some [I (HN a v)]) (hb:0<=a.back/\a.back<=1000) (hu:0<=u-c.at_/\u-c.at_<=2000000000000000):
  OE M (Bk a++AL c++[I 0,I u])=some [I (FY a c.move c.at_ c.was.x c.dirs.x u)]:=by
 have he:=Qbx M a.step a.speed a.accel a.jerk a.low a.high a.back a.origin a.spacing (a.pitch.map Ao) c.at_ c.units c.s c.move c.was.x c.was.y c.was.z c.dirs.x c.dirs.y c.dirs.z 0 u;refine Eq.trans he ?_;have hm0:=hM c.dirs.x;simp only[Bk,List.cons_append,List.nil_append]at hm0;have e1:wrap .i64 (0+1)=1:=rfl;have e2:wrap .i64 (1+1)=2:=rfl;have w1:wrap .i64 (u-c.at_)=u-c.at_:=Ae (by omega);have w2:wrap .i64 (0-min (u-c.at_) a.back)= -min (u-c.at_) a.back:=by rw[Ae (by omega)];omega
 have w3:wrap .i64 (min (u-c.at_) a.back-a.back)=min (u-c.at_) a.back-a.back:=Ae (by omega);unfold FY;simp only[go_sem,e1,e2,JR,w1,w2,w3,Nat.reduceAdd,Int.cast_ofNat_Int,Int.natCast_zero,Int.natCast_one,Int.reduceEq,hm0];by_cases c1:c.move=0
 ·by_cases c2:c.was.x=c.dirs.x
  ·simp[c1,c2]
  ·by_cases c3:c.dirs.x= -1
   ·simp[c1,c3,show c.was.x≠-1 from fun e=>c2 (by rw[e,c3])]
   ·simp[c1,c2,c3]
 ·simp[c1]
theorem Q77 {M:Fn} {a:Axs} {c:Pce} {u:Int} (hM:∀v:Int,M (Bk a++[I v])=some [I (HN a v)]) (hb:0<=a.back/\a.back<=1000) (hu:0<=u-c.at_/\u-c.at_<=2000000000000000):
  OE M (Bk a++AL c++[I (wrap .i64 (0+1)),I u])=some [I (FY a c.move c.at_ c.was.y c.dirs.y u)]:=by
 have he:=Qbx M a.step a.speed a.accel a.jerk a.low a.high a.back a.origin a.spacing (a.pitch.map Ao) c.at_ c.units c.s c.move c.was.x c.was.y c.was.z c.dirs.x c.dirs.y c.dirs.z (wrap .i64 (0+1)) u;refine Eq.trans he ?_;have hm0:=hM c.dirs.y;simp only[Bk,List.cons_append,List.nil_append]at hm0;have e1:wrap .i64 (0+1)=1:=rfl;have e2:wrap .i64 (1+1)=2:=rfl;have w1:wrap .i64 (u-c.at_)=u-c.at_:=Ae (by omega);have w2:wrap .i64 (0-min (u-c.at_) a.back)= -min (u-c.at_) a.back:=by rw[Ae (by omega)];omega
 have w3:wrap .i64 (min (u-c.at_) a.back-a.back)=min (u-c.at_) a.back-a.back:=Ae (by omega);unfold FY;simp only[go_sem,e1,e2,JR,w1,w2,w3,Nat.reduceAdd,Int.cast_ofNat_Int,Int.natCast_zero,Int.natCast_one,Int.reduceEq,hm0];by_cases c1:c.move=0
 ·by_cases c2:c.was.y=c.dirs.y
  ·simp[c1,c2]
  ·by_cases c3:c.dirs.y= -1
   ·simp[c1,c3,show c.was.y≠-1 from fun e=>c2 (by rw[e,c3])]
   ·simp[c1,c2,c3]
 ·simp[c1]
theorem Zr4 {M:Fn} {a:Axs} {c:Pce} {u:Int} (hM:∀v:Int,M (Bk a++[I v])=some [I (HN a v)]) (hb:0<=a.back/\a.back<=1000) (hu:0<=u-c.at_/\u-c.at_<=2000000000000000):
  OE M (Bk a++AL c++[I (wrap .i64 (wrap .i64 (0+1)+1)),I u])=some [I (FY a c.move c.at_ c.was.z c.dirs.z u)]:=by
 have he:=Qbx M a.step a.speed a.accel a.jerk a.low a.high a.back a.origin a.spacing (a.pitch.map Ao) c.at_ c.units c.s c.move c.was.x c.was.y c.was.z c.dirs.x c.dirs.y c.dirs.z (wrap .i64 (wrap .i64 (0+1)+1)) u;refine Eq.trans he ?_;have hm0:=hM c.dirs.z;simp only[Bk,List.cons_append,List.nil_append]at hm0;have e1:wrap .i64 (0+1)=1:=rfl;have e2:wrap .i64 (1+1)=2:=rfl;have w1:wrap .i64 (u-c.at_)=u-c.at_:=Ae (by omega);have w2:wrap .i64 (0-min (u-c.at_) a.back)= -min (u-c.at_) a.back:=by rw[Ae (by omega)];omega
 have w3:wrap .i64 (min (u-c.at_) a.back-a.back)=min (u-c.at_) a.back-a.back:=Ae (by omega);unfold FY;simp only[go_sem,e1,e2,JR,w1,w2,w3,Nat.reduceAdd,Int.cast_ofNat_Int,Int.natCast_zero,Int.natCast_one,Int.reduceEq,hm0];by_cases c1:c.move=0
 ·by_cases c2:c.was.z=c.dirs.z
  ·simp[c1,c2]
  ·by_cases c3:c.dirs.z= -1
   ·simp[c1,c3,show c.was.z≠-1 from fun e=>c2 (by rw[e,c3])]
   ·simp[c1,c2,c3]
 ·simp[c1]
theorem Zmu {a:Axs} (hb:0<=a.back/\a.back<=1000) {move at_ was dirs u:Int} (hu:0<=u-at_): -1000<=FY a move at_ was dirs u/\FY a move at_ was dirs u<=1000:=by
 unfold FY HN
 (repeat' split)<;>omega
theorem Zr8 {a:Pt} {g:Sgm} {d:Int} (ha:bd B26 a) (hg:1<=g.len/\g.len<=268435456/\bd B26 g.to) (hd:0<=d/\d<=g.len):bd 201326592 (NN a g d):=by
 have key:∀u v:Int,u.natAbs<=B26->v.natAbs<=B26->(v+Bh ((u-v)*d) g.len).natAbs<=201326592:=by
  intro u v hu hv;have h1:=H5 hu hv;have h2:=Qvw (D:=u-v) (L:=g.len) (d:=d) (by omega) (Nat.le_trans h1 (by decide)) hd;have h3:v.natAbs<=67108864:=hv;omega
 exact⟨key _ _ hg.2.2.1 ha.1,key _ _ hg.2.2.2.1 ha.2.1,key _ _ hg.2.2.2.2 ha.2.2⟩
theorem Zf5 {p:Pth} (h:GoodPath p) (s:Int):bd 201326592 (atP p s):=by
 unfold atP;by_cases c:p.aF=[]
 ·rw[c];exact A7 h.start (by decide)
 ·have hok:=h.ok;obtain⟨f1,f2,f3,f4⟩:=Qmj (l:=p.aF) (a:=p.start) (s:=max s 0) c (fun g hg=>(hok.seg g hg).1) (by omega);rw[f4];exact Zr8 (Qqq h.start hok f1) (hok.seg _ (Hb f1)) ⟨f2,f3⟩
theorem Qc9 {a:Axs} (h:AxOK a) {p:Int} (hp:okB p):(HS a p).natAbs<=2000000000:=by
 have hb:=Qyn h p;have hs:=h.step;unfold okB at hp;unfold HS;refine ZP (by omega) ?_;have e:((2000000000:Nat):Int)=2000000000:=rfl;rw[e];omega
def shT (a:Axs) (t:Trk) (u:Int) (f:Pt->Int):Int:=if t.aE=[]then HN a (f t.dirs)else FY a (pcA t.aE (iT t u)).move (pcA t.aE (iT t u)).at_ (f (pcA t.aE (iT t u)).was) (f (pcA t.aE (iT t u)).dirs) (clT t u)
def SJ (p:Pth) (x:Ax3) (s:Int):Pt:=⟨HS x.a (atP p s).x,HS x.b (atP p s).y,HS x.c (atP p s).z⟩
def J6 (p:Pth) (x:Ax3) (t:Trk) (u:Int):Pt:=
 ⟨(SJ p x (AQ t u)).x+shT x.a t u Pt.x,(SJ p x (AQ t u)).y+shT x.b t u Pt.y,(SJ p x (AQ t u)).z+shT x.c t u Pt.z⟩
theorem Qpg {t:Trk} (h:TQ t) (hch:∀i,i+1<t.aE.length->(pcA t.aE (i+1)).at_=eI t.aE i) (h0:t.aE≠[]->(pcA t.aE 0).at_=0) (u:Int) (hne:t.aE≠[]):(pcA t.aE (iT t u)).at_<=clT t u/\(0<iT t u->(pcA t.aE (iT t u)).at_<clT t u):=by
 have hi:=KZ h u hne;have hc:=NO h u;by_cases c:iT t u=0
 ·rw[c,h0 hne];exact⟨hc.1,fun g=>absurd g (by omega)⟩
 ·obtain⟨j,hj⟩:∃j,iT t u=j+1:=⟨iT t u-1,by omega⟩;rw[hj]at hi⊢;rw[hch j hi];have: ¬clT t u<=eI t.aE j:=by
   intro g;have:=QN (show j<t.aE.length by omega) g;unfold iT at hj;omega
  exact⟨by omega,fun _=>by omega⟩
theorem Q9n {t:Trk} (h:TQ t) (u:Int):clT t (clT t u)=clT t u:=by have:=h.len;unfold clT BC;omega
theorem Zho {t:Trk} (h:TQ t) (u:Int):AQ t (clT t u)=AQ t u:=by unfold AQ iT;rw[Q9n h]
theorem Q61 {t:Trk} (h:TQ t) (u:Int): -3000000000000000<=AQ t u/\AQ t u<=3000000000000000:=by
 unfold AQ;by_cases c:t.aE=[]
 ·rw[if_pos c];have:=h.start;omega
 ·have hi:=KZ h u c;have h1:=h.pos _ hi;have h2:=h.s _ hi;have h3:=h.move _ hi;have h4:=NO h u;have h5:=h.len;rw[if_neg c];unfold eI at h1;rcases h3 with h3|h3|h3<;>rw[h3]<;>omega
theorem Zic {p:Pth} (h:GoodPath p) (s:Int):okB (atP p s).x/\okB (atP p s).y/\okB (atP p s).z:=by
 obtain⟨h1,h2,h3⟩:=Zf5 h s;unfold okB;omega
structure TH (t : Trk) : Prop where
 q:TQ t
 at0:t.aE≠[]->(pcA t.aE 0).at_=0
 at1:∀i,i+1<t.aE.length->(pcA t.aE (i+1)).at_=eI t.aE i
theorem Qcd {a:Axs} (hb:0<=a.back/\a.back<=1000) {t:Trk} (h:TH t) (u:Int) (f:Pt->Int): -1000<=shT a t u f/\shT a t u f<=1000:=by
 unfold shT;by_cases c:t.aE=[]
 ·rw[if_pos c];unfold HN;split<;>omega
 ·rw[if_neg c];exact Zmu hb (by have:=(Qpg h.q h.at1 h.at0 u c).1;omega)
theorem Zla {MS MD MM MF MA ML MC:Fn} {p:Pth} {x:Ax3} {t:Trk} {u:Int} (hp:GoodPath p) (hx:Ax3M x) (ht:TH t) (hC:MC [I u,I t.length]=some [I (clT t u)]) (hL:ML (Bo t++[I (clT t u)])=some [I (AQ t u)]) (hA:MA (Bp p++[I (AQ t u)])=some (ptR (atP p (AQ t u))))
  (hF:MF (Bo t++[I (clT t u)])=some [I (if t.aE=[]then-1 else(iT t u:Int))]) (hM:∀{a:Axs} {q:Int},AxOK a->okB q->MM (Bk a++[I q])=some [I (HS a q)]) (hD:∀{a:Axs} (v:Int),(0<=a.back/\a.back<=1000)->MD (Bk a++[I v])=some [I (HN a v)])
  (h0:∀{a:Axs} {c:Pce} {u:Int},(0<=a.back/\a.back<=1000)->(0<=u-c.at_/\u-c.at_<=2000000000000000)->MS (Bk a++AL c++[I 0,I u])=some [I (FY a c.move c.at_ c.was.x c.dirs.x u)])
  (h1:∀{a:Axs} {c:Pce} {u:Int},(0<=a.back/\a.back<=1000)->(0<=u-c.at_/\u-c.at_<=2000000000000000)->MS (Bk a++AL c++[I (wrap .i64 (0+1)),I u])=some [I (FY a c.move c.at_ c.was.y c.dirs.y u)])
  (h2:∀{a:Axs} {c:Pce} {u:Int},(0<=a.back/\a.back<=1000)->(0<=u-c.at_/\u-c.at_<=2000000000000000)->MS (Bk a++AL c++[I (wrap .i64 (wrap .i64 (0+1)+1)),I u])=some [I (FY a c.move c.at_ c.was.z c.dirs.z u)]):
  XW MS MD MM MF MA ML MC (Bp p++AO x++Bo t++[I u])=some (ptR (J6 p x t u)):=by
 have he:=Zfh MS MD MM MF MA ML MC u p x t;refine Eq.trans he ?_;obtain⟨o1,o2,o3⟩:=Zic hp (AQ t u);have m1:=hM hx.a o1;have m2:=hM hx.b o2;have m3:=hM hx.c o3;have b1:=Qc9 hx.a o1;have b2:=Qc9 hx.b o2;have b3:=Qc9 hx.c o3;have s1:=Qcd hx.ok.a ht u Pt.x;have s2:=Qcd hx.ok.b ht u Pt.y;have s3:=Qcd hx.ok.c ht u Pt.z;unfold J6 SJ;generalize HS x.a (atP p (AQ t u)).x=q1 at*;generalize HS x.b (atP p (AQ t u)).y=q2 at*;generalize HS x.c (atP p (AQ t u)).z=q3 at*;have w1:wrap .i64 (q1+shT x.a t u Pt.x)=q1+shT x.a t u Pt.x:=Ae (by omega);have w2:wrap .i64 (q2+shT x.b t u Pt.y)=q2+shT x.b t u Pt.y:=Ae (by omega);have w3:wrap .i64 (q3+shT x.c t u Pt.z)=q3+shT x.c t u Pt.z:=Ae (by omega);by_cases c:t.aE=[]
 ·have d1:=hD t.dirs.x hx.ok.a;have d2:=hD t.dirs.y hx.ok.b;have d3:=hD t.dirs.z hx.ok.c;unfold shT at*;rw[if_pos c]at hF;simp only[if_pos c]at w1 w2 w3⊢;simp only[Bp,Bo,Bk,List.cons_append,List.nil_append]at hL hA hF d1 d2 d3 m1 m2 m3;simp only[hC,hL,hA,hF,go_sem,m1,m2,m3,d1,d2,d3,w1,w2,w3];rw[if_pos (by omega),if_pos (by omega),if_pos (by omega)]
 ·have hi:=KZ ht.q u c;have hcnt:=ht.q.count;have hat:=(Qpg ht.q ht.at1 ht.at0 u c).1;have hcl:=NO ht.q u;have hlen:=ht.q.len;have hpos:=ht.q.pos _ hi;have hin:(0:Int)<=(iT t u:Int)/\(iT t u:Int)<(t.aE.length:Int):=by omega
  have hneg: ¬((iT t u:Int)<0):=by omega
  have d1:=h0 (c:=pcA t.aE (iT t u)) (u:=clT t u) hx.ok.a (by omega);have d2:=h1 (c:=pcA t.aE (iT t u)) (u:=clT t u) hx.ok.b (by omega);have d3:=h2 (c:=pcA t.aE (iT t u)) (u:=clT t u) hx.ok.c (by omega);unfold shT at*;rw[if_neg c]at hF;simp only[if_neg c]at w1 w2 w3⊢;simp only[Bp,Bo,Bk,AL,List.cons_append,List.nil_append]at hL hA hF d1 d2 d3 m1 m2 m3;simp only[hC,hL,hA,hF,go_sem,m1,m2,m3,List.length_map,if_pos hin,Int.toNat_natCast,SM hi,if_neg hneg,d1,d2,d3,w1,w2,w3]
theorem Zod {p:Pth} {x:Ax3} {t:Trk} (hp:GoodPath p) (hx:Ax3M x) (ht:TH t) (u:Int):FF (Bp p++AO x++Bo t++[I u])=some (ptR (J6 p x t u)):=by
 have hs:=Q61 ht.q u;have hpl:=OK ht.q (clT t u);rw[Zho ht.q]at hpl;exact Zla hp hx ht Qh5 hpl (Zv9 hp (by unfold i64;omega)) (Qry ht.q u) (fun h1 h2=>Zy5 h1 h2) (fun v hb=>Rv hb v) (fun hb hu=>Zhe (Rv hb) hb hu) (fun hb hu=>Q77 (Rv hb) hb hu) (fun hb hu=>Zr4 (Rv hb) hb hu)
end Go.Bm
namespace Go.Bm
open Classical
theorem Q23 {x:Ax3} {mv:Int} {Q:Int->Pt->Prop} {a s:Int} {d:Pt} {l:List Pce} (h:DW x mv Q a s d l) (hne:l≠[]):(pcA l 0).at_=a:=by
 cases l with
 |nil=>exact absurd rfl hne
 |cons c l=>rw[Kc];exact h.1
theorem Q18 {x:Ax3} {mv:Int} {Q:Int->Pt->Prop}:∀{a s:Int} {d:Pt} {l:List Pce},DW x mv Q a s d l->∀i,i+1<l.length->(pcA l (i+1)).at_=eI l i
 |a,s,d,[],h,i,hi=>by simp at hi
 |a,s,d,c::l,h,0,hi=>by
  obtain⟨h1,h2,h3,h4,h5⟩:=h;unfold eI;rw[Ha,Kc,Q23 h5 (fun e=>by rw[e]at hi;simp at hi),h1]
 |a,s,d,c::l,h,i+1,hi=>by
  obtain⟨h1,h2,h3,h4,h5⟩:=h;have:=Q18 h5 i (by simpa using hi);unfold eI at*;rw[Ha,Ha];exact this
theorem Zrl {p:Pth} {x:Ax3} (d:Pt) (a b:Int) (hx:Ax3OK x) (hp:GoodPath p):TH (Ee p x d a b):=by
 obtain⟨d',h1,h2,-⟩:=Qky (d:=d) (a:=a) (b:=b) (Q:=fun _ _=>True) hx hp (fun _ _ _ _ _ _ _ _=>trivial);exact⟨Qy9 d a b hx hp,Q23 h1.ch,Q18 h1.ch⟩
end Go.Bm
namespace Go.Bm
open Classical
def wF (z:Int):List Pce->Int
 |[]=> -1
 |c::l=>if c.move≠0/\0<=(z-c.s)*c.move/\(z-c.s)*c.move<=c.units then c.at_+(z-c.s)*c.move else wF z l
def BI (t:Trk) (z:Int):Int:=if z=t.start then 0 else wF z t.aE
def plL:List Pce->Int->Int
 |[],_=>0
 |c::l,u=>if u<=c.at_+c.units then c.s+c.move*(u-c.at_)else plL l u
theorem Qtv:∀{l:List Pce} {u:Int},fI l u<l.length->plL l u=(pcA l (fI l u)).s+(pcA l (fI l u)).move*(u-(pcA l (fI l u)).at_)
 |[],_,h=>by simp at h
 |c::l,u,h=>by
  unfold fI at h⊢;unfold plL;by_cases c0:u<=c.at_+c.units
  ·rw[if_pos c0,if_pos c0,Kc]
  ·rw[if_neg c0]at h⊢;rw[if_neg c0,Ha];exact Qtv (by simpa using h)
theorem La {t:Trk} (h:TQ t) (u:Int) (hne:t.aE≠[]):AQ t u=plL t.aE (clT t u):=by
 have hi:=KZ h u hne;unfold AQ;rw[if_neg hne];exact(Qtv hi).symm
theorem Qlh {x:Ax3} {mv:Int} {Q:Int->Pt->Prop} (hv:mv=1\/mv= -1):∀{a s:Int} {d:Pt} {l:List Pce},DW x mv Q a s d l->0<=mv*(C4 s l-s)
 |a,s,d,[],_=>by simp[C4]
 |a,s,d,c::l,h=>by
  obtain⟨h1,h2,h3,h4,h5⟩:=h;have ih:=Qlh hv h5;unfold C4;generalize C4 (s+c.move*c.units) l=E at*;have hm:c.move=mv\/c.move=0:=by rcases h4 with h4|h4<;>simp[h4.1]
  rcases hm with hm|hm<;>rw[hm]at ih<;>rcases hv with rfl|rfl<;>omega
theorem Qxq {x:Ax3} {mv:Int} {Q:Int->Pt->Prop} (hv:mv=1\/mv= -1) (z:Int):∀{a s:Int} {d:Pt} {l:List Pce},DW x mv Q a s d l->
  (mv*(z-s)<0->wF z l= -1)/\(0<mv*(z-C4 s l)->wF z l= -1)/\
  (0<mv*(z-s)->mv*(z-C4 s l)<=0->a<wF z l/\wF z l<=CR a l/\plL l (wF z l)=z/\∀v,a<=v->v<wF z l->mv*(plL l v-z)<0)
 |a,s,d,[],_=>by
  simp only[C4,wF];exact⟨fun _=>trivial,fun _=>trivial,fun h1 h2=>absurd h1 (by omega)⟩
 |a,s,d,c::l,h=>by
  obtain⟨h1,h2,h3,h4,h5⟩:=h;obtain⟨i1,i2,i3⟩:=Qxq hv z h5;have hend:=Qlh hv h5;have hge:=Qjk h5;have hm:c.move=mv\/c.move=0:=by rcases h4 with h4|h4<;>simp[h4.1]
  simp only[C4,CR];generalize C4 (s+c.move*c.units) l=E at*;generalize CR (a+c.units) l=A at*;have key : (0 < mv * (z - (s + c.move * c.units)) -> mv * (z - E) <= 0 -> wF z (c :: l) = wF z l -> (∀ v, a <= v -> v <= a + c.units -> mv * (s + c.move * (v - a) - z) < 0) ->
    a<wF z (c::l)/\wF z (c::l)<=A/\plL (c::l) (wF z (c::l))=z/\∀v,a<=v->v<wF z (c::l)->mv*(plL (c::l) v-z)<0):=by
   intro g1 g2 g3 g4;obtain⟨k1,k2,k3,k4⟩:=i3 g1 g2;rw[g3];refine⟨by omega,k2,?_,?_⟩
   ·unfold plL;rw[if_neg (by omega)];exact k3
   ·intro v w1 w2;unfold plL;by_cases w3:v<=c.at_+c.units
    ·rw[if_pos w3,h1,h2];exact g4 v w1 (by omega)
    ·rw[if_neg w3];exact k4 v (by omega) w2
  rcases hm with hm|hm
  ·
   have hmne:c.move≠0:=by rcases hv with rfl|rfl<;>omega
   rw[hm]at i1 i3 key;by_cases c0:0<=(z-s)*mv/\(z-s)*mv<=c.units
   ·have hw:wF z (c::l)=a+(z-s)*mv:=by unfold wF;rw[h2,hm,h1,if_pos ⟨by omega,c0.1,c0.2⟩]
    rw[hw];refine⟨fun g=> ?_,fun g=> ?_,fun g1 g2=>⟨?_,?_,?_,?_⟩⟩
    ·rcases hv with rfl|rfl<;>omega
    ·rw[hm]at hend;rcases hv with rfl|rfl<;>omega
    ·rcases hv with rfl|rfl<;>omega
    ·omega
    ·unfold plL;rw[if_pos (by omega),h1,h2,hm];rcases hv with rfl|rfl<;>omega
    ·intro v w1 w2;unfold plL;rw[if_pos (by omega),h1,h2,hm];rcases hv with rfl|rfl<;>omega
   ·have hw:wF z (c::l)=wF z l:=by
     show(if _ then _ else _)=_;rw[h2,hm,if_neg fun g=>c0 g.2]
    refine⟨fun g=> ?_,fun g=> ?_,fun g1 g2=> ?_⟩
    ·rw[hw];exact i1 (by rcases hv with rfl|rfl<;>omega)
    ·rw[hw];exact i2 g
    ·refine key (by rcases hv with rfl|rfl<;>omega) g2 hw ?_;intro v w1 w2;rcases hv with rfl|rfl<;>omega
  ·have hw:wF z (c::l)=wF z l:=by
    show(if _ then _ else _)=_;rw[if_neg fun g=>g.1 hm]
   rw[hm]at i1 i3 key;simp only[Int.zero_mul,Int.add_zero]at i1 i3 key;refine⟨fun g=> ?_,fun g=> ?_,fun g1 g2=> ?_⟩
   ·rw[hw];exact i1 g
   ·rw[hw];exact i2 g
   ·refine key g1 g2 hw ?_;intro v w1 w2;rcases hv with rfl|rfl<;>omega
theorem Q4w {t:Trk} (h:TQ t) {z:Int} (hz:i64 z):∀(k j:Nat),j+k=t.aE.length->wF z (t.aE.drop j)= -1/\Am PI [I z, .view As (t.aE.map AL),I t.aE.length,I j]=some (2,[])\/
  Am PI [I z, .view As (t.aE.map AL),I t.aE.length,I j]=some (1,[I (wF z (t.aE.drop j))])
 |0,j,hj=>by
  left;rw[List.drop_of_length_le (by omega)];refine⟨rfl,Bb (o:=(2,_)) ?_ (by simp)⟩;rw[Qn6,AX (by omega)]
 |k+1,j,hj=>by
  have hlt:j<t.aE.length:=by omega
  have hcnt:=h.count;have hin:(0:Int)<=(j:Int)/\(j:Int)<(t.aE.length:Int):=by omega
  have hpos:=h.pos j hlt;have hl:=h.len;have hs:=h.s j hlt;have hmv:=h.move j hlt;have e:t.aE.drop j=pcA t.aE j::t.aE.drop (j+1):=by
   have e1:pcA t.aE j=t.aE[j]:=by unfold pcA;simp[hlt]
   rw[e1];exact Nq _ _ hlt
  have hst:PI [I z, .view As (t.aE.map AL),I t.aE.length,I j]=if(pcA t.aE j).move≠0/\0<=(z-(pcA t.aE j).s)*(pcA t.aE j).move/\(z-(pcA t.aE j).s)*(pcA t.aE j).move<=(pcA t.aE j).units then
    some (1,[I ((pcA t.aE j).at_+(z-(pcA t.aE j).s)*(pcA t.aE j).move)])else some (0,[I z, .view As (t.aE.map AL),I t.aE.length,I (j+1:Nat)]):=by
   rw[Qn6];simp only[go_sem,List.length_map,Int.toNat_natCast,SM hlt,if_pos hin,Ae (x:=(j:Int)+1) (by omega)];rw[if_pos (by omega)];unfold eI at hpos;unfold i64 at hz;generalize pcA t.aE j=c at*;have wrap2:∀y:Int,-9223372036854775808-2000000000000000<=y->y<=9223372036854775807+2000000000000000->(wrap .i64 y=y/\ -9223372036854775808<=y/\y<=9223372036854775807)\/(wrap .i64 y=y+18446744073709551616/\y< -9223372036854775808)\/(wrap .i64 y=y-18446744073709551616/\y>9223372036854775807):=by
    intro y y1 y2;have hw:=Zsh y;unfold i64 at hw;by_cases c1: -9223372036854775808<=y/\y<=9223372036854775807
    ·exact .inl ⟨Ae c1,c1⟩
    ·have:=NW y;omega
   by_cases c0:c.move=0
   ·have hP: ¬(c.move≠0/\0<=(z-c.s)*c.move/\(z-c.s)*c.move<=c.units):=fun g=>g.1 c0;rw[if_neg (by omega),if_neg hP];rfl
   ·rw[if_pos c0];have hm:c.move=1\/c.move= -1:=by omega
    have a1:=wrap2 (z-c.s) (by omega) (by omega);have hw2:wrap .i64 (wrap .i64 (z-c.s)*c.move)=(z-c.s)*c.move\/((wrap .i64 (wrap .i64 (z-c.s)*c.move)<0\/wrap .i64 (wrap .i64 (z-c.s)*c.move)>1000000000000000)/\((z-c.s)*c.move<0\/(z-c.s)*c.move>1000000000000000)):=by
     generalize wrap .i64 (z-c.s)=y at*;have a2:=wrap2 (y*c.move) (by rcases hm with hm|hm<;>rw[hm]<;>omega) (by rcases hm with hm|hm<;>rw[hm]<;>omega);rcases hm with hm|hm<;>rw[hm]at a2⊢<;>omega
    generalize wrap .i64 (wrap .i64 (z-c.s)*c.move)=n at*;by_cases c1:0<=(z-c.s)*c.move/\(z-c.s)*c.move<=c.units
    ·have en:n=(z-c.s)*c.move:=by omega
     have hP:c.move≠0/\0<=(z-c.s)*c.move/\(z-c.s)*c.move<=c.units:=⟨c0,c1⟩;rw[if_pos hP,en,if_pos c1.1,if_pos c1.2,Ae (by omega)]
    ·have hP: ¬(c.move≠0/\0<=(z-c.s)*c.move/\(z-c.s)*c.move<=c.units):=fun g=>c1 g.2;rw[if_neg hP];by_cases c2:0<=n
     ·rw[if_pos c2,if_neg (by omega)];rfl
     ·rw[if_neg c2];rfl
  rw[e];by_cases c:(pcA t.aE j).move≠0/\0<=(z-(pcA t.aE j).s)*(pcA t.aE j).move/\(z-(pcA t.aE j).s)*(pcA t.aE j).move<=(pcA t.aE j).units
  ·rw[if_pos c]at hst;right;rw[Bb hst (by simp)];unfold wF;rw[if_pos c]
  ·rw[if_neg c]at hst;rw[Bw hst];unfold wF;rw[if_neg c];exact Q4w h hz k (j+1) (by omega)
theorem Zij {t:Trk} (h:TQ t) {z:Int} (hz:i64 z):Mv (Bo t++[I z])=some [I (BI t z)]:=by
 have he:=Zen Kv (t.aE.map AL) t.length t.start t.dirs.x t.dirs.y t.dirs.z z;unfold Mv;refine Eq.trans he ?_;unfold BI;rw[List.length_map];by_cases c:z=t.start
 ·rw[if_pos c,Bu (by simp[c])]
 ·rw[if_neg c,Bf (by simp[c])];rcases Q4w h hz t.aE.length 0 (by omega)with⟨h1,h2⟩|h2
  ·rw[List.drop_zero]at h1;have h2':Kv [I z, .view As (t.aE.map AL),I t.aE.length,I 0]=some (2,[]):=h2;generalize Kv=N at*;rw[h1];simp only[h2',go_sem];rfl
  ·rw[List.drop_zero]at h2;have h2':Kv [I z, .view As (t.aE.map AL),I t.aE.length,I 0]=some (1,[I (wF z t.aE)]):=h2;generalize Kv=N at*;simp only[h2',go_sem]
end Go.Bm
namespace Go.Bm
open Classical
theorem Qy7 {x:Ax3} {Q:Int->Pt->Prop}:∀{a s:Int} {d:Pt} {l:List Pce} {u:Int},DW x 1 Q a s d l->l≠[]->u<=CR a l->plL l u<=C4 s l
 |_,_,_,[],_,_,h,_=>absurd rfl h
 |a,s,d,c::l,u,h,_,hu=>by
  obtain⟨h1,h2,h3,h4,h5⟩:=h;have hm:c.move=1\/c.move=0:=by rcases h4 with h4|h4<;>simp[h4.1]
  have he:=Qlh (.inl rfl) h5;unfold plL;by_cases c0:u<=c.at_+c.units
  ·rw[if_pos c0];unfold C4;generalize C4 (s+c.move*c.units) l=E at*;rcases hm with hm|hm<;>rw[hm]at he⊢<;>omega
  ·rw[if_neg c0];have hne:l≠[]:=by
    intro e;subst e;simp only[CR]at hu;omega
   exact Qy7 h5 hne hu
theorem TI {x:Ax3} {Q:Int->Pt->Prop}:∀{a s:Int} {d:Pt} {l:List Pce},DW x 1 Q a s d l->l≠[]->∀v w:Int,a<=v->v<=w->w<=CR a l->s<=plL l v/\plL l v<=plL l w
 |_,_,_,[],_,h,_,_,_,_,_=>absurd rfl h
 |a,s,d,c::l,h,_,v,w,h0,h1,h2=>by
  obtain⟨g1,g2,g3,g4,g5⟩:=h;have hm:c.move=1\/c.move=0:=by rcases g4 with g4|g4<;>simp[g4.1]
  have more: ¬w<=a+c.units->l≠[]:=fun hw e=>by
   subst e;simp only[CR]at h2;omega
  simp only[CR]at h2;unfold plL;rw[g1,g2];by_cases cv:v<=a+c.units
  ·rw[if_pos cv];by_cases cw:w<=a+c.units
   ·rw[if_pos cw];rcases hm with hm|hm<;>rw[hm]<;>omega
   ·rw[if_neg cw];have ih:=TI g5 (more cw) w w (by omega) (Int.le_refl _) h2;rcases hm with hm|hm<;>rw[hm]at ih⊢<;>omega
  ·rw[if_neg cv,if_neg (by omega)];have ih:=TI g5 (more (by omega)) v w (by omega) h1 h2;rcases hm with hm|hm<;>rw[hm]at ih<;>omega
structure Fw (t : Trk) (n : Int) : Prop where
 wh:∀z,0<=z->z<=n->0<=BI t z/\BI t z<=t.length/\AQ t (BI t z)=z/\∀v,0<=v->v<BI t z->AQ t v<z
 up:∀u v,u<=v->AQ t u<=AQ t v
 rg:∀u,0<=AQ t u/\AQ t u<=n
 zero:AQ t 0=0
 len:0<=t.length/\t.length<=900000000000000
theorem Fw.le {t:Trk} {n:Int} (h:Fw t n) {z u:Int} (h0:0<=z) (h1:z<=n) (hu:u<=BI t z):AQ t u<=z:=by
 have h2:=h.wh z h0 h1;have:=h.up u _ hu;omega
theorem Fw.ge {t:Trk} {n:Int} (h:Fw t n) {z u:Int} (h0:0<=z) (h1:z<=n) (hp:0<=u) (hu:z<=AQ t u):BI t z<=u:=by
 apply Decidable.byContradiction;intro c;have:=(h.wh z h0 h1).2.2.2 u hp (by omega);omega
theorem Fw.wmono {t:Trk} {n:Int} (h:Fw t n) {y z:Int} (h0:0<=y) (h1:y<=z) (h2:z<=n):BI t y<=BI t z:=by
 have hz:=h.wh z (by omega) h2;refine h.ge h0 (by omega) hz.1 ?_;rw[hz.2.2.1];exact h1
theorem Znd {p:Pth} {x:Ax3} {d:Pt} {m:Int} (hx:Ax3OK x) (hp:GoodPath p) (hm:0<=m/\m<=AF p.aF):Fw (Ee p x d 0 m) m:=by
 have hn:=QL hp;obtain⟨d',h1,h2,-⟩:=Qky (d:=d) (a:=0) (b:=m) (Q:=fun _ _=>True) hx hp (fun _ _ _ _ _ _ _ _=>trivial);have ht:=Qy9 d 0 m hx hp;have c1:BC 0 (AF p.aF)=0:=by unfold BC;omega
 have c2:BC m (AF p.aF)=m:=by unfold BC;omega
 have hmv:mvP p 0 m=1:=by unfold mvP;rw[c1,c2,if_neg (by omega)]
 rw[hmv,c2]at h1;rw[c1]at h2;generalize Ee p x d 0 m=t at*;obtain⟨ch,hl,hs,-⟩:=h1;rw[h2]at ch hs;by_cases hne:t.aE=[]
 ·have hn0:m=0:=by rw[hne]at hs;exact hs.symm
  have hl0:t.length=0:=by rw[hne]at hl;exact hl.symm
  have pl:∀u,AQ t u=0:=fun u=>by unfold AQ;rw[if_pos hne,h2]
  refine⟨fun z z0 z1=> ?_,fun u v _=>by rw[pl,pl];omega,fun u=>by rw[pl];omega,pl 0,ht.len⟩;have hw:BI t z=0:=by unfold BI;rw[if_pos (by rw[h2];omega)]
  rw[hw];exact⟨by omega,by omega,by rw[pl];omega,fun v h0 h1=>by omega⟩
 ·have cl:∀u,0<=clT t u/\clT t u<=t.length:=NO ht;have cid:∀u,0<=u->u<=t.length->clT t u=u:=fun u h0 h1=>by unfold clT BC;omega
  have cmono:∀u v,u<=v->clT t u<=clT t v:=fun u v h=>by unfold clT BC;omega
  have up:∀u v,u<=v->AQ t u<=AQ t v:=fun u v h=>by
   rw[La ht u hne,La ht v hne];exact(TI ch hne _ _ (cl u).1 (cmono u v h) (by rw[hl];exact(cl v).2)).2
  have lo:∀u,0<=AQ t u:=fun u=>by
   rw[La ht u hne];exact(TI ch hne _ _ (cl u).1 (Int.le_refl _) (by rw[hl];exact(cl u).2)).1
  have hi:∀u,AQ t u<=m:=fun u=>by
   rw[La ht u hne];have:=Qy7 ch hne (u:=clT t u) (by rw[hl];exact(cl u).2);rw[hs]at this;exact this
  have zero:AQ t 0=0:=by
   rw[La ht 0 hne,cid 0 (by omega) ht.len.1];obtain⟨c,l,e⟩:=List.exists_cons_of_ne_nil hne;rw[e]at ch⊢;obtain⟨g1,g2,g3,-⟩:=ch;unfold plL;rw[if_pos (by omega),g1,g2];simp
  refine⟨fun z z0 z1=> ?_,up,fun u=>⟨lo u,hi u⟩,zero,ht.len⟩;by_cases hz:z=0
  ·have hw:BI t z=0:=by unfold BI;rw[if_pos (by rw[h2];exact hz)]
   rw[hw];exact⟨by omega,ht.len.1,by rw[zero,hz],fun v h0 h1=>by omega⟩
  ·have hw:BI t z=wF z t.aE:=by unfold BI;rw[if_neg (by rw[h2];exact hz)]
   obtain⟨a1,a2,a3,a4⟩:=(Qxq (.inl rfl) z ch).2.2 (by omega) (by rw[hs];omega);rw[hl]at a2;rw[hw];refine⟨by omega,a2,?_,fun v h0 h1=> ?_⟩
   ·rw[La ht _ hne,cid _ (by omega) a2,a3]
   ·rw[La ht _ hne,cid v h0 (by omega)];have:=a4 v h0 h1;omega
theorem Zel {p:Pth} {x:Ax3} {d:Pt} (hx:Ax3OK x) (hp:GoodPath p):Fw (Ee p x d 0 (AF p.aF)) (AF p.aF):=
 Znd hx hp ⟨(QL hp).1,Int.le_refl _⟩
end Go.Bm
namespace Go.Bm
theorem eB {α β:Type} {a:Option α} {f:α->Option β} {x:α} {r:Option β} (h:a=some x) (g:f x=r):a.bind f=r:=by rw[h];exact g
theorem eT {α:Type} {c:Bool} {a b r:α} (h:c=true) (g:a=r):cond c a b=r:=by rw[h];exact g
theorem eF {α:Type} {c:Bool} {a b r:α} (h:c=false) (g:b=r):cond c a b=r:=by rw[h];exact g
theorem eC {α:Type} {c:Bool} {a b r:α} (h:c=true->a=r) (g:c=false->b=r):cond c a b=r:=by cases c;exact g rfl;exact h rfl
theorem beF {a b:Int} (h:a≠b):(a==b)=false:=by simpa using h
theorem beT {a b:Int} (h:a=b):(a==b)=true:=by simpa using h
theorem bnF {a b:Int} (h:a=b):(a !=b)=false:=by simpa using h
theorem bnT {a b:Int} (h:a≠b):(a !=b)=true:=by simpa using h
theorem Fj {α β:Type} {a:Option α} {f:α->Option β} (h:a.isSome=true) (g:∀o,a=some o->(f o).isSome=true):(a.bind f).isSome=true:=by
 cases a with
 |none=>simp at h
 |some o=>exact g o rfl
theorem BW {α:Type} {c:Bool} {a b:Option α} (h:c=true->a.isSome=true) (g:c=false->b.isSome=true):(cond c a b).isSome=true:=by
 cases c
 ·exact g rfl
 ·exact h rfl
def Out {α:Type} (p:α->Prop) (a:Option α):Prop:=∃o,a=some o/\p o
theorem Out.is {α:Type} {p:α->Prop} {a:Option α} (h:Out p a):a.isSome=true:=by obtain⟨o,h,_⟩:=h;rw[h];rfl
theorem Out.of {α:Type} {a:Option α} (h:a.isSome=true):Out (fun _=>True) a:=by
 cases a with
 |none=>simp at h
 |some o=>exact⟨o,rfl,trivial⟩
theorem Out.bind {α β:Type} {p:α->Prop} {q:β->Prop} {a:Option α} {f:α->Option β} (h:Out p a) (g:∀o,p o->Out q (f o)):Out q (a.bind f):=by
 obtain⟨o,rfl,h⟩:=h;exact g o h
theorem Out.ibind {α β:Type} {q:β->Prop} {a:Option α} {f:α->Option β} (h:a.isSome=true) (g:∀o,a=some o->Out q (f o)):Out q (a.bind f):=by
 cases a with
 |none=>simp at h
 |some o=>exact g o rfl
theorem Out.cond {α:Type} {p:α->Prop} {c:Bool} {a b:Option α} (h:c=true->Out p a) (g:c=false->Out p b):Out p (cond c a b):=by
 cases c
 ·exact g rfl
 ·exact h rfl
theorem Out.some {α:Type} {p:α->Prop} {o:α} (h:p o):Out p (some o):=⟨o,rfl,h⟩
theorem Out.mono {α:Type} {p q:α->Prop} {a:Option α} (h:Out p a) (g:∀o,p o->q o):Out q a:=by obtain⟨o,h,h2⟩:=h;exact⟨o,h,g o h2⟩
theorem CT {S:Type} {step:Lp} (enc:S->List AC) (Inv:S->Prop) (m:S->Nat) (Q:Nat×List AC->Prop)
  (h:∀s,Inv s->Out (fun o=>(o.1=0/\∃s',o.2=enc s'/\Inv s'/\m s'<m s)\/(o.1≠0/\Q o)) (step (enc s))) (s:S) (hs:Inv s):Out Q (Am step (enc s)):=by
 obtain ⟨o, h1, _, h2⟩ := Z0s (step := step) enc Inv m Q (fun s hs => by
  obtain⟨o,h1,h2⟩:=h s hs;rcases h2 with⟨h2,s',h3,h4,h5⟩|⟨h2,h3⟩
  ·refine .inl ⟨s',?_,h4,h5⟩;rw[h1,<-h3,<-h2]
  ·exact .inr ⟨o,h1,h2,h3⟩) s hs
 exact⟨o,h1,h2⟩
theorem Br {p:Prop} [Decidable p] (h:decide p=true):p:=of_decide_eq_true h
theorem Bn {p:Prop} [Decidable p] (h:decide p=false): ¬p:=of_decide_eq_false h
theorem inB {i:Int} {n:Nat} (h0:0<=i) (h1:i<(n:Int)):(decide (0<=i)&&decide (i<(n:Int)))=false->False:=by
 intro h;rcases Bool.and_eq_false_iff.1 h with c|c
 ·exact Bn c h0
 ·exact Bn c h1
theorem Cq {a b:Nat} (h:a<=b):Nat.ble a b=true:=Nat.ble_eq_true_of_le h
theorem Qqo (a b c d:Int):(G4 [I a,I b,I c,I d]).isSome=true:=by
 unfold G4;rw[Qiu]
 repeat' first|exact rfl|refine BW (fun _=> ?_) (fun _=> ?_)
 rename_i h1 h2;simp at h1 h2;omega
theorem PO (a b c:Int):EV [I a,I b,I c]=some [B (decide (1<=a/\a<=65536/\2<=b/\b<=65536/\1<=c/\c<=16777216))]:=by
 unfold EV;rw[Q9o];by_cases h1:1<=a<;>by_cases h2:a<=65536<;>by_cases h3:2<=b<;>by_cases h4:b<=65536<;>by_cases h5:1<=c<;>by_cases h6:c<=16777216<;>simp[h1,h2,h3,h4,h5,h6]
theorem Zf3 {M:Fn} (h:∀a b c d,(M [I a,I b,I c,I d]).isSome=true) (a b c v x:Int):(Qr M [I a,I b,I c,I v,I x]).isSome=true:=by
 rw[YD]
 repeat' first|exact rfl|exact h _ _ _ _|refine BW (fun _=> ?_) (fun _=> ?_)|refine Fj ?_ fun _ _=> ?_
theorem RO (a b c v x:Int):(Gm [I a,I b,I c,I v,I x]).isSome=true:=Zf3 Qqo a b c v x
theorem Z1s (x:Int): -9223372036854775808<=wrap .i64 x/\wrap .i64 x<=9223372036854775807:=by
 simp[IntKind.wrap,IntKind.signed,IntKind.bits];omega
end Go.Bm
namespace Go.Bm
theorem Zk6 {ML MV:Fn} (hL:∀a b c d,(ML [I a,I b,I c,I d]).isSome=true) {v a b c low high:Int} (h1: -9000000000000<=low/\low<=9000000000000) (h2: -9000000000000<=high/\high<=9000000000000):
  Out (fun o=>o.1=1) (Am (LL ML MV) [I v,I low,I high,I a,I b,I c]):=by
 refine CT (fun s:Int×Int=>[I v,I s.1,I s.2,I a,I b,I c]) (fun s=>(-9000000000000<=s.1/\s.1<=9000000000000)/\(-9000000000000<=s.2/\s.2<=9000000000000)) (fun s=>(s.2-s.1).toNat) _ ?_ (low,high) ⟨h1,h2⟩;rintro⟨l,h⟩ ⟨q1,q2⟩;dsimp only at*;rw[UL];refine .cond (fun c=> ?_) (fun c=> ?_)
 ·have c:=Br c;have e:wrap .i64 (h-wrap .i64 ((wrap .i64 (h-l)).tdiv 2))=h-(h-l)/2:=by
   rw[Ae (x:=h-l) (by omega),Int.tdiv_eq_ediv_of_nonneg (by omega),Ae (x:=(h-l)/2) (by omega),Ae (by omega)]
  rw[e];refine .ibind (hL _ _ _ _) fun o _=> ?_;refine .cond (fun _=> ?_) (fun _=> ?_)
  ·exact .some (.inl ⟨rfl,(h-(h-l)/2,h),rfl,by dsimp only;omega,by dsimp only;omega⟩)
  ·refine .some (.inl ⟨rfl,(l,h-(h-l)/2-1),?_,by dsimp only;omega,by dsimp only;omega⟩);rw[Ae (x:=h-(h-l)/2-1) (by omega)]
 ·exact .some (.inr ⟨by simp,rfl⟩)
theorem Zad {ML MV:Fn} (hL:∀a b c d,(ML [I a,I b,I c,I d]).isSome=true) (hV:∀a b c,MV [I a,I b,I c]=some [B (decide (1<=a/\a<=65536/\2<=b/\b<=65536/\1<=c/\c<=16777216))]) (a b c v x:Int):
  (R8 ML MV (Am (LL ML MV)) [I a,I b,I c,I v,I x]).isSome=true:=by
 rw[Qoy,hV];simp only[Option.bind_some];refine BW (fun _=>rfl) fun h1=>BW (fun _=>rfl) fun h2=>BW (fun _=>rfl) fun h3=> ?_;simp only[go_sem,Bool.not_eq_false',decide_eq_true_eq]at h1;have h2:=Bn h2;have h3:=Bn h3;have hx: -1099511627776<=x/\x<=1099511627776:=by
  unfold mx at h2;unfold mn at h3;split at h2<;>split at h3<;>omega
 obtain⟨o,h4,h5⟩:=Zk6 (MV:=MV) hL (v:=v) (a:=a) (b:=b) (c:=c) (low:=wrap .i64 (wrap .i64 (0-x)-b)) (high:=mn (wrap .i64 (b-x)) a)
  (by rw[Ae (x:=0-x) (by omega),Ae (by omega)];omega) (by rw[Ae (x:=b-x) (by omega)];unfold mn;split<;>omega)
 rw[h4];simp only[Option.bind_some,h5];rfl
theorem Zmq (a b c v x:Int):(Fp [I a,I b,I c,I v,I x]).isSome=true:=Zad Qqo PO a b c v x
theorem Zdq {MB MR MV:Fn} (hB:∀a b c v x,(MB [I a,I b,I c,I v,I x]).isSome=true) {a b c v x:Int}:
  Out (fun o=>o.1=1\/o.1=2/\(wA o.2 0).length<=4096) (Am (H2 MB MR MV) [.view Aa [],I v,I x,I a,I b,I c]):=by
 refine CT (fun s:Rw×Int×Int=>[.view Aa s.1,I s.2.1,I s.2.2,I a,I b,I c]) (fun s=>s.1.length<=4096) (fun s=>4096-s.1.length) _ ?_ ([],v,x) (by simp);rintro⟨l,v,x⟩ h;dsimp only at*;rw[PY];refine .cond (fun _=> ?_) (fun _=> ?_)
 ·refine .cond (fun _=> ?_) (fun h2=> ?_)
  ·exact .some (.inr ⟨by simp, .inl rfl⟩)
  ·have h2: ¬((l.length:Int)=4096):=by simpa using h2
   refine .ibind (hB _ _ _ _ _) fun o _=> ?_;refine .cond (fun _=> ?_) (fun h3=> ?_)
   ·exact .some (.inl ⟨rfl,(_,_,_),rfl,by simp;omega,by simp;omega⟩)
   ·rw[Cq (by simp;omega)]at h3;cases h3
 ·exact .some (.inr ⟨by simp, .inr ⟨rfl,h⟩⟩)
theorem Z0e {MB MR MV:Fn} (hB:∀a b c v x,(MB [I a,I b,I c,I v,I x]).isSome=true) (hR:∀a b c v x,(MR [I a,I b,I c,I v,I x]).isSome=true) (hV:∀a b c,MV [I a,I b,I c]=some [B (decide (1<=a/\a<=65536/\2<=b/\b<=65536/\1<=c/\c<=16777216))]) (a b c v x:Int):
  Out (fun o=>(wA o 0).length<=4096) (Pa MB MR MV (Am (H2 MB MR MV)) [I a,I b,I c,I v,I x]):=by
 rw[Qbv,hV];simp only[Option.bind_some];refine .cond (fun _=> .some (by simp[gA,wA,bA,jA,nth,BR])) fun _=> .ibind (hR _ _ _ _ _) fun o _=> .cond (fun _=> .some (by simp[gA,wA,bA,jA,nth,BR])) fun _=> ?_;refine .bind (Zdq hB) fun o h=> ?_;rcases h with h|⟨h,h2⟩
 ·rw[h];exact .some (by simp[gA,wA,bA,jA,nth,BR])
 ·rw[h];exact .some h2
theorem Znj (a b c v x:Int):Out (fun o=>(wA o 0).length<=4096) (Kl [I a,I b,I c,I v,I x]):=Z0e Zmq RO PO a b c v x
theorem Q0l {M:Fn} {u:Int} {sp out:Rw} (h0:out.length=sp.length) (h1:sp.length<=4096):
  Out (fun o=>o.1=1/\(wA o.2 0).length=sp.length) (Am (Hm M) [.view Aa out,I u, .view Aa sp,I (sp.length:Int),I 0]):=by
 refine CT (fun s:Rw×Int×Nat=>[.view Aa s.1,I s.2.1, .view Aa sp,I (sp.length:Int),I (s.2.2:Int)]) (fun s=>s.1.length=sp.length/\s.2.2<=sp.length) (fun s=>sp.length-s.2.2) _ ?_ (out,u,0) ⟨h0,by simp⟩;rintro⟨l,u,i⟩ ⟨g1,g2⟩;dsimp only at*;rw[Qfn];refine .cond (fun c=> ?_) (fun _=> ?_)
 ·have c:=Br c;refine .cond (fun _=> ?_) (fun h=> ?_)
  ·refine .cond (fun _=> ?_) (fun h=> ?_)
   ·have e:=Ae (x:=(i:Int)+1) (by omega);rw[e];generalize wrap .i64 (u+gA (nth [] sp (i:Int).toNat) 0)=z;exact .some (.inl ⟨rfl,(l.set (i:Int).toNat [I z],z,i+1),rfl,by simp;omega,by simp;omega⟩)
   ·simp at h;omega
  ·simp at h;omega
 ·exact .some (.inr ⟨by simp,rfl,g1⟩)
theorem Zck {M:Fn} (hS:∀a b c v x,Out (fun o=>(wA o 0).length<=4096) (M [I a,I b,I c,I v,I x])) (a b c x3 x4 x5 x6 x7 x8:Int):
  Out (fun o=>(wA o 0).length<=4096) (Om M (Am (Hm M)) [I a,I b,I c,I x3,I x4,I x5,I x6,I x7,I x8]):=by
 rw[Tw];refine .bind (hS _ _ _ _ _) fun o h=> ?_;generalize wA o 0=sp at*;refine .cond (fun _=> .some (by simp[gA,wA,bA,jA,nth,BR])) fun _=> ?_;refine .cond (fun _=> ?_) fun c=>by simp at c
 refine .cond (fun _=> ?_) fun c=>by simp at c;omega
 refine .bind (Q0l (by simp) h) fun o g=> ?_;rw[g.1];exact .some (by show(wA o.2 0).length<=4096;omega)
theorem QH (a b c x3 x4 x5 x6 x7 x8:Int):Out (fun o=>(wA o 0).length<=4096) (EE [I a,I b,I c,I x3,I x4,I x5,I x6,I x7,I x8]):=Zck Znj a b c x3 x4 x5 x6 x7 x8
theorem Zi3 {M:Fn} (hF:∀a b c x3 x4 x5 x6 x7 x8,Out (fun o=>(wA o 0).length<=4096) (M [I a,I b,I c,I x3,I x4,I x5,I x6,I x7,I x8])) (a b c x3 x4 x5 x6 x7 x8:Int):
  (Kr M [I a,I b,I c,I x3,I x4,I x5,I x6,I x7,I x8]).isSome=true:=by
 rw[TM];obtain⟨o,h1,h2⟩:=hF a b c x3 x4 x5 x6 x7 x8;rw[h1];simp only[Option.bind_some];generalize wA o 0=sp at*;refine BW (fun _=>rfl) fun _=>BW (fun _=>rfl) fun c=>BW (fun _=>rfl) fun d=> ?_;have c: ¬((sp.length:Int)=0):=by simpa using c
 rw[Ae (by omega)]at d;simp at d;omega
theorem Qrg (a b c x3 x4 x5 x6 x7 x8:Int):(FB [I a,I b,I c,I x3,I x4,I x5,I x6,I x7,I x8]).isSome=true:=Zi3 QH a b c x3 x4 x5 x6 x7 x8
end Go.Bm
namespace Go.Bm
theorem Zo1 (l:Rw) (h:l.length<=100000):Out (fun o=>(wA o 0).length<=l.length) (OR [.view Aa l]):=by
 show Out _ (ZW (Am Qgp) [.view Aa l]);rw[Zxw];refine .bind (p:=fun o=>o.1=1/\(wA o.2 0).length<=l.length) ?_ fun o g=>by rw[g.1];exact .some g.2
 refine CT (fun s:Rw×Nat=>[.view Aa s.1, .view Aa l,I (s.2:Int)]) (fun s=>1<=s.2/\s.2<=l.length+1/\s.1.length+1<=s.2) (fun s=>l.length+1-s.2) _ ?_ ([],1) (by simp);rintro⟨v,i⟩ ⟨g1,g2,g3⟩;dsimp only at*;rw[Zwc];rw[Ae (x:=(i:Int)-1) (by omega),Ae (x:=(i:Int)+1) (by omega)];refine .cond (fun c=> ?_) (fun c=> ?_)
 ·have c:=Br c;refine .cond (fun _=> ?_) fun c=>by simp at c;omega
  refine .cond (fun _=> ?_) fun c=>by simp at c;omega
  refine .cond (fun _=> ?_) fun c=>by rw[Cq (by simp;omega)]at c;cases c
  exact .some (.inl ⟨rfl,(_,i+1),rfl,by simp;omega,by simp;omega⟩)
 ·have c:=Bn c;exact .some (.inr ⟨by simp,rfl,by show v.length<=l.length;omega⟩)
theorem Zlv (l:Rw) (n:Int) (h:l.length<=100000):(Pq [.view Aa l,I n]).isSome=true:=by
 show(Qdb (Am Qfy) [.view Aa l,I n]).isSome=true;rw[Za7];refine Out.is (p:=fun _=>True) ?_;refine .bind (p:=fun o=>o.1=1\/o.1=2) ?_ fun o g=>by rcases g with g|g<;>rw[g]<;>exact .some trivial
 refine CT (fun s:Nat=>[I n, .view Aa l,I (l.length:Int),I (s:Int)]) (fun s=>s<=l.length) (fun s=>l.length-s) _ ?_ 0 (by simp);intro i g;rw[Z1f];rw[Ae (x:=(i:Int)+1) (by omega)];refine .cond (fun c=> ?_) (fun c=> ?_)
 ·have c:=Br c;refine .cond (fun _=> ?_) fun c=>by simp at c;omega
  refine .cond (fun _=> .some (.inr ⟨by simp, .inl rfl⟩)) fun _=> .cond (fun _=> .some (.inr ⟨by simp, .inl rfl⟩)) fun _=> ?_;exact .some (.inl ⟨rfl,i+1,rfl,by omega,by omega⟩)
 ·exact .some (.inr ⟨by simp, .inr rfl⟩)
theorem Zeh {MB MD:Fn} (hD:∀l:Rw,l.length<=100000->Out (fun o=>(wA o 0).length<=l.length) (MD [.view Aa l])) (hB:∀(l:Rw) n,l.length<=100000->(MB [.view Aa l,I n]).isSome=true)
  (x0 x1 x2 x3 x4 x5 x6 x7 x8:Int) (x9 l:Rw) (h:l.length<=100000):(Ym MB MD [I x0,I x1,I x2,I x3,I x4,I x5,I x6,I x7,I x8, .view Aa x9, .view Aa l]).isSome=true:=by
 rw[Znc];obtain⟨a,ha,ga⟩:=hD l h;rw[ha];simp only[Option.bind_some];generalize wA a 0=la at*;obtain⟨b,hb,gb⟩:=hD la (by omega);rw[hb];simp only[Option.bind_some];generalize wA b 0=lb at*;obtain⟨c,hc,gc⟩:=hD lb (by omega);rw[hc];simp only[Option.bind_some];generalize wA c 0=lc at*;refine Fj (hB _ _ (by omega)) fun _ _=>BW (fun _=>rfl) fun _=>Fj (hB _ _ (by omega)) fun _ _=>BW (fun _=>rfl) fun _=>Fj (hB _ _ (by omega)) fun _ _=>BW (fun _=>rfl) fun _=>rfl
theorem Zq5 (x0 x1 x2 x3 x4 x5 x6 x7 x8:Int) (x9 l:Rw) (h:l.length<=100000):(Lt [I x0,I x1,I x2,I x3,I x4,I x5,I x6,I x7,I x8, .view Aa x9, .view Aa l]).isSome=true:=Zeh Zo1 Zlv x0 x1 x2 x3 x4 x5 x6 x7 x8 x9 l h
theorem Zwx {M:Fn} {x:Ax3} {k:Int} (hk:0<=k/\k<=2) {l out:Rw} (h0:out.length=l.length) (h1:l.length<=100000):
  Out (fun o=>o.1=1/\∃v:Rw,o.2= .view Aa v:: .view kPt l::I k::I k::AO x/\v.length=l.length) (Am (KS M) (.view Aa out:: .view kPt l::I k::I k::I (l.length:Int)::I 0::AO x)):=by
 refine CT (fun s:Rw×Nat=> .view Aa s.1:: .view kPt l::I k::I k::I (l.length:Int)::I (s.2:Int)::AO x) (fun s=>s.1.length=l.length/\s.2<=l.length) (fun s=>l.length-s.2) _ ?_ (out,0) ⟨h0,by simp⟩;rintro⟨v,i⟩ ⟨g1,g2⟩;dsimp only at*;rw[Zj1];rw[Ae (x:=(i:Int)+1) (by omega)];refine .cond (fun c=> ?_) (fun c=> ?_)
 ·have c:=Br c;refine .cond (fun _=> ?_) fun c=>by simp at c;omega
  refine .cond (fun _=> ?_) fun c0=> .cond (fun _=> ?_) fun c1=> .cond (fun _=> ?_) fun c2=> ?_
  ·refine .cond (fun _=> ?_) fun c=>by simp at c;omega
   exact .some (.inl ⟨rfl,(_,i+1),rfl,by simp;omega,by simp;omega⟩)
  ·refine .cond (fun _=> ?_) fun c=>by simp at c;omega
   exact .some (.inl ⟨rfl,(_,i+1),rfl,by simp;omega,by simp;omega⟩)
  ·refine .cond (fun _=> ?_) fun c=>by simp at c;omega
   exact .some (.inl ⟨rfl,(_,i+1),rfl,by simp;omega,by simp;omega⟩)
  ·have c0:=Bn c0;have c1:=Bn c1;have c2:=Bn c2
   simp at c0 c1 c2;omega
 ·exact .some (.inr ⟨by simp,rfl,v,rfl,g1⟩)
theorem Zpd {M:Fn} (hM:∀(x0 x1 x2 x3 x4 x5 x6 x7 x8:Int) (x9 l:Rw),l.length<=100000->(M [I x0,I x1,I x2,I x3,I x4,I x5,I x6,I x7,I x8, .view Aa x9, .view Aa l]).isSome=true) (x:Ax3) {l:Rw} (h1:l.length<=100000):
  (Tv M (Am (KS M)) (Am (Tf M (Am (KS M)))) (AO x++[.view kPt l])).isSome=true:=by
 show(Tv M (Am (KS M)) (Am (Tf M (Am (KS M)))) [I x.a.step,I x.a.speed,I x.a.accel,I x.a.jerk,I x.a.low,I x.a.high,I x.a.back,I x.a.origin,I x.a.spacing, .view Aa (x.a.pitch.map Ao),I x.b.step,I x.b.speed,I x.b.accel,I x.b.jerk,I x.b.low,I x.b.high,I x.b.back,I x.b.origin,I x.b.spacing, .view Aa (x.b.pitch.map Ao),I x.c.step,I x.c.speed,I x.c.accel,I x.c.jerk,I x.c.low,I x.c.high,I x.c.back,I x.c.origin,I x.c.spacing, .view Aa (x.c.pitch.map Ao), .view kPt l]).isSome=true;rw[Zi0];refine Out.is (p:=fun _=>True) ?_;refine .bind (p:=fun o=>o.1=1\/o.1=2) ?_ fun o g=>by rcases g with g|g<;>rw[g]<;>exact .some trivial
 refine CT (fun s:Nat=> .view kPt l::I (s:Int)::AO x) (fun s=>s<=3) (fun s=>3-s) _ ?_ 0 (by omega);intro k hk;rw[Z1v];refine .cond (fun c=> ?_) (fun c=> ?_)
 ·have c:=Br c;refine .cond (fun _=> ?_) fun c=>by simp at c
  refine .cond (fun _=> ?_) fun c=>by simp at c;omega
  refine .bind (Zwx (M:=M) (x:=x) (k:=(k:Int)) (by omega) (by simp) h1) fun o g=> ?_;obtain⟨g1,v,g2,g3⟩:=g;obtain⟨o1,o2⟩:=o;subst g1;subst g2;refine .cond (fun _=> ?_) fun c=>by simp at c
  have e:wrap .i64 ((k:Int)+1)=((k+1:Nat):Int):=by rw[Ae (by omega)];rfl
  have hw:∀(x0 x1 x2 x3 x4 x5 x6 x7 x8:Int) (x9:Rw),(M [I x0,I x1,I x2,I x3,I x4,I x5,I x6,I x7,I x8, .view Aa x9, .view Aa v]).isSome=true:=fun x0 x1 x2 x3 x4 x5 x6 x7 x8 x9=>hM x0 x1 x2 x3 x4 x5 x6 x7 x8 x9 v (by omega);refine .cond (fun _=> ?_) fun c0=> .cond (fun _=> ?_) fun c1=> .cond (fun _=> ?_) fun c2=> ?_
  ·refine .ibind (hw _ _ _ _ _ _ _ _ _ _) fun _ _=> .cond (fun _=> .some (.inr ⟨by simp, .inl rfl⟩)) fun _=> .some (.inl ⟨rfl,k+1,?_,by omega,by omega⟩);simp only[gA,wA,bA,jA,nth,Af,BR,e]
  ·refine .ibind (hw _ _ _ _ _ _ _ _ _ _) fun _ _=> .cond (fun _=> .some (.inr ⟨by simp, .inl rfl⟩)) fun _=> .some (.inl ⟨rfl,k+1,?_,by omega,by omega⟩);simp only[gA,wA,bA,jA,nth,Af,BR,e]
  ·refine .ibind (hw _ _ _ _ _ _ _ _ _ _) fun _ _=> .cond (fun _=> .some (.inr ⟨by simp, .inl rfl⟩)) fun _=> .some (.inl ⟨rfl,k+1,?_,by omega,by omega⟩);simp only[gA,wA,bA,jA,nth,Af,BR,e]
  ·have c0:=Bn c0;have c1:=Bn c1;have c2:=Bn c2
   simp[gA,wA,bA,jA,nth,Af]at c0 c1 c2;omega
 ·exact .some (.inr ⟨by simp, .inr rfl⟩)
theorem Zy7 (x:Ax3) {l:Rw} (h1:l.length<=100000):(NJ (AO x++[.view kPt l])).isSome=true:=Zpd Zq5 x h1
theorem Qkz (u:Int):(I8 [I u]).isSome=true:=by
 show(Wa [I u]).isSome=true;rw[Zxi];exact BW (fun _=>rfl) fun _=>rfl
end Go.Bm
namespace Go.Bm
structure Fix (p : Pth) (x : Ax3) (t : Trk) : Prop where
 p:GoodPath p
 x:Ax3M x
 t:TH t
theorem T_ {p:Pth} {x:Ax3} {t:Trk} (h:Fix p x t) (u:Int):FF (pxt p x t [I u])=some (ptR (J6 p x t u)):=Zod h.p h.x h.t u
theorem Zbk {MA MM MU:Fn} {p:Pth} {x:Ax3} {t:Trk} (hA:∀{l:Rw},l.length<=100000->(MA (AO x++[.view kPt l])).isSome=true) (hM:∀u,(MM (pxt p x t [I u])).isSome=true) (hU:∀u,(MU [I u]).isSome=true) {way:Rw} (hw:way.length<=100000):
  (Ql5 MA MM MU (Am (Qll MA MM MU)) (pxt p x t [.view Aa way])).isSome=true:=by
 rw[Zu0];refine Out.is (p:=fun _=>True) ?_;refine .bind (p:=fun o=>o.1=1\/o.1=2) ?_ fun o g=>by rcases g with g|g<;>rw[g]<;>exact .some trivial
 refine CT (fun s:Rw×Nat=> .view kPt s.1:: .view Aa way::I (way.length:Int)::I (s.2:Int)::pxt p x t []) (fun s=>s.1.length<=4/\s.2<=way.length) (fun s=>way.length-s.2) _ ?_ ([],0) (by simp);rintro⟨v,i⟩ ⟨g1,g2⟩;dsimp only at g1 g2;rw[Zdf];try dsimp only[g_s_planner_smooth_3_1]
 rw[Ae (x:=(i:Int)+1) (by omega)];refine .cond (fun c=> ?_) (fun c=> ?_)
 ·have c:=Br c;refine .cond (fun _=> ?_) fun c=>by simp at c;omega
  refine .ibind (hU _) fun a _=> .ibind (hM _) fun b _=> ?_;refine .cond (fun _=> ?_) fun c=>by rw[Cq (by simp;omega)]at c;cases c
  generalize [jA b 0,jA b 1,jA b 2]=q;refine .cond (fun _=> ?_) fun c4=> ?_
  ·refine .cond (fun _=> ?_) fun c=>by simp at c;omega
   refine .cond (fun _=> ?_) fun c=>by rw[Cq (by simp)]at c;cases c
   refine .ibind (hA (l:=List.drop (Int.toNat 1) (v++[q])) (by simp;omega)) fun _ _=> .cond (fun _=> .some (.inr ⟨by simp, .inl rfl⟩)) fun _=> ?_;exact .some (.inl ⟨rfl,(_,i+1),rfl,by simp;omega,by simp;omega⟩)
  ·have c4:=Bn c4;simp at c4;refine .ibind (hA (l:=v++[q]) (by simp;omega)) fun _ _=> .cond (fun _=> .some (.inr ⟨by simp, .inl rfl⟩)) fun _=> ?_;exact .some (.inl ⟨rfl,(_,i+1),rfl,by simp;omega,by simp;omega⟩)
 ·exact .some (.inr ⟨by simp, .inr rfl⟩)
theorem Q6v {p:Pth} {x:Ax3} {t:Trk} (h:Fix p x t) {way:Rw} (hw:way.length<=100000):(Na (pxt p x t [.view Aa way])).isSome=true:=
 Zbk (Zy7 x) (fun u=>by rw[T_ h u];rfl) Qkz hw
theorem Zk7 (x0 x1:Int) (b0 b1 b2:Bool) (x5 x6 x7 x8 x9 x10 x11 x12 x13 x14:Int):(L8 [I x0,I x1,B b0,B b1,B b2,I x5,I x6,I x7,I x8,I x9,I x10,I x11,I x12,I x13,I x14]).isSome=true:=by
 show(Rf [I x0,I x1,B b0,B b1,B b2,I x5,I x6,I x7,I x8,I x9,I x10,I x11,I x12,I x13,I x14]).isSome=true;rw[Q33]
 repeat' first|exact rfl|refine BW (fun _=> ?_) (fun _=> ?_)
theorem TR {p:Pth} {x:Ax3} {t:Trk} (h:Fix p x t) (u:Int):i64 (AQ t u):=by
 have:=Q61 h.t.q u;unfold i64;omega
end Go.Bm
namespace Go.Bm
theorem Qdj:∀(l:List Sgm) (s:Int),l≠[]->(A9 l s).1<l.length
 |[],_,h=>absurd rfl h
 |[g],s,_=>by unfold A9;split<;>simp
 |g::h::l,s,_=>by
  by_cases c:s<g.len
  ·rw[A9,if_pos c];simp
  ·rw[Qsc c];have:=Qdj (h::l) (s-g.len) (by simp);simp at this⊢;omega
theorem Qwt {p:Pth} {x:Ax3} {t:Trk} (h:Fix p x t) {s:Int} (hs:i64 s):∃i v:Int,EM (Bp p++[I s])=some [I i,I v]/\(i= -1\/0<=i/\i<p.aF.length)/\(p.aF≠[]->0<=i):=by
 rw[Qgy (h.p.ok) hs];by_cases c:p.aF=[]
 ·rw[if_pos c];exact⟨-1,0,rfl, .inl rfl,fun h=>absurd c h⟩
 ·rw[if_neg c];have:=Qdj p.aF (max s 0) c;exact⟨_,_,rfl, .inr ⟨by omega,by omega⟩,fun _=>by omega⟩
theorem Z1b {MO MF MP MU:Fn} {p:Pth} {t:Trk} (hO:∀(x0 x1:Int) (b0 b1 b2:Bool) (x5 x6 x7 x8 x9 x10 x11 x12 x13 x14:Int),(MO [I x0,I x1,B b0,B b1,B b2,I x5,I x6,I x7,I x8,I x9,I x10,I x11,I x12,I x13,I x14]).isSome=true)
  (hF:∀s,i64 s->∃i v:Int,MF (Bp p++[I s])=some [I i,I v]/\(i= -1\/0<=i/\i<p.aF.length)/\(p.aF≠[]->0<=i)) (hP:∀u,∃s,MP (Bo t++[I u])=some [I s]/\i64 s) (hU:∀u,(MU [I u]).isSome=true) (hne:p.aF≠[])
  (a b c o0 o1:Int) (b0 b1 b2:Bool) (u:Int):
  (RN MO MF MP MU (Dg p t [I a,I b,I c,I o0,I o1,B b0,B b1,B b2,I u])).isSome=true:=by
 rw[Qog];refine Fj (hU _) fun q _=> ?_;obtain⟨s,h1,h2⟩:=hP (gA q 0);rw[h1];simp only[Option.bind_some];obtain⟨i,v,g1,g2,g3⟩:=hF s h2;simp only[gA,wA,bA,jA,nth,Af];rw[g1];simp only[Option.bind_some,gA,wA,bA,jA,nth,Af];have g3:=g3 hne;refine BW (fun _=>Fj (hO _ _ _ _ _ _ _ _ _ _ _ _ _ _ _) fun _ _=>rfl) fun c=> ?_;simp at c;have:=c (decide_eq_true g3);omega
theorem Zj8 {p:Pth} {x:Ax3} {t:Trk} (h:Fix p x t) (hne:p.aF≠[]) (a b c o0 o1:Int) (b0 b1 b2:Bool) (u:Int):
  (Kx (Dg p t [I a,I b,I c,I o0,I o1,B b0,B b1,B b2,I u])).isSome=true:=
 Z1b Zk7 (fun _ hs=>Qwt h hs) (fun u=>⟨_,OK h.t.q u,TR h u⟩) Qkz hne a b c o0 o1 b0 b1 b2 u
theorem Zn3 {MT MF:Fn} {p:Pth} {t:Trk} {a b c o0 o1:Int} {b0 b1 b2:Bool} (hT:p.aF≠[]->∀u,(MT (Dg p t [I a,I b,I c,I o0,I o1,B b0,B b1,B b2,I u])).isSome=true)
  (hF:∀a b c x3 x4 x5 x6 x7 x8,Out (fun o=>(wA o 0).length<=4096) (MF [I a,I b,I c,I x3,I x4,I x5,I x6,I x7,I x8])) (m0 m1 m2 m3 m4 m5:Int):
  (TU MT MF (Am (Tt MT MF)) (Dg p t [I a,I b,I c,I o0,I o1,B b0,B b1,B b2,I m0,I m1,I m2,I m3,I m4,I m5])).isSome=true:=by
 rw[Q1k];obtain⟨o,h1,h2⟩:=hF a b c m0 m1 m2 m3 m4 m5;rw[h1];simp only[Option.bind_some];generalize wA o 0=sp at*;refine BW (fun _=>rfl) fun _=>BW (fun _=>rfl) fun c0=> ?_;have hne:p.aF≠[]:=by
  intro e;rw[e]at c0;simp at c0
 have hT:=hT hne;refine Fj (hT _) fun _ _=>BW (fun _=>rfl) fun _=> ?_;refine Out.is (p:=fun _=>True) ?_;refine .bind (p:=fun o=>o.1=1\/o.1=2) ?_ fun o g=>by rcases g with g|g<;>rw[g]<;>exact .some trivial
 refine CT (fun s:Int×Nat=>I s.1:: .view Aa sp::I (sp.length:Int)::I (s.2:Int)::Dg p t [I a,I b,I c,I o0,I o1,B b0,B b1,B b2]) (fun s=>s.2<=sp.length) (fun s=>sp.length-s.2) _ ?_ (m0,0) (by simp);rintro⟨v,i⟩ g;dsimp only at g;rw[Q19];rw[Ae (x:=(i:Int)+1) (by omega)];refine .cond (fun c=> ?_) (fun c=> ?_)
 ·have c:=Br c;refine .cond (fun _=> ?_) fun c=>by simp at c;omega
  refine .ibind (hT _) fun _ _=> .cond (fun _=> .some (.inr ⟨by simp, .inl rfl⟩)) fun _=> ?_;exact .some (.inl ⟨rfl,(_,i+1),rfl,by dsimp only;omega,by dsimp only;omega⟩)
 ·exact .some (.inr ⟨by simp, .inr rfl⟩)
theorem Zg8 {p:Pth} {x:Ax3} {t:Trk} (h:Fix p x t) (a b c o0 o1:Int) (b0 b1 b2:Bool) (m0 m1 m2 m3 m4 m5:Int):
  (JC (Dg p t [I a,I b,I c,I o0,I o1,B b0,B b1,B b2,I m0,I m1,I m2,I m3,I m4,I m5])).isSome=true:=
 Zn3 (fun hne u=>Zj8 h hne a b c o0 o1 b0 b1 b2 u) QH m0 m1 m2 m3 m4 m5
end Go.Bm
namespace Go.Bm
theorem Z1m {a b v u q r:Nat} (hU:v<a*4294967296+b) (hu:u<4294967296) (hq:v=q*a+r) (h:4294967296<=q\/r*4294967296+u<q*b):(v*4294967296+u)/(a*4294967296+b)<q:=by
 have hy:0<a*4294967296+b:=by omega
 rw[Nat.div_lt_iff_lt_mul hy];rcases h with h|h
 ·have h1:4294967296*(a*4294967296+b)<=q*(a*4294967296+b):=Nat.mul_le_mul_right _ h;omega
 ·have e:q*(a*4294967296+b)=q*a*4294967296+q*b:=by rw[Nat.mul_add,Nat.mul_assoc]
  rw[e];clear e;generalize q*a=p at*;generalize q*b=t at*;subst hq;rw[Nat.add_mul p r 4294967296,Nat.add_assoc];exact Nat.add_lt_add_left h _
theorem Q24 {a b v u q r:Nat} (hU:v<a*4294967296+b) (hq:v=q*a+r) (h:q*b<=r*4294967296+u):q<=(v*4294967296+u)/(a*4294967296+b):=by
 have hy:0<a*4294967296+b:=by omega
 rw[Nat.le_div_iff_mul_le hy];have e:q*(a*4294967296+b)=q*a*4294967296+q*b:=by rw[Nat.mul_add,Nat.mul_assoc]
 rw[e];generalize q*a=p at*;generalize q*b=t at*;omega
theorem Qyp {a b v u:Nat} (hU:v<a*4294967296+b) (hu:u<4294967296):(v*4294967296+u)/(a*4294967296+b)<4294967296:=by
 rw[Nat.div_lt_iff_lt_mul (by omega)];omega
theorem Qun {q b:Nat} (hq:q<4294967296) (hb:b<4294967296):q*b<=18446744065119617025:=by
 have:=Nat.mul_le_mul (show q<=4294967295 by omega) (show b<=4294967295 by omega);omega
theorem Qcf {α:Type} {F G:Nat->Nat->Option α} {a b v u Q:Nat} (hQ:(v*4294967296+u)/(a*4294967296+b)=Q) (hb:b<4294967296) (ha:2147483648<=a) (ha2:a<4294967296) (hU:v<a*4294967296+b) (hu:u<4294967296) {X:α}
  (hF:∀q r:Nat,q<=4294967297->r<4294967296->F q r=if 4294967296<=q\/r*4294967296+u<q*b then(if 4294967296<=r+a then G (q-1) 0 else F (q-1) (r+a))else G q 0)
  (hG:G Q 0=some X):∀(k q r:Nat),q<=Q+k->Q<=q->v=q*a+r->r<4294967296->q<=4294967297->F q r=some X
 |k,q,r,hk,h1,h2,h3,h4=>by
  rw[hF q r h4 h3];by_cases c:4294967296<=q\/r*4294967296+u<q*b
  ·rw[if_pos c];have h5:=Z1m hU hu h2 c;rw[hQ]at h5;have e:v=(q-1)*a+(r+a):=by
    have:(q-1)*a+a=q*a:=by rw[<-Nat.succ_mul];congr 1;omega
    omega
   by_cases c2:4294967296<=r+a
   ·rw[if_pos c2];have h6:(q-1)*b<=(r+a)*4294967296+u:=by
     have:=Nat.mul_le_mul (show q-1<=4294967296 by omega) (show b<=4294967296 by omega);omega
    have h7:=Q24 hU e h6;rw[hQ]at h7;rw[show q-1=Q by omega];exact hG
   ·rw[if_neg c2]
    match k with
    |0=>omega
    |k+1=>exact Qcf hQ hb ha ha2 hU hu hF hG k (q-1) (r+a) (by omega) (by omega) e (by omega) (by omega)
  ·rw[if_neg c];have h7:=Q24 (u:=u) hU h2 (by omega);rw[hQ]at h7;rw[show q=Q by omega];exact hG
theorem Qpx {a b v u:Nat} (hb:b<4294967296) (ha:2147483648<=a) (hU:v<a*4294967296+b) (hu:u<4294967296):(v*4294967296+u)/(a*4294967296+b)<=v/a/\v/a<=4294967297/\v=v/a*a+v%a/\v%a<a:=by
 have e:v=v/a*a+v%a:=by have:=Nat.div_add_mod v a;rw[Nat.mul_comm]at this;omega
 have hm:v%a<a:=Nat.mod_lt _ (by omega);refine⟨?_,?_,e,hm⟩
 ·rw[<-Nat.lt_succ_iff,Nat.div_lt_iff_lt_mul (by omega)];have e2:(v/a).succ*(a*4294967296+b)=(v/a*a+a)*4294967296+(v/a).succ*b:=by rw[Nat.mul_add,<-Nat.mul_assoc,Nat.succ_mul]
  rw[e2];omega
 ·rw[<-Nat.lt_succ_iff,Nat.div_lt_iff_lt_mul (by omega)];omega
theorem wr {x:Nat} (h:x<=18446744073709551615):wrap .u64 (x:Int)=x:=GS (by omega)
theorem Zvu {M:Fn} {y s v0:Int} {a b v u:Nat} (hb:b<4294967296) (ha:2147483648<=a) (ha2:a<4294967296) (hU:v<a*4294967296+b) (hu:u<4294967296):
  Am (K3 M) [U y,U s,U a,U b,U v,U u,U v0,U ((v/a:Nat):Int),U ((v%a:Nat):Int)]=some (1,[U y,U s,U a,U b,U v,U u,U v0,U (((v*4294967296+u)/(a*4294967296+b):Nat):Int)]):=by
 obtain⟨f1,f2,f3,f4⟩:=Qpx hb ha hU hu;refine Qcf (F:=fun q r=>Am (K3 M) [U y,U s,U a,U b,U v,U u,U v0,U q,U r]) (G:=fun q _=>some (1,[U y,U s,U a,U b,U v,U u,U v0,U q])) rfl hb ha ha2 hU hu ?_ rfl (v/a) _ _ (Nat.le_add_left _ _) f1 f3 (by omega) f2;intro q r hq hr;have w1:wrap .u64 ((r:Int)+(a:Int))=((r+a:Nat):Int):=by rw[<-Int.natCast_add,wr (by omega)]
 have w3:wrap .u64 (wrap .u64 (4294967296*(r:Int))+(u:Int))=((r*4294967296+u:Nat):Int):=by rw[show(4294967296:Int)*r=((r*4294967296:Nat):Int) by omega,wr (by omega),<-Int.natCast_add,wr (by omega)]
 have w4:4294967296<=q->wrap .u64 ((q:Int)-1)=((q-1:Nat):Int):=fun h=>by rw[show(q:Int)-1=((q-1:Nat):Int) by omega,wr (by omega)]
 have hst:=Zu1 (DH:=M) y s a b v u v0 q r;rw[w1,w3]at hst;by_cases c1:4294967296<=q
 ·rw[DT (show(q:Int)>=4294967296 by omega),w4 c1]at hst;show _=if _ then _ else _;rw[if_pos (.inl c1)];by_cases c2:4294967296<=r+a
  ·rw[DT (show((r+a:Nat):Int)>=4294967296 by omega)]at hst;rw[if_pos c2];exact Bb hst (by simp)
  ·rw[AX (show¬((r+a:Nat):Int)>=4294967296 by omega)]at hst;rw[if_neg c2];exact Bw hst
 ·have hqb:=Qun (q:=q) (b:=b) (by omega) hb;rw[AX (show¬(q:Int)>=4294967296 by omega),<-Int.natCast_mul,wr (Nat.le_trans hqb (by decide))]at hst;show _=if _ then _ else _;by_cases c3:r*4294967296+u<q*b
  ·rw[DT (show((q*b:Nat):Int)>((r*4294967296+u:Nat):Int) by omega)]at hst;rw[if_pos (.inr c3)];have hq0:0<q:=by
    rcases Nat.eq_zero_or_pos q with h|h
    ·rw[h]at c3;omega
    ·exact h
   rw[show(q:Int)-1=((q-1:Nat):Int) by omega,wr (by omega)]at hst;by_cases c2:4294967296<=r+a
   ·rw[DT (show((r+a:Nat):Int)>=4294967296 by omega)]at hst;rw[if_pos c2];exact Bb hst (by simp)
   ·rw[AX (show¬((r+a:Nat):Int)>=4294967296 by omega)]at hst;rw[if_neg c2];exact Bw hst
  ·rw[AX (show¬((q*b:Nat):Int)>((r*4294967296+u:Nat):Int) by omega)]at hst;rw[if_neg (fun h=>h.elim c1 c3)];exact Bb hst (by simp)
theorem Zyf {M:Fn} {N:Lp} {y s q1 w:Int} {a b v u:Nat} (hb:b<4294967296) (ha:2147483648<=a) (ha2:a<4294967296) (hU:v<a*4294967296+b) (hu:u<4294967296):
  Am (PF M N) [U y,U s,U a,U b,U u,U q1,U ((v%a:Nat):Int),U w,U ((v/a:Nat):Int)]=some (1,[U y,U s,U u,U q1,U w,U (((v*4294967296+u)/(a*4294967296+b):Nat):Int)]):=by
 obtain⟨f1,f2,f3,f4⟩:=Qpx hb ha hU hu;refine Qcf (F:=fun q r=>Am (PF M N) [U y,U s,U a,U b,U u,U q1,U r,U w,U q]) (G:=fun q _=>some (1,[U y,U s,U u,U q1,U w,U q])) rfl hb ha ha2 hU hu ?_ rfl (v/a) _ _ (Nat.le_add_left _ _) f1 f3 (by omega) f2;intro q r hq hr;have w1:wrap .u64 ((r:Int)+(a:Int))=((r+a:Nat):Int):=by rw[<-Int.natCast_add,wr (by omega)]
 have w3:wrap .u64 (wrap .u64 (4294967296*(r:Int))+(u:Int))=((r*4294967296+u:Nat):Int):=by rw[show(4294967296:Int)*r=((r*4294967296:Nat):Int) by omega,wr (by omega),<-Int.natCast_add,wr (by omega)]
 have w4:4294967296<=q->wrap .u64 ((q:Int)-1)=((q-1:Nat):Int):=fun h=>by rw[show(q:Int)-1=((q-1:Nat):Int) by omega,wr (by omega)]
 have hst:=Zur (DH:=M) (N17:=N) y s a b u q1 r w q;rw[w1,w3]at hst;by_cases c1:4294967296<=q
 ·rw[DT (show(q:Int)>=4294967296 by omega),w4 c1]at hst;show _=if _ then _ else _;rw[if_pos (.inl c1)];by_cases c2:4294967296<=r+a
  ·rw[DT (show((r+a:Nat):Int)>=4294967296 by omega)]at hst;rw[if_pos c2];exact Bb hst (by simp)
  ·rw[AX (show¬((r+a:Nat):Int)>=4294967296 by omega)]at hst;rw[if_neg c2];exact Bw hst
 ·have hqb:=Qun (q:=q) (b:=b) (by omega) hb;rw[AX (show¬(q:Int)>=4294967296 by omega),<-Int.natCast_mul,wr (Nat.le_trans hqb (by decide))]at hst;show _=if _ then _ else _;by_cases c3:r*4294967296+u<q*b
  ·rw[DT (show((q*b:Nat):Int)>((r*4294967296+u:Nat):Int) by omega)]at hst;rw[if_pos (.inr c3)];have hq0:0<q:=by
    rcases Nat.eq_zero_or_pos q with h|h
    ·rw[h]at c3;omega
    ·exact h
   rw[show(q:Int)-1=((q-1:Nat):Int) by omega,wr (by omega)]at hst;by_cases c2:4294967296<=r+a
   ·rw[DT (show((r+a:Nat):Int)>=4294967296 by omega)]at hst;rw[if_pos c2];exact Bb hst (by simp)
   ·rw[AX (show¬((r+a:Nat):Int)>=4294967296 by omega)]at hst;rw[if_neg c2];exact Bw hst
  ·rw[AX (show¬((q*b:Nat):Int)>((r*4294967296+u:Nat):Int) by omega)]at hst;rw[if_neg (fun h=>h.elim c1 c3)];exact Bb hst (by simp)
theorem Qsy {s:Nat} (hs:s<=63):(2:Int)^min (Int.toNat (s:Int)) IntKind.u64.bits=((2^s:Nat):Int):=by
 have e:min (Int.toNat (s:Int)) IntKind.u64.bits=s:=by
  show min (Int.toNat (s:Int)) 64=s;omega
 rw[e];simp
theorem Zo5 {s:Nat} (hs:s<=63):(2:Int)^min (Int.toNat ((64-s:Nat):Int)) IntKind.u64.bits=((2^(64-s):Nat):Int):=by
 have e:min (Int.toNat ((64-s:Nat):Int)) IntKind.u64.bits=64-s:=by
  show min (Int.toNat ((64-s:Nat):Int)) 64=64-s;omega
 rw[e];simp
theorem Q1j (x y:Nat):((x:Int)).fdiv (y:Int)=((x/y:Nat):Int):=by
 rw[Int.fdiv_eq_ediv_of_nonneg _ (by omega)];rfl
theorem Qh2 (x y:Nat):((x:Int)).tdiv (y:Int)=((x/y:Nat):Int):=by
 rw[Int.tdiv_eq_ediv_of_nonneg (by omega)];rfl
theorem orP {A B s:Nat} (hB:B<2^s) (h:A*2^s+B<w64):wrap .u64 (((BitVec.ofInt IntKind.u64.bits ((A*2^s:Nat):Int)|||BitVec.ofInt IntKind.u64.bits (B:Int)).toNat:Nat):Int)=((A*2^s+B:Nat):Int):=by
 rw[Bz]at h;have e:(BitVec.ofInt IntKind.u64.bits ((A*2^s:Nat):Int)|||BitVec.ofInt IntKind.u64.bits (B:Int)).toNat=A*2^s+B:=by
  rw[BitVec.toNat_or];have e1:∀v:Nat,v<18446744073709551616->(BitVec.ofInt IntKind.u64.bits (v:Int)).toNat=v:=by
   intro v hv;simp only[IntKind.bits,BitVec.toNat_ofInt];omega
  have:=(Nat.two_pow_add_eq_or_of_lt hB A).symm;rw[Nat.mul_comm]at this;generalize A*2^s=X at*;rw[e1 _ (by omega),e1 _ (by omega)];exact this
 rw[e,wr (by omega)]
theorem Qt8 {v u q1 y:Nat} (hy:y<w64) (hq:q1=(v*4294967296+u)/y) (hy0:0<y):wrap .u64 (wrap .u64 (wrap .u64 ((v:Int)*4294967296)+(u:Int))-wrap .u64 ((q1:Int)*(y:Int)))=(((v*4294967296+u)%y:Nat):Int):=by
 have h1:=Nat.div_add_mod (v*4294967296+u) y;have h2:=Nat.mod_lt (v*4294967296+u) hy0;rw[<-hq,Nat.mul_comm]at h1;rw[Bz]at hy;rw[Ne,Ne,Ne,Ne,<-Int.natCast_mul];generalize q1*y=p at*;generalize(v*4294967296+u)%y=r at*;omega
theorem Qoq {v a:Nat} (ha:0<a) (hv:v<w64):wrap .u64 ((v:Int)-wrap .u64 (wrap .u64 ((v/a:Nat):Int)*(a:Int)))=((v%a:Nat):Int):=by
 have h1:=Nat.div_add_mod v a;have h2:=Nat.mod_lt v ha;have h3:=Nat.div_le_self v a;rw[Bz]at hv;rw[wr (x:=v/a) (by omega),<-Int.natCast_mul];rw[Nat.mul_comm]at h1;generalize v/a*a=p at*;generalize v%a=r at*;rw[wr (x:=p) (by omega),show(v:Int)-(p:Int)=(r:Int) by omega,wr (by omega)]
theorem Zyv {v u1 u0 Y:Nat} (hY:0<Y):(v*w64+(u1*4294967296+u0))/Y=(v*4294967296+u1)/Y*4294967296+((v*4294967296+u1)%Y*4294967296+u0)/Y/\
  (v*w64+(u1*4294967296+u0))%Y=((v*4294967296+u1)%Y*4294967296+u0)%Y:=by
 have e:v*w64+(u1*4294967296+u0)=((v*4294967296+u1)%Y*4294967296+u0)+(v*4294967296+u1)/Y*4294967296*Y:=by
  have h:=Nat.div_add_mod (v*4294967296+u1) Y;rw[Nat.mul_comm]at h;rw[Bz];generalize(v*4294967296+u1)%Y=r at*;have e2:(v*4294967296+u1)/Y*4294967296*Y=(v*4294967296+u1)/Y*Y*4294967296:=by rw[Nat.mul_assoc,Nat.mul_comm 4294967296,<-Nat.mul_assoc]
  rw[e2];generalize(v*4294967296+u1)/Y*Y=p at*;omega
 rw[e,Nat.add_mul_div_right _ _ hY,Nat.add_mul_mod_self_right];exact⟨Nat.add_comm _ _,rfl⟩
theorem Zib {M:Fn} {hi lo y s:Nat} (h0:0<hi) (h1:hi<y) (hyw:y<w64) (hlo:lo<w64) (hs:s<=63) (h2:9223372036854775808<=y*2^s) (h3:y*2^s<w64) (hM:M [U y]=some [I s]):
  V0 M (Am (K3 M)) (Am (PF M (Am (K3 M)))) [U hi,U lo,U y]=some [U (((hi*w64+lo)/y:Nat):Int),U (((hi*w64+lo)%y:Nat):Int)]:=by
 have hP:0<2^s:=Nat.two_pow_pos _;have hPT:2^s*2^(64-s)=w64:=by rw[Bz,<-Nat.pow_add,show s+(64-s)=64 by omega]
 have hT:0<2^(64-s):=Nat.two_pow_pos _;have es:wrap .u64 (s:Int)=s:=wr (by omega);have et:wrap .u64 (64-(s:Int))=((64-s:Nat):Int):=by rw[show(64:Int)-s=((64-s:Nat):Int) by omega,wr (by omega)]
 have hB:lo/2^(64-s)<2^s:=by rw[Nat.div_lt_iff_lt_mul hT,hPT];exact hlo
 have hv:hi*2^s+lo/2^(64-s)<y*2^s:=by
  have:hi*2^s+2^s<=y*2^s:=by rw[<-Nat.succ_mul];exact Nat.mul_le_mul_right _ h1
  omega
 have hN:(hi*w64+lo)*2^s=(hi*2^s+lo/2^(64-s))*w64+lo*2^s%w64:=by
  have e1:lo*2^s/w64=lo/2^(64-s):=by
   rw[<-hPT,Nat.mul_comm lo,Nat.mul_div_mul_left _ _ hP]
  have e2:=Nat.div_add_mod (lo*2^s) w64;rw[e1]at e2;rw[Nat.add_mul,Nat.add_mul,Nat.add_assoc,Nat.mul_comm (lo/2^(64-s)),e2];congr 1;rw[Nat.mul_assoc,Nat.mul_comm w64,Nat.mul_assoc]
 have hU:lo*2^s%w64<w64:=Nat.mod_lt _ Qu;have ey:wrap .u64 ((y:Int)*((2^s:Nat):Int))=((y*2^s:Nat):Int):=by rw[<-Int.natCast_mul,wr (Nat.le_of_lt_succ (by rw[Bz]at h3;exact h3))]
 have eh:wrap .u64 ((hi:Int)*((2^s:Nat):Int))=((hi*2^s:Nat):Int):=by
  rw[<-Int.natCast_mul,wr (Nat.le_of_lt_succ (by have:=Nat.mul_lt_mul_of_pos_right h1 hP;rw[Bz]at h3;exact Nat.lt_trans this h3))]
 have el:wrap .u64 ((lo:Int)*((2^s:Nat):Int))=((lo*2^s%w64:Nat):Int):=by
  rw[<-Int.natCast_mul,Ne,Bz];rfl
 have eo:=orP (A:=hi) (B:=lo/2^(64-s)) (s:=s) hB (by omega);have hq:(hi*w64+lo)/y=(hi*w64+lo)*2^s/(y*2^s):=(Nat.mul_div_mul_right _ _ hP).symm;have hr:(hi*w64+lo)%y=(hi*w64+lo)*2^s%(y*2^s)/2^s:=by rw[Nat.mul_mod_mul_right,Nat.mul_div_cancel _ hP]
 rw[hq,hr,hN];rw[Qx5];simp only[hM,Option.bind_some,Ho,Ks,Lw,Ql,O4,TZ,UP,Qbk,HH,gA,jA,wA,bA,es,et,Qsy hs,Zo5 hs,ey,eh,el,Q1j,eo];rw[Bf (by simp;omega),AX (show¬(y:Int)<=hi by omega),Bf (by simp;omega),AX (show¬(s:Int)<0 by omega),AX (show¬(s:Int)<0 by omega),AX (show¬((64-s:Nat):Int)<0 by omega),AX (show¬(s:Int)<0 by omega)];rw[Qxu,Q2s _ h3,Qxu,Q2s _ hU];have hY:y*2^s=y*2^s/4294967296*4294967296+y*2^s%4294967296:=by omega
 have hW:lo*2^s%w64=lo*2^s%w64/4294967296*4294967296+lo*2^s%w64%4294967296:=by omega
 have hb:y*2^s%4294967296<4294967296:=Nat.mod_lt _ (by omega);have hu0:lo*2^s%w64%4294967296<4294967296:=Nat.mod_lt _ (by omega);have hu1:lo*2^s%w64/4294967296<4294967296:=by rw[Bz]at hU⊢;omega
 have ha:2147483648<=y*2^s/4294967296:=by omega
 have ha2:y*2^s/4294967296<4294967296:=by rw[Bz]at h3;omega
 clear hN hq hr eh el eo ey hB;generalize hi*2^s+lo/2^(64-s)=v at*;generalize lo*2^s%w64=w at*;generalize y*2^s=Y at*;generalize w/4294967296=u1 at*;generalize w%4294967296=u0 at*;generalize Y/4294967296=a at*;generalize Y%4294967296=b at*;subst hW;rw[AX (show¬(a:Int)=0 by omega),Qh2,Qoq (by omega) (Nat.lt_trans hv h3),wr (x:=v/a) (by have:=Nat.div_le_self v a;rw[Bz]at h3;omega)];have hl:=Zvu (M:=M) (y:=(Y:Int)) (s:=s) (v0:=u0) hb ha ha2 (by rw[<-hY];exact hv) hu1;rw[hl];rw[<-hY];have hY0:0<Y:=by omega
 have hr1:=Qt8 (v:=v) (u:=u1) (y:=Y) h3 rfl hY0;have hq1:(v*4294967296+u1)/Y<4294967296:=by rw[hY];exact Qyp (by rw[<-hY];exact hv) hu1
 have hm1:=Nat.mod_lt (v*4294967296+u1) hY0;obtain⟨k1,k2⟩:=Zyv (v:=v) (u1:=u1) (u0:=u0) hY0;rw[k1,k2];clear hl k1 k2;obtain⟨q1,g1⟩:∃q1,(v*4294967296+u1)/Y=q1:=⟨_,rfl⟩;obtain⟨r1,g2⟩:∃r1,(v*4294967296+u1)%Y=r1:=⟨_,rfl⟩;rw[g1]at hr1 hq1⊢;rw[g2]at hr1 hm1⊢;simp only[Option.bind_some,Ho,Ks,Lw,Ql,O4,TZ,UP,Qbk,HH,hr1];rw[show Nat.beq 1 1=true from rfl,cond_true,AX (show¬(a:Int)=0 by omega),Qh2,Qoq (by omega) (Nat.lt_trans hm1 h3),wr (x:=r1/a) (by have:=Nat.div_le_self r1 a;rw[Bz]at h3;omega)];have hl2:=Zyf (M:=M) (N:=Am (K3 M)) (y:=(Y:Int)) (s:=s) (q1:=q1) (w:=r1) hb ha ha2 (by rw[<-hY];exact hm1) hu0;rw[hl2];rw[<-hY];have hr0:=Qt8 (v:=r1) (u:=u0) (y:=Y) h3 rfl hY0;have hq0:(r1*4294967296+u0)/Y<4294967296:=by rw[hY];exact Qyp (by rw[<-hY];exact hm1) hu0
 obtain⟨q0,g3⟩:∃q0,(r1*4294967296+u0)/Y=q0:=⟨_,rfl⟩;obtain⟨r0,g4⟩:∃r0,(r1*4294967296+u0)%Y=r0:=⟨_,rfl⟩;rw[g3]at hr0 hq0⊢;rw[g4]at hr0⊢;simp only[Option.bind_some,Ho,Ks,Lw,Ql,O4,TZ,HH,hr0];rw[show Nat.beq 1 1=true from rfl,cond_true,AX (show¬(s:Int)<0 by omega),Qsy hs,Q1j];have w1:wrap .u64 (wrap .u64 ((q1:Int)*4294967296)+(q0:Int))=((q1*4294967296+q0:Nat):Int):=by
  rw[show(q1:Int)*4294967296=((q1*4294967296:Nat):Int) by omega,wr (by omega),<-Int.natCast_add,wr (by omega)]
 rw[w1]
theorem Q9w {y:Nat} (h0:0<y) (h:y<w64):∃s:Nat,H_ [U y]=some [I s]/\s<=63/\9223372036854775808<=y*2^s/\y*2^s<w64:=by
 have hw:=Bz;obtain⟨b1,b2,b3⟩:=Lib.bitLenAux_bounds 64 y (by rw[<-show w64=2^64 by rw[hw]];exact h) (by omega);have hL:Lib.bitLen y=Lib.bitLenAux 64 y:=rfl;generalize hb:Lib.bitLenAux 64 y=L at*;have hL64:L<=64:=by
  by_cases c:L<=64
  ·exact c
  ·have:=Nat.pow_le_pow_right (show 0<2 by omega) (show 64<=L-1 by omega);rw[show(2:Nat)^64=18446744073709551616 from rfl]at this;omega
 refine⟨64-L,?_,by omega,?_,?_⟩
 ·unfold H_;have e64:Fx=18446744073709551616:=rfl;have hu:inU (y:Int)=true:=by
   simp only[inU,e64,Bool.and_eq_true,decide_eq_true_eq];omega
  simp only[Ho,HH,gA,jA,wA,bA,hu,cond_true,Int.toNat_natCast,hL];rw[show(64:Int)-(L:Int)=((64-L:Nat):Int) by omega]
 ·have e:2^(L-1)*2^(64-L)=9223372036854775808:=by rw[<-Nat.pow_add,show L-1+(64-L)=63 by omega]
  rw[<-e];exact Nat.mul_le_mul_right _ b2
 ·have e:2^L*2^(64-L)=w64:=by rw[<-Nat.pow_add,show L+(64-L)=64 by omega,hw]
  rw[<-e];exact Nat.mul_lt_mul_of_pos_right b3 (Nat.two_pow_pos _)
theorem Qwm {hi lo y:Nat} (h1:hi<y) (hy:y<w64) (hlo:lo<w64):GE [U hi,U lo,U y]=some [U (((hi*w64+lo)/y:Nat):Int),U (((hi*w64+lo)%y:Nat):Int)]:=by
 rcases Nat.eq_zero_or_pos hi with h|h
 ·subst h;rw[Nat.zero_mul,Nat.zero_add];exact Xe hlo h1
 ·obtain⟨s,e,e1,e2,e3⟩:=Q9w (show 0<y by omega) hy;exact Zib h h1 hy hlo e1 e2 e3 e
end Go.Bm
namespace Go.Bm
theorem Zcz {M1 M2 M3 M4 M5 M6 M7:Fn} (h1:∀x b,(M1 [U x,B b]).isSome=true) (h2:∀x y b c,(M2 [I x,I y,B b,B c]).isSome=true) (h3:∀x y,(M3 [I x,I y]).isSome=true)
  (h4:∀{hi lo y:Nat},hi<y->y<w64->lo<w64->(M4 [U hi,U lo,U y]).isSome=true) (h5:∀{x y:Nat},x<w64->y<w64->M5 [U x,U y]=some [U ((x*y/w64:Nat):Int),U ((x*y%w64:Nat):Int)])
  (h6:∀{x:Int},i64 x->M6 [I x]=some [U (x.natAbs:Int)]) (h7:∀x,(M7 [I x]).isSome=true) {a b c:Int} (ha:i64 a) (hb:i64 b) (hc:i64 c) (m:Int):
  (Qt M1 M2 M3 M4 M5 M6 M7 [I a,I b,I c,I m]).isSome=true:=by
 have hw:∀{x:Int},i64 x->x.natAbs<w64:=by
  intro x hx;unfold i64 at hx;rw[Bz];omega
 rw[Ua,h6 ha,h6 hb,h6 hc];refine BW (fun _=>rfl) fun _=>Fj (h7 _) fun _ _=>BW (fun _=>rfl) fun _=> ?_;simp only[Option.bind_some,gA,wA,bA,jA,nth,Af];rw[h5 (hw ha) (hw hb)];simp only[Option.bind_some,gA,wA,bA,jA,nth,Af];refine BW (fun _=>rfl) fun c0=> ?_;have c0:=Bn c0;have hlo:a.natAbs*b.natAbs%w64<w64:=Nat.mod_lt _ (by rw[Bz];decide);refine Fj (h4 (by omega) (hw hc) hlo) fun _ _=>Fj (h3 _ _) fun _ _=> ?_
 repeat' first|exact rfl|exact h1 _ _|exact h2 _ _ _ _|exact h3 _ _|refine BW (fun _=> ?_) (fun _=> ?_)|refine Fj ?_ fun _ _=> ?_
theorem Zt2 (x:Int) (b:Bool):(E3 [U x,B b]).isSome=true:=by
 show(S2 [U x,B b]).isSome=true;rw[QQ]
 repeat' first|exact rfl|refine BW (fun _=> ?_) (fun _=> ?_)
theorem Zpt (x y:Int) (b c:Bool):(Hw [I x,I y,B b,B c]).isSome=true:=by
 show(QC [I x,I y,B b,B c]).isSome=true;rw[Qbq]
 repeat' first|exact rfl|refine BW (fun _=> ?_) (fun _=> ?_)
theorem Zjn (x y:Int):(Fz [I x,I y]).isSome=true:=by
 show(Qcl [I x,I y]).isSome=true;rw[Q5z]
 repeat' first|exact rfl|refine BW (fun _=> ?_) (fun _=> ?_)
theorem Ze8 (x:Int):(FK [I x]).isSome=true:=by
 show(QU [I x]).isSome=true;rw[Qa8]
 repeat' first|exact rfl|refine BW (fun _=> ?_) (fun _=> ?_)
theorem Y6 {a b c:Int} (ha:i64 a) (hb:i64 b) (hc:i64 c) (m:Int):(Bi [I a,I b,I c,I m]).isSome=true:=
 Zcz Zt2 Zpt Zjn (fun h1 h2 h3=>by rw[Qwm h1 h2 h3];rfl) (fun h1 h2=>Q5h h1 h2) (fun h=>F9 h) Ze8 ha hb hc m
theorem PS (x:Int):i64 (wrap .i64 x):=Z1s x
theorem Qzx {M:Fn} {l:List AC} (h:(M l).isSome=true) {f:List AC->List AC}:((M l).bind fun o=>some (f o)).isSome=true:=Fj h fun _ _=>rfl
theorem Qpd {a b:Int} (ha:i64 a) (hb:i64 b):(Pp [I a,I b]).isSome=true:=by
 show(Qmw Bi [I a,I b]).isSome=true;have h:=Y6 ha hb (show i64 4096 by unfold i64;omega) 0;generalize Bi=M at*;rw[Zve];exact Qzx h
theorem Qor {a:Int} (ha:i64 a):(EW [I a]).isSome=true:=by
 show(TK Bi [I a]).isSome=true;have h:=Y6 ha (show i64 1048576 by unfold i64;omega) (show i64 60000 by unfold i64;omega) 2;generalize Bi=M at*;rw[Q3q];exact Qzx h
theorem Qzt (a b:Int):∃v,OV [I a,I b]=some [I v]/\i64 v:=by
 refine⟨mx (wrap .i64 (a-b)) (wrap .i64 (b-a)),?_,?_⟩
 ·show Qj8 [I a,I b]=_;rw[Zoe]
 ·have h1:=PS (a-b);have h2:=PS (b-a)
  unfold mx;split<;>assumption
theorem Qpb (a:Int):(Gk [I a]).isSome=true:=by
 show(Vg [I a]).isSome=true;rw[Zmp]
 repeat' first|exact rfl|refine BW (fun _=> ?_) (fun _=> ?_)
theorem Zqd {a b:Int} (hb:b≠0):(JO [I a,I b]).isSome=true:=by
 show(Wy [I a,I b]).isSome=true;rw[Zav];refine BW (fun c=>absurd (Br c) hb) fun _=>BW (fun c=>absurd (Br c) hb) fun _=>BW (fun _=>rfl) fun _=>rfl
theorem Zlf (x0 x1 x2 x3 x4:Int) {x5:Int} (h5:i64 x5):(Kq [I x0,I x1,I x2,I x3,I x4,I x5]).isSome=true:=by
 show(Qht EW Gk [I x0,I x1,I x2,I x3,I x4,I x5]).isSome=true;have h:=Qor h5;have h2:=Qpb x4;generalize EW=M at*;generalize Gk=N at*;rw[Zuy]
 repeat' first|exact rfl|exact h|exact h2|refine BW (fun _=> ?_) (fun _=> ?_)|refine Fj ?_ fun _ _=> ?_
theorem Zeb (x0 x1 x2 x3 x4:Int) {x5:Int} (h5:i64 x5):(Oe [I x0,I x1,I x2,I x3,I x4,I x5]).isSome=true:=by
 show(Qfj EW Gk [I x0,I x1,I x2,I x3,I x4,I x5]).isSome=true;have h:=Qor h5;have h2:=Qpb x4;generalize EW=M at*;generalize Gk=N at*;rw[Z1r]
 repeat' first|exact rfl|exact h|exact h2|refine BW (fun _=> ?_) (fun _=> ?_)|refine Fj ?_ fun _ _=> ?_
end Go.Bm
namespace Go.Bm
end Go.Bm
namespace Go.Bm
structure Plan3 (a b c : Int) : Prop where
 a:1<=a/\a<=65536
 b:2<=b/\b<=65536
 c:1<=c/\c<=16777216
end Go.Bm
namespace Go.Bm
abbrev Eh (m0 m1 m3 m4 v:Int):List AC:=[I (wrap .i64 (m0+v)),I v,I (wrap .i64 (v-m1)),I m0,I m3,I m4]
theorem PH (m0 m1 m2 m3 m4 m5 v:Int):Jd [I m0,I m1,I m2,I m3,I m4,I m5,I v]=some (Eh m0 m1 m3 m4 v):=by
 show Qai [I m0,I m1,I m2,I m3,I m4,I m5,I v]=some (Eh m0 m1 m3 m4 v);rw[Zfx]
end Go.Bm
namespace Go.Bm
theorem CV (a:AC) (l:List AC):nth .dead (a::l) 0=a:=rfl
theorem El (a:AC) (l:List AC) (n:Nat):nth .dead (a::l) (n+1)=nth .dead l n:=rfl
theorem Dp (n:Int):Af (.int .i64 n)=n:=rfl
theorem Zym {M:Fn} {p:Pth} {x:Ax3} {t:Trk} (hM:∀u,(M (pxt p x t [I u])).isSome=true) (ht:0<=t.length/\t.length<=900000000000000) (u1 u2:Int) (hd:u2-u1<=1000000000000):
  (Y7 M (Am (Zd M)) (pxt p x t [I u1,I u2])).isSome=true:=by
 rw[Zrr];have h1:0<=mx 0 (mn u1 t.length)/\mx 0 (mn u1 t.length)<=t.length/\mx 0 (mn u2 t.length)-mx 0 (mn u1 t.length)<=1000000000000/\mx 0 (mn u2 t.length)<=t.length:=by
  unfold mx mn
  (repeat' split)<;>omega
 obtain⟨k1,k2,k3,k4⟩:=h1;generalize mx 0 (mn u1 t.length)=f at*;generalize mx 0 (mn u2 t.length)=e at*;refine Fj (hM _) fun o _=> ?_;refine Out.is (p:=fun _=>True) ?_;refine .bind (p:=fun o=>o.1=1) ?_ fun o g=>by rw[g];exact .some trivial
 show Out _ (Am _ (.view kPt []::I e::I f::pxt p x t [I (gA o 0),I (gA o 1),I (gA o 2)]));generalize gA o 0=w0;generalize gA o 1=w1;generalize gA o 2=w2;refine CT (fun s:Rw×Int×Int×Int×Int=> .view kPt s.1::I e::I s.2.1::pxt p x t [I s.2.2.1,I s.2.2.2.1,I s.2.2.2.2]) (fun s=>f<=s.2.1/\s.2.1<=t.length/\(s.1.length:Int)<=3*(s.2.1-f)) (fun s=>(e-s.2.1).toNat) _ ?_ ([],f,w0,w1,w2) (by simp;omega);rintro⟨v,u,a0,a1,a2⟩ ⟨q1,q2,q3⟩;dsimp only at*;rw[Zzg];try dsimp only[Mz]
 rw[Ae (x:=u+1) (by omega)];refine .cond (fun c=> ?_) (fun _=> .some (.inr ⟨by simp,rfl⟩));have c:=Br c;refine .ibind (hM _) fun o _=> ?_
 repeat' first
  |(refine .cond (fun _=> ?_) fun c=>by rw[Cq (by simp;omega)]at c;cases c)
  |refine .cond (fun _=> ?_) (fun _=> ?_)
 all_goals refine Out.some (Or.inl ⟨rfl,(_,u+1,_,_,_),rfl,by simp;omega,by show(e-(u+1)).toNat<(e-u).toNat;omega⟩)
theorem Zze {p:Pth} {x:Ax3} {t:Trk} (h:Fix p x t) (u1 u2:Int) (hd:u2-u1<=1000000000000):(KA (pxt p x t [I u1,I u2])).isSome=true:=
 Zym (fun u=>by rw[T_ h u];rfl) h.t.q.len u1 u2 hd
end Go.Bm
namespace Go.Bm
def Bq (k b:Int):Int:=if b<=0 then 0 else(b-1)/k*b-k*((b-1)/k*((b-1)/k+1)/2)
def Ci (j k v a:Int):Prop:= -j<=a/\a<=j/\Bq k (-a)<=v/\v<=16777216-Bq k a/\(v=0->a<=k)
instance (j k v a:Int):Decidable (Ci j k v a):=by unfold Ci;infer_instance
theorem Qyc {k b:Int} (hk:2<=k/\k<=65536) (hb:0<b/\b<=1048576):
  0<=(b-1)/k/\(b-1)/k<=524288/\k*((b-1)/k)<=b-1/\0<=(b-1)/k*b/\(b-1)/k*b<=549755813888/\0<=(b-1)/k*((b-1)/k+1)/\(b-1)/k*((b-1)/k+1)<=274878431232:=by
 have h0:0<=(b-1)/k:=Int.ediv_nonneg (by omega) (by omega);have h1:k*((b-1)/k)<=b-1:=Int.mul_ediv_self_le (by omega);have h2:2*((b-1)/k)<=k*((b-1)/k):=Int.mul_le_mul_of_nonneg_right hk.1 h0;have h3:(b-1)/k<=524288:=by omega
 have h4:(b-1)/k*b<=524288*1048576:=Int.mul_le_mul h3 hb.2 (by omega) (by omega);have h5:(b-1)/k*((b-1)/k+1)<=524288*524289:=Int.mul_le_mul h3 (by omega) (by omega) (by omega);exact⟨h0,h3,h1,Int.mul_nonneg h0 (by omega),by omega,Int.mul_nonneg h0 (by omega),by omega⟩
theorem HR {k b:Int} (h:b<=0):Bq k b=0:=by simp[Bq,h]
theorem Qen {k b:Int} (h:b<=k):Bq k b=0:=by
 unfold Bq;split
 ·rfl
 ·rw[Int.ediv_eq_zero_of_lt (by omega) (by omega)];simp
theorem Zrp (m:Int):m*(m+1)/2=(m-1)*m/2+m:=by
 have:m*(m+1)=(m-1)*m+m*2:=by
  rw[Int.sub_mul,Int.mul_add,Int.mul_one,Int.one_mul];omega
 rw[this,Int.add_mul_ediv_right _ _ (by omega)]
theorem PC {k b:Int} (hk:0<k) (h:k<b):Bq k b=(b-k)+Bq k (b-k):=by
 have e1:(b-1)/k=(b-k-1)/k+1:=by
  have:b-1=(b-k-1)+k*1:=by omega
  rw[this,Int.add_mul_ediv_left _ _ (by omega)]
 unfold Bq;rw[if_neg (by omega),if_neg (by omega),e1];generalize(b-k-1)/k=m;rw[Zrp (m+1)];have e2:m+1-1=m:=by omega
 rw[e2,Int.mul_add k,Int.add_mul m 1 b,Int.mul_sub m b k,Int.mul_add k m 1,Int.mul_comm k m];omega
theorem Qwv {k:Int} (hk:0<k):∀(n:Nat) (b:Int),b<=n->0<=Bq k b
 |0,b,h=>by rw[HR (by omega)];omega
 |n+1,b,h=>by
  by_cases hb:b<=k
  ·rw[Qen hb];omega
  ·rw[PC hk (by omega)];have:=Qwv hk n (b-k) (by omega);omega
theorem Hl {k b:Int} (hk:0<k):0<=Bq k b:=Qwv hk b.toNat b (by omega)
theorem Qo0 {k:Int} (hk:0<k):∀(n:Nat) (b:Int),b<=n->Bq k b<=Bq k (b+1)
 |0,b,h=>by rw[HR (by omega)];exact Hl hk
 |n+1,b,h=>by
  by_cases hb:b<=k
  ·rw[Qen hb];exact Hl hk
  ·rw[PC hk (b:=b) (by omega),PC hk (b:=b+1) (by omega)];have:=Qo0 hk n (b-k) (by omega);have e:b+1-k=b-k+1:=by omega
   rw[e];omega
theorem Qpn {k:Int} (hk:0<k):∀(n:Nat) (b:Int),Bq k b<=Bq k (b+n)
 |0,b=>by simp
 |n+1,b=>by
  have h1:=Qpn hk n b;have h2:=Qo0 hk (b+n).toNat (b+n) (by omega);have e:b+((n+1:Nat):Int)=b+n+1:=by omega
  rw[e];omega
theorem Zmo {k b c:Int} (hk:0<k) (h:b<=c):Bq k b<=Bq k c:=by
 have:=Qpn hk (c-b).toNat b;have e:b+((c-b).toNat:Int)=c:=by omega
 rwa [e]at this
theorem Q2m {k b:Int} (hk:2<=k/\k<=65536) (hb:b<=1048576):Bq k b<=549755813888:=by
 unfold Bq;split
 ·omega
 ·have p:=Qyc (k:=k) (b:=b) hk ⟨by omega,hb⟩;generalize(b-1)/k=m at p⊢;obtain⟨p1,p2,p3,p4,p5,p6,p7⟩:=p;have q1:0<=k*(m*(m+1)/2):=Int.mul_nonneg (by omega) (by omega);omega
def bs (k v:Int):Nat->Int->Int->Int
 |0,low,_=>low
 |n+1,low,high=>if low<high then
   if Bq k (high-(high-low)/2)<=v-(high-(high-low)/2)then bs k v n (high-(high-low)/2) high else bs k v n low (high-(high-low)/2-1)
  else low
def AD (j k v a:Int):Int:= -(bs k v 20 (-a-k) (min (k-a) j))
theorem Un (k v:Int):∀(n:Nat) (low high:Int),low<=bs k v n low high/\bs k v n low high<=max low high
 |0,low,high=>by simp only[bs];omega
 |n+1,low,high=>by
  unfold bs;split
  ·split
   ·have:=Un k v n (high-(high-low)/2) high;omega
   ·have:=Un k v n low (high-(high-low)/2-1);omega
  ·omega
theorem ZM (k v:Int):∀(n:Nat) (low high:Int),low<=high->high-low<2^n->Bq k low<=v-low->
  Bq k (bs k v n low high)<=v-bs k v n low high/\low<=bs k v n low high/\bs k v n low high<=high/\(bs k v n low high=high\/v-(bs k v n low high+1)<Bq k (bs k v n low high+1))
 |0,low,high,h1,h2,h3=>by
  simp only[bs];have:high-low<1:=by simpa using h2
  exact⟨h3,by omega,h1, .inl (by omega)⟩
 |n+1,low,high,h1,h2,h3=>by
  have hp:(2:Int)^(n+1)=2*2^n:=by rw[Int.pow_succ];omega
  unfold bs;by_cases hlt:low<high
  ·rw[if_pos hlt];by_cases hc:Bq k (high-(high-low)/2)<=v-(high-(high-low)/2)
   ·rw[if_pos hc];obtain⟨a,b,c,d⟩:=ZM k v n (high-(high-low)/2) high (by omega) (by omega) hc;exact⟨a,by omega,c,d⟩
   ·rw[if_neg hc];obtain⟨a,b,c,d⟩:=ZM k v n low (high-(high-low)/2-1) (by omega) (by omega) h3;refine⟨a,b,by omega, .inr ?_⟩;rcases d with d|d
    ·have e:bs k v n low (high-(high-low)/2-1)+1=high-(high-low)/2:=by omega
     rw[e];omega
    ·exact d
  ·rw[if_neg hlt];exact⟨h3,by omega,h1, .inl (by omega)⟩
theorem Qy {j k r v a:Int} (hp:Plan3 j k r) (hr:Ci j k v a) {B:Int} (hB:B=bs k v 20 (-a-k) (min (k-a) j)):
  Bq k B<=v-B/\ -a-k<=B/\B<=k-a/\B<=j/\(B=min (k-a) j\/v-(B+1)<Bq k (B+1))/\0<=v:=by
 obtain⟨⟨p1,p2⟩,⟨p3,p4⟩,p5,p6⟩:=hp;obtain⟨h1,h2,h3,h4,h5⟩:=hr;have hk:0<k:=by omega
 have l0:=Hl (b:= -a) hk;have hlow:Bq k (-a-k)<=v-(-a-k):=by
  by_cases hc:k< -a
  ·rw[PC hk hc]at h3;omega
  ·rw[HR (by omega)];omega
 obtain⟨q1,q2,q3,q4⟩:=ZM k v 20 (-a-k) (min (k-a) j) (by omega) (by simp;omega) hlow;rw[<-hB]at q1 q2 q3 q4;exact⟨q1,q2,by omega,by omega,q4,by omega⟩
theorem closed {j k r v a:Int} (hp:Plan3 j k r) (hr:Ci j k v a):
  Ci j k (v+AD j k v a) (AD j k v a)/\AD j k v a-a<=k/\a-AD j k v a<=k/\(0<a\/(v=0/\AD j k v a=0)\/AD j k v a<0):=by
 obtain⟨B,hB⟩:∃B,B=bs k v 20 (-a-k) (min (k-a) j):=⟨_,rfl⟩;have hb:AD j k v a= -B:=by unfold AD;rw[hB]
 obtain⟨q1,q2,q3,q4,q5,q6⟩:=Qy hp hr hB;rw[hb];obtain⟨⟨p1,p2⟩,⟨p3,p4⟩,p5,p6⟩:=hp;obtain⟨h1,h2,h3,h4,h5⟩:=hr;have hk:0<k:=by omega
 have top:B+1<=0->B=min (k-a) j:=by
  intro h;rcases q5 with q5|q5
  ·exact q5
  ·rw[HR h]at q5;omega
 have hB0: -a<=B\/0<=B:=by
  by_cases hn:B+1<=0
  ·have:=top hn;omega
  ·right;omega
 have hneg:a<=0->0<=B:=fun ha=>by
  by_cases hn:B+1<=0
  ·have:=top hn;omega
  ·omega
 have la:=Hl (b:=a) hk;have hjB: -j<=B:=by
  by_cases hn:B+1<=0
  ·have:=top hn;omega
  ·omega
 have e1: -(-B)=B:=by omega
 refine⟨⟨by omega,by omega,by rw[e1];omega,?_,?_⟩,by omega,by omega,?_⟩
 ·by_cases hn:0<=B
  ·rw[HR (b:= -B) (by omega)];omega
  ·have ht:=top (by omega);have hka:B=k-a:=by omega
   have e2: -B=a-k:=by omega
   have hs:=PC (k:=k) (b:=a) hk (by omega);rw[e2];omega
 ·intro hv;omega
 ·by_cases ha:0<a
  ·exact .inl ha
  ·right;have hB1:=hneg (by omega);by_cases hv:v=0
   ·left;have:=Hl (b:=B) hk;exact⟨hv,by omega⟩
   ·right;by_cases hz:B=0
    ·rcases q5 with q5|q5
     ·omega
     ·rw[hz,Qen (k:=k) (b:=0+1) (by omega)]at q5;omega
    ·omega
def BA (j k:Int):Nat->Int->Int->List Int×Bool
 |0,v,_=>([],decide (v<=0))
 |n+1,v,a=>if v<=0 then([],true)else((v+AD j k v a)::(BA j k n (v+AD j k v a) (AD j k v a)).1,(BA j k n (v+AD j k v a) (AD j k v a)).2)
theorem Q3n (j k:Int):∀(n:Nat) (v a:Int),(BA j k n v a).2=true->BA j k (n+1) v a=BA j k n v a
 |0,v,a,h=>by
  have h:v<=0:=of_decide_eq_true h;unfold BA;rw[if_pos h];show([],true)=([],decide (v<=0));rw[decide_eq_true h]
 |n+1,v,a,h=>by
  unfold BA at h⊢;by_cases c:v<=0
  ·rw[if_pos c,if_pos c]
  ·rw[if_neg c]at h;rw[if_neg c,if_neg c,Q3n j k n _ _ h]
theorem EB {j k r v a:Int} (hp:Plan3 j k r) (hr:Ci j k v a): -65536<=a/\a<=65536/\0<=v/\v<=16777216:=by
 obtain⟨h1,h2,h3,h4,-⟩:=hr;have p1:=hp.a;have p2:=hp.b
 have q1:=Hl (k:=k) (b:=a) (by omega);have q2:=Hl (k:=k) (b:= -a) (by omega);omega
end Go.Bm
noncomputable section
namespace Go.Bm
theorem Qvv {a k c:Int} (hk:2<=k/\k<=65536) {d:Int} (hd:d<=1048576):G4 [I a,I k,I c,I d]=some [I (Bq k d)]:=by
  show QY _=_;rw[Qiu];by_cases h:d<=0
  · rw[Bu (decide_eq_true h),HR h]
  · rw[Bf (decide_eq_false h),Bf (decide_eq_false (by omega)),Bf (decide_eq_false (by omega))]
    obtain⟨p1,p2,p3,p4,p5,p6,p7⟩:=Qyc hk (show 0<d/\d<=1048576 by omega);rw[Ae (x:=d-1) (by omega),Int.tdiv_eq_ediv_of_nonneg (show 0<=d-1 by omega)];unfold Bq;rw[if_neg h];have hm:0<=k*((d-1)/k*((d-1)/k+1)/2):=Int.mul_nonneg (by omega) (by omega);have hm2:k*((d-1)/k*((d-1)/k+1)/2)<=65536*274878431232:=Int.mul_le_mul hk.2 (by omega) (by omega) (by omega);generalize hq:(d-1)/k=q at*;rw[Ae (x:=q) (by omega),Ae (x:=q*d) (by omega),Ae (x:=q+1) (by omega),Ae (x:=q*(q+1)) (by omega),Int.tdiv_eq_ediv_of_nonneg p6];generalize q*(q+1)=y at*;generalize q*d=z at*;rw[Ae (x:=y/2) (by omega),Ae (x:=k*(y/2)) (by omega),Ae (by omega)]
theorem Zb9 {M:Fn} {a k c:Int} (hp:Plan3 a k c) (hM:∀{d:Int},d<=1048576->M [I a,I k,I c,I d]=some [I (Bq k d)]) (v x:Int):Qr M [I a,I k,I c,I v,I x]=some [B (decide (Ci a k v x))]:=by
  have ha:=hp.a;have hk:=hp.b
  rw[YD,Ae (x:=0-a) (by omega)];refine eC (fun h=> ?_) fun h=> ?_
  · have h:x<0-a:=Br h
    rw[decide_eq_false (fun q=>by have:=q.1;omega)]
  have h: ¬x<0-a:=Bn h;refine eC (fun h2=> ?_) fun h2=> ?_
  · have h2:x>a:=Br h2
    rw[decide_eq_false (fun q=>by have:=q.2.1;omega)]
  have h2: ¬x>a:=Bn h2;have l1:=Q2m (b:= -x) hk (by omega);have l2:=Q2m (b:=x) hk (by omega);have l3:=Hl (k:=k) (b:=x) (by omega);have fin: ¬(v=0/\x>k)->((M [I a,I k,I c,I (wrap .i64 (0-x))]).bind fun o=>bif decide (v>=gA o 0)then(M [I a,I k,I c,I x]).bind fun o2=>some [B (decide (v<=wrap .i64 (16777216-gA o2 0)))]else some [B false])=some [B (decide (Ci a k v x))]:=fun hz=>by
    rw[Ae (x:=0-x) (by omega),show(0:Int)-x= -x by omega];refine eB (hM (by omega)) (eC (fun q=> ?_) fun q=> ?_)
    · have q:v>=Bq k (-x):=Br q
      refine eB (hM (by omega)) ?_;show some [B (decide (v<=wrap .i64 (16777216-Bq k x)))]=_;rw[Ae (by omega)];have e:(v<=16777216-Bq k x)↔Ci a k v x:=⟨fun e=>⟨by omega,by omega,q,e,fun z=>by omega⟩,fun e=>e.2.2.2.1⟩;rw[decide_eq_decide.2 e]
    · have q: ¬v>=Bq k (-x):=Bn q
      rw[decide_eq_false (fun w=>q w.2.2.1)]
  refine eC (fun h0=>eC (fun h1=> ?_) fun h1=> ?_) fun h0=> ?_
  · have h0:v=0:=eq_of_beq h0
    have h1:x>k:=Br h1;rw[decide_eq_false (fun q=>by have:=q.2.2.2.2 h0;omega)]
  · exact fin fun w=>Bn h1 w.2
  · exact fin fun w=>by rw[beT w.1]at h0;cases h0
theorem Zzs {a k c:Int} (hp:Plan3 a k c) (v x:Int):Gm [I a,I k,I c,I v,I x]=some [B (decide (Ci a k v x))]:=Zb9 hp (fun hd=>Qvv hp.b hd) v x
theorem Z1z {k v:Int}:∀(n:Nat) {low high:Int},¬low<high->bs k v n low high=low
  |0,_,_,_=>rfl
  |n+1,_,_,h=>by unfold bs;rw[if_neg h]
theorem Zfy {M MV:Fn} {a k c v:Int} (hM:∀{d:Int},d<=1048576->M [I a,I k,I c,I d]=some [I (Bq k d)]) (hv: -1099511627776<=v/\v<=1099511627776):∀(n:Nat) (low high:Int),high-low<2^n-> -262144<=low->high<=262144->low<=262144-> -262145<=high->
    Am (LL M MV) [I v,I low,I high,I a,I k,I c]=some (1,[I (bs k v n low high)]):=by
  have endd:∀(n:Nat) {low high:Int},¬low<high->Am (LL M MV) [I v,I low,I high,I a,I k,I c]=some (1,[I (bs k v n low high)]):=fun n low high h=>by
    rw[Z1z n h];refine Bb ?_ (by simp);rw[UL,Bf (decide_eq_false h)]
  intro n;induction n with
  | zero => intro low high h _ _ _ _; exact endd 0 (by have h : high - low < 1 := by simpa using h
                                                       omega)
  |succ n ih=>
    intro low high h h1 h2 h3 h4;have hp:(2:Int)^(n+1)=2*2^n:=by rw[Int.pow_succ];omega
    rw[hp]at h;by_cases cc:low<high
    · have e1:wrap .i64 (high-wrap .i64 ((wrap .i64 (high-low)).tdiv 2))=high-(high-low)/2:=by
        rw[Ae (x:=high-low) (by omega),Int.tdiv_eq_ediv_of_nonneg (show 0<=high-low by omega),Ae (x:=(high-low)/2) (by omega),Ae (by omega)]
      have e2:wrap .i64 (v-(high-(high-low)/2))=v-(high-(high-low)/2):=Ae (by omega);have e3:wrap .i64 (high-(high-low)/2-1)=high-(high-low)/2-1:=Ae (by omega);have hs:=UL M MV v low high a k c;rw[Bu (decide_eq_true cc),e1,e2,e3,hM (by omega)]at hs;unfold bs;rw[if_pos cc];by_cases q:Bq k (high-(high-low)/2)<=v-(high-(high-low)/2)
      · rw[if_pos q]
        rw[Bw (hs.trans (eB rfl (eT (decide_eq_true (show v-(high-(high-low)/2)>=Bq k (high-(high-low)/2)from q)) rfl)))];exact ih _ _ (by omega) (by omega) (by omega) (by omega) (by omega)
      · rw[if_neg q]
        rw[Bw (hs.trans (eB rfl (eF (decide_eq_false (show¬v-(high-(high-low)/2)>=Bq k (high-(high-low)/2)from q)) rfl)))];exact ih _ _ (by omega) (by omega) (by omega) (by omega) (by omega)
    · exact endd (n+1) cc
theorem Zyc {M MV:Fn} {a k c v x:Int} (hp:Plan3 a k c) (hr:Ci a k v x) (hM:∀{d:Int},d<=1048576->M [I a,I k,I c,I d]=some [I (Bq k d)]) (hV:MV [I a,I k,I c]=some [B true]):
    R8 M MV (Am (LL M MV)) [I a,I k,I c,I v,I x]=some [I (AD a k v x)]:=by
  have hrg:=EB hp hr;have ha:=hp.a;have hk:=hp.b
  rw[Qoy];have m1:mx x v=max x v:=by unfold mx;split<;>omega
  have m2:mn x v=min x v:=by unfold mn;split<;>omega
  rw[m1,m2];refine eB hV (eF rfl (eF (decide_eq_false (by omega)) (eF (decide_eq_false (by omega)) ?_)));have m3:mn (wrap .i64 (k-x)) a=min (k-x) a:=by rw[Ae (x:=k-x) (by omega)];unfold mn;split<;>omega
  rw[m3,Ae (x:=0-x) (by omega),Ae (x:=0-x-k) (by omega),show(0:Int)-x-k= -x-k by omega];refine eB (Zfy (MV:=MV) hM (by omega) 20 (-x-k) (min (k-x) a) (by simp;omega) (by omega) (by omega) (by omega) (by omega)) (eT rfl ?_);have hb:=Un k v 20 (-x-k) (min (k-x) a);show some [I (wrap .i64 (0-bs k v 20 (-x-k) (min (k-x) a)))]=_;unfold AD;rw[Ae (by omega),Int.zero_sub]
theorem Qxk {a k c:Int} (hp:Plan3 a k c):EV [I a,I k,I c]=some [B true]:=by
  rw[PO,decide_eq_true];exact⟨hp.a.1,hp.a.2,hp.b.1,hp.b.2,hp.c.1,hp.c.2⟩
theorem Q3i {a k c v x:Int} (hp:Plan3 a k c) (hr:Ci a k v x):Fp [I a,I k,I c,I v,I x]=some [I (AD a k v x)]:=
  Zyc hp hr (fun hd=>Qvv hp.b hd) (Qxk hp)
end Go.Bm
noncomputable section
namespace Go.Bm
def AH (a k v x:Int):List Int×Bool:=if Ci a k v x/\(BA a k 4096 v x).2=true then((BA a k 4096 v x).1,true)else([],false)
theorem Zdp {MB MR MV:Fn} {a k c:Int} (hp:Plan3 a k c) (hB:∀{v x:Int},Ci a k v x->MB [I a,I k,I c,I v,I x]=some [I (AD a k v x)]):∀(n:Nat) (pre:List Int) (v x:Int),pre.length+n=4096->Ci a k v x->
  Am (H2 MB MR MV) [.view Aa (pre.map Ao),I v,I x,I a,I k,I c]=if(BA a k n v x).2=true then some (2,[.view Aa ((pre++(BA a k n v x).1).map Ao)])else some (1,[B false]):=by
 have fin:∀(n:Nat) (pre:List Int) (v x:Int),v<=0->Am (H2 MB MR MV) [.view Aa (pre.map Ao),I v,I x,I a,I k,I c]=if(BA a k n v x).2=true then some (2,[.view Aa ((pre++(BA a k n v x).1).map Ao)])else some (1,[B false]):=fun n pre v x h=>by
  have e:BA a k n v x=([],true):=by
   cases n with
   |zero=>show([],decide (v<=0))=([],true);rw[decide_eq_true h]
   |succ n=>unfold BA;rw[if_pos h]
  rw[e,if_pos rfl];refine Bb ?_ (by simp);rw[PY,Bf (decide_eq_false (by omega)),List.append_nil]
 intro n;induction n with
 |zero=>
  intro pre v x hl hr;by_cases h:v<=0
  ·exact fin 0 pre v x h
  ·have e:BA a k 0 v x=([],false):=by show([],decide (v<=0))=([],false);rw[decide_eq_false h]
   rw[e,if_neg (by simp)];refine Bb ?_ (by simp);rw[PY,Bu (decide_eq_true (by omega)),Bu (beT (by rw[List.length_map];omega))]
 |succ n ih=>
  intro pre v x hl hr;by_cases h:v<=0
  ·exact fin (n+1) pre v x h
  ·have hc:=closed hp hr;have hrg:=EB hp hr;have hrg2:=EB hp hc.1;have hs:=PY MB MR MV (pre.map Ao) v x a k c;rw[Bu (decide_eq_true (by omega)),Bf (beF (by rw[List.length_map];omega)),hB hr]at hs;have hw:wrap .i64 (v+AD a k v x)=v+AD a k v x:=Ae (by omega);have hs2:H2 MB MR MV [.view Aa (pre.map Ao),I v,I x,I a,I k,I c]=some (0,[.view Aa ((pre++[v+AD a k v x]).map Ao),I (v+AD a k v x),I (AD a k v x),I a,I k,I c]):=by
    refine hs.trans (eB rfl ?_);show cond ((List.length (pre.map Ao++[[I (wrap .i64 (v+AD a k v x))]])*8).ble 140737488355328) (some (0,[AC.view Aa (pre.map Ao++[[I (wrap .i64 (v+AD a k v x))]]),I (wrap .i64 (v+AD a k v x)),I (AD a k v x),I a,I k,I c])) none=_;rw[hw,Cq (by simp;omega),List.map_append];rfl
   rw[Bw hs2,ih (pre++[v+AD a k v x]) _ _ (by simp;omega) hc.1];have e:BA a k (n+1) v x=((v+AD a k v x)::(BA a k n (v+AD a k v x) (AD a k v x)).1,(BA a k n (v+AD a k v x) (AD a k v x)).2):=by
    show(if v<=0 then _ else _)=_;rw[if_neg h]
   rw[e];simp only[List.append_assoc,List.cons_append,List.nil_append]
theorem Zhl {MB MR MV:Fn} {a k c:Int} (hp:Plan3 a k c) (hB:∀{v x:Int},Ci a k v x->MB [I a,I k,I c,I v,I x]=some [I (AD a k v x)]) (hV:MV [I a,I k,I c]=some [B true])
  (hR:∀v x,MR [I a,I k,I c,I v,I x]=some [B (decide (Ci a k v x))]) (v x:Int):
  Pa MB MR MV (Am (H2 MB MR MV)) [I a,I k,I c,I v,I x]=some [.view Aa ((AH a k v x).1.map Ao),B (AH a k v x).2]:=by
 rw[Qbv];refine eB hV (eF rfl (eB (hR v x) ?_));unfold AH;refine eC (fun h=> ?_) fun h=> ?_
 ·have h: ¬Ci a k v x:=by
   intro q;have h:(!decide (Ci a k v x))=true:=h;rw[decide_eq_true q]at h;cases h
  rw[if_neg (fun w=>h w.1)];rfl
 ·have h:Ci a k v x:=by
   have h:(!decide (Ci a k v x))=false:=h;by_cases q:Ci a k v x
   ·exact q
   ·rw[decide_eq_false q]at h;cases h
  have hl:=Zdp (MR:=MR) (MV:=MV) hp hB 4096 [] v x (by simp) h;by_cases q:(BA a k 4096 v x).2=true
  ·rw[if_pos q]at hl;rw[if_pos ⟨h,q⟩];exact eB hl rfl
  ·rw[if_neg q]at hl;rw[if_neg (fun w=>q w.2)];exact eB hl rfl
theorem Qo4 {a k c:Int} (hp:Plan3 a k c) (v x:Int):Kl [I a,I k,I c,I v,I x]=some [.view Aa ((AH a k v x).1.map Ao),B (AH a k v x).2]:=
 Zhl hp (fun hr=>Q3i hp hr) (Qxk hp) (Zzs hp) v x
def BB (u:Int):List Int->List Int
 |[]=>[]
 |v::l=>(u+v)::BB (u+v) l
def B_ (u:Int):List Int->Int
 |[]=>u
 |v::l=>B_ (u+v) l
theorem Q2p (v:Int):∀(u:Int) (l:List Int),BB u (l++[v])=BB u l++[B_ u l+v]
 |_,[]=>rfl
 |u,w::l=>by simp only[List.cons_append,BB,B_,Q2p v (u+w) l]
theorem Qq3 (v:Int):∀(u:Int) (l:List Int),B_ u (l++[v])=B_ u l+v
 |_,[]=>rfl
 |u,w::l=>by simp only[List.cons_append,B_,Qq3 v (u+w) l]
theorem Jz:∀(u:Int) (l:List Int),(BB u l).length=l.length
 |_,[]=>rfl
 |u,w::l=>by simp[BB,Jz (u+w) l]
theorem U3:∀(u:Int) (l:List Int),l≠[]->(BB u l)[(BB u l).length-1]? =some (B_ u l)
 |u,[v],_=>rfl
 |u,v::w::l,_=>by
  have h:=U3 (u+v) (w::l) (by simp);rw[Jz]at h⊢;simpa [BB,B_]using h
theorem Qka {N:Int}:∀(u:Int) (l:List Int),(∀v∈l,0<=v/\v<=N)->u<=B_ u l/\B_ u l<=u+l.length*N
 |u,[],_=>by simp[B_]
 |u,v::l,h=>by
  have h1:=h v (by simp);have h2:=Qka (N:=N) (u+v) l fun w hw=>h w (by simp[hw]);simp only[B_,List.length_cons];have e:((l.length+1:Nat):Int)*N=l.length*N+N:=by
   rw[Int.natCast_add,Int.add_mul];simp
  rw[e];omega
theorem Q3m {a k c:Int} (hp:Plan3 a k c):∀(n:Nat) (v x:Int),Ci a k v x->(BA a k n v x).1.length<=n/\∀w∈(BA a k n v x).1,0<=w/\w<=16777216
 |0,v,x,_=>⟨by simp[BA],fun w h=>by simp[BA]at h⟩
 |n+1,v,x,h=>by
  have hc:=closed hp h;have h2:=EB hp hc.1;have ih:=Q3m hp n _ _ hc.1;unfold BA;by_cases q:v<=0
  ·rw[if_pos q];exact⟨by simp,fun w h=>by cases h⟩
  ·rw[if_neg q];refine⟨by simp only[List.length_cons];omega,fun w hw=> ?_⟩;rcases List.mem_cons.1 hw with rfl|hw
   ·omega
   ·exact ih.2 w hw
theorem O2 {a k c:Int} (hp:Plan3 a k c) (v x:Int):(AH a k v x).1.length<=4096/\∀w∈(AH a k v x).1,0<=w/\w<=16777216:=by
 unfold AH;split
 ·rename_i h;exact Q3m hp 4096 v x h.1
 ·exact⟨by simp,fun w h=>by cases h⟩
theorem Q7r {α:Type} (l:List α) (x y:α) (r:List α):(l++x::r).set l.length y=l++y::r:=by
 rw[List.set_append_right _ _ (Nat.le_refl _)];simp
theorem Zcq {M:Fn} {sp:List Int} {u:Int} (hu: -1000000000000000<=u/\u<=1000000000000000) (hl:sp.length<=4096) (hsp:∀v∈sp,0<=v/\v<=16777216):
  Am (Hm M) [.view Aa (List.replicate sp.length [I 0]),I u, .view Aa (sp.map Ao),I sp.length,I 0]=some (1,[.view Aa ((BB u sp).map Ao)]):=by
 have key:Out (fun o=>o=(1,[.view Aa ((BB u sp).map Ao)])) (Am (Hm M) [.view Aa ((BB u (sp.take 0)).map Ao++List.replicate (sp.length-0) [I 0]),I (B_ u (sp.take 0)), .view Aa (sp.map Ao),I sp.length,I ((0:Nat):Int)]):=by
  refine CT (fun i:Nat=>[.view Aa ((BB u (sp.take i)).map Ao++List.replicate (sp.length-i) [I 0]),I (B_ u (sp.take i)), .view Aa (sp.map Ao),I sp.length,I (i:Int)]) (fun i=>i<=sp.length) (fun i=>sp.length-i) _ ?_ 0 (by simp);intro i hi;rw[Qfn];refine .cond (fun c=> ?_) fun c=> ?_
  ·have c:(i:Int)<(sp.length:Int):=Br c;have hi:i<sp.length:=by omega
   refine .cond (fun _=> ?_) fun e=>(inB (by omega) (by rw[List.length_map];exact c) e).elim;refine .cond (fun _=> ?_) fun e=>(inB (by omega) (by simp[Jz];omega) e).elim;have er:nth [] (sp.map Ao) (i:Int).toNat=Ao sp[i]:=by
    rw[Int.toNat_natCast,G3 [] _ i (by rw[List.length_map];exact hi),List.getElem_map]
   have eb:=Qka (N:=16777216) u (sp.take i) fun v hv=>hsp v (List.mem_of_mem_take hv);rw[List.length_take_of_le (by omega)]at eb;have hv:=hsp _ (List.getElem_mem hi);have et:sp.take (i+1)=sp.take i++[sp[i]]:=by
    rw[List.take_add_one,List.getElem?_eq_getElem hi];rfl
   rw[er];show Out _ (some (0,[AC.view Aa (((BB u (sp.take i)).map Ao++List.replicate (sp.length-i) [I 0]).set (i:Int).toNat [I (wrap .i64 (B_ u (sp.take i)+sp[i]))]),I (wrap .i64 (B_ u (sp.take i)+sp[i])), .view Aa (sp.map Ao),I sp.length,I (wrap .i64 ((i:Int)+1))]));rw[Ae (x:=B_ u (sp.take i)+sp[i]) (by omega),Ae (x:=(i:Int)+1) (by omega),Int.toNat_natCast];refine .some (.inl ⟨rfl,i+1,?_,by omega,by omega⟩);have el:((BB u (sp.take i)).map Ao).length=i:=by rw[List.length_map,Jz,List.length_take_of_le (by omega)]
   have es:sp.length-i=(sp.length-(i+1))+1:=by omega
   rw[et,Q2p,Qq3,es,List.replicate_succ,List.map_append];have:=Q7r ((BB u (sp.take i)).map Ao) [I 0] [I (B_ u (sp.take i)+sp[i])] (List.replicate (sp.length-(i+1)) [I 0]);rw[el]at this;rw[this];simp;rfl
  ·have c: ¬(i:Int)<(sp.length:Int):=Bn c;refine .some (.inr ⟨by simp,?_⟩);rw[List.take_of_length_le (by omega),show sp.length-i=0 by omega];simp
 obtain⟨o,h1,rfl⟩:=key;exact h1
theorem Q9f {M:Fn} {a k c v x:Int} (hS:M [I a,I k,I c,I v,I x]=some [.view Aa ((AH a k v x).1.map Ao),B (AH a k v x).2]) (hb:(AH a k v x).1.length<=4096/\∀w∈(AH a k v x).1,0<=w/\w<=16777216)
  {u:Int} (hu: -1000000000000000<=u/\u<=1000000000000000) (x6 x7 x8:Int) (hz:(AH a k v x).2=false->(AH a k v x).1=[]):
  Om M (Am (Hm M)) [I a,I k,I c,I u,I v,I x,I x6,I x7,I x8]=some [.view Aa ((BB u (AH a k v x).1).map Ao),B (AH a k v x).2]:=by
 rw[Tw];generalize AH a k v x=z at*;refine eB hS (eC (fun h=> ?_) fun h=> ?_)
 ·have h:z.2=false:=by simpa [bA,nth,CM]using h
  rw[h,hz h];rfl
 ·have h:z.2=true:=by simpa [bA,nth,CM]using h
  refine eT (decide_eq_true rfl) (eT ?_ ?_)
  ·show(decide (0<=((z.1.map Ao).length:Int))&&decide (((z.1.map Ao).length:Int)*8<=140737488355328))=true;rw[List.length_map,decide_eq_true (show(0:Int)<=(z.1.length:Int) by omega),decide_eq_true (show(z.1.length:Int)*8<=140737488355328 by omega)];rfl
  ·have hl:=Zcq (M:=M) hu hb.1 hb.2;refine Eq.trans (congrArg (fun q=>Option.bind q _) (show Am (Hm M) [.view Aa (List.replicate ((z.1.map Ao).length:Int).toNat [I 0]),I u, .view Aa (z.1.map Ao),I (z.1.map Ao).length,I 0]=some (1,[.view Aa ((BB u z.1).map Ao)])from by rw[List.length_map,Int.toNat_natCast];exact hl)) ?_;rw[h];rfl
theorem Qvt {a k c:Int} (hp:Plan3 a k c) {u:Int} (hu: -1000000000000000<=u/\u<=1000000000000000) (v x x6 x7 x8:Int):
  EE [I a,I k,I c,I u,I v,I x,I x6,I x7,I x8]=some [.view Aa ((BB u (AH a k v x).1).map Ao),B (AH a k v x).2]:=
 Q9f (Qo4 hp v x) (O2 hp v x) hu x6 x7 x8 fun h=>by
  unfold AH at h⊢;split at h
  ·cases h
  ·rename_i q;rw[if_neg q]
end Go.Bm
noncomputable section
namespace Go.Bm
def Jk (j:Int) (l:Rw):Prop:=∀r∈l,-j<=gA r 0/\gA r 0<=j
theorem Jk.snoc {j:Int} {l:Rw} {r:List AC} (h:Jk j l) (hr: -j<=gA r 0/\gA r 0<=j):Jk j (l++[r]):=fun x hx=>by
 rcases List.mem_append.1 hx with hx|hx
 ·exact h x hx
 ·rw[List.mem_singleton]at hx;subst hx;exact hr
theorem Zbh {j:Int} (hj:0<=j/\j<=65536):Out (fun o=>o.1=1/\(wA o.2 0).length<=65536/\Jk j (wA o.2 0)) (Am Qg [.view Aa [],I j]):=by
 refine CT (fun s:Rw×Int=>[.view Aa s.1,I s.2]) (fun s=>0<=s.2/\s.2<=j/\s.1.length+s.2<=65536/\Jk j s.1) (fun s=>s.2.toNat) _ ?_ ([],j) ⟨hj.1,Int.le_refl _,by simp;omega,fun r h=>by cases h⟩;rintro⟨v,k⟩ ⟨g1,g0,g2,g3⟩;dsimp only at g0 g1 g2 g3;rw[Zey,Int.tdiv_eq_ediv_of_nonneg g1,Ae (x:=k/2) (by omega)];refine .cond (fun c=> ?_) (fun c=> ?_)
 ·have c:=Br c;refine .cond (fun _=> ?_) fun c=>by rw[Cq (by simp;omega)]at c;cases c
  exact .some (.inl ⟨rfl,(v++[[I k]],k/2),rfl,⟨by dsimp only;omega,by dsimp only;omega,by simp;omega,g3.snoc (by show-j<=k/\k<=j;omega)⟩,by dsimp only;omega⟩)
 ·exact .some (.inr ⟨by simp,rfl,by show v.length<=65536;omega,g3⟩)
theorem Zs8 {j:Int} {N:Lp} {up out:Rw} (hj:0<=j/\j<=65536) (h1:up.length<=65536) (hu:Jk j up) (h2:out.length=up.length+1) (ho:Jk j out):Out (fun o=>o.1=1/\(wA o.2 0).length<=140000/\Jk j (wA o.2 0)) (Am (Rn N) [.view Aa up, .view Aa out,I ((up.length:Int)-1)]):=by
 refine CT (fun s:Rw×Int=>[.view Aa up, .view Aa s.1,I s.2]) (fun s=> -1<=s.2/\s.2<up.length/\s.1.length+s.2<=2*up.length/\Jk j s.1) (fun s=>(s.2+1).toNat) _ ?_ (out,(up.length:Int)-1) ⟨by simp only;omega,by simp only;omega,by simp only;omega,ho⟩;rintro⟨v,k⟩ ⟨g1,g2,g3,g4⟩;dsimp only at g1 g2 g3 g4;rw[Zep,Ae (x:=k-1) (by omega)];refine .cond (fun c=> ?_) (fun c=> ?_)
 ·have c:=Br c;refine .cond (fun _=> ?_) fun c=>by simp at c;omega
  refine .cond (fun _=> ?_) fun c=>by rw[Cq (by simp;omega)]at c;cases c
  have hk: -j<=gA (nth [] up k.toNat) 0/\gA (nth [] up k.toNat) 0<=j:=by
   rw[G3 [] up k.toNat (by omega)];exact hu _ (List.getElem_mem _)
  exact .some (.inl ⟨rfl,(_,k-1),rfl,⟨by dsimp only;omega,by dsimp only;omega,by simp;omega,g4.snoc (by show-j<=wrap .i64 (0-gA (nth [] up k.toNat) 0)/\wrap .i64 (0-gA (nth [] up k.toNat) 0)<=j;rw[Ae (by omega)];omega)⟩,by dsimp only;omega⟩)
 ·have c:=Bn c;exact .some (.inr ⟨by simp,rfl,by show v.length<=140000;omega,g4⟩)
theorem Yo {j:Int} (hj:0<=j/\j<=65536):Out (fun o=>(wA o 0).length<=140000/\Jk j (wA o 0)) (Oa [I j]):=by
 show Out _ (Wk (Am Qg) (Am (Rn (Am Qg))) [I j]);rw[Zyy];refine .bind (Zbh hj) fun o g=> ?_;rw[g.1];obtain⟨-,g2,g3⟩:=g;generalize wA o.2 0=up at*;refine .cond (fun _=> ?_) fun c=>by simp at c
 refine .cond (fun _=> ?_) fun c=>by rw[Cq (by simp;omega)]at c;cases c
 refine .cond (fun _=> ?_) fun c=>by rw[Cq (by simp;omega)]at c;cases c
 rw[Ae (x:=(up.length:Int)-1) (by omega)];refine .bind (Zs8 hj g2 g3 (by simp) (by rw[List.nil_append];exact g3.snoc (by show-j<=0/\0<=j;omega))) fun o g=> ?_;rw[g.1];exact .some g.2
def LX (m0 m1 m3 m4:Int) (Q R:Int->Prop) (o:List AC):Prop:=∃v:Int,o=Eh m0 m1 m3 m4 v/\(Q v\/∃r:Int,v=wrap .i64 (m1+r)/\R r)
theorem Qfp {MB MS MF MM MR MC:Fn} {p:Pth} {x:Ax3} {t:Trk} {a b c o0 o1:Int} {b0 b1 b2:Bool} (hb:0<=b/\b<=65536) {m0 m1 m2 m3 m4 m5 l:Int} {Q R F:Int->Prop}
  (hB:Out (fun o=>∃r:Int,o=[I r]/\R r) (MB [I a,I b,I c,I m1,I m2]))
  (hS:∀v:Int,0<=v->F v->(∃k:Int,-b<=k/\k<=b/\v=wrap .i64 (m1+wrap .i64 (m2+k)))->Out (fun o=>bA o 0=true->Q v) (MS (pxt p x t [I a,I b,I c,I (wrap .i64 (m0+v)),I v,I (wrap .i64 (v-m1)),I m0,I m3,I m4,I l])))
  (hF:∀v:Int,Out (fun o=>bA o 0=true->F v) (MF (Dg p t [I a,I b,I c,I o0,I o1,B b0,B b1,B b2,I (wrap .i64 (m0+v)),I v,I (wrap .i64 (v-m1)),I m0,I m3,I m4])))
  (hM:∀m0 m1 m2 m3 m4 m5 v,MM [I m0,I m1,I m2,I m3,I m4,I m5,I v]=some (Eh m0 m1 m3 m4 v))
  (hR:∀a b c v x,(MR [I a,I b,I c,I v,I x]).isSome=true)
  (hC:∀j,0<=j/\j<=65536->Out (fun o=>(wA o 0).length<=140000/\Jk j (wA o 0)) (MC [I j])):
  Out (LX m0 m1 m3 m4 Q R) (WA MB MS MF MM MR MC (Am (WJ MB MS MF MM MR MC)) (pxt p x t [I a,I b,I c,I o0,I o1,B b0,B b1,B b2,I m0,I m1,I m2,I m3,I m4,I m5,I l])):=by
 rw[Zx0];refine .bind (hC b hb) fun q h1=> ?_;obtain⟨h1,hJ⟩:=h1;generalize wA q 0=ch at*;refine .bind (p:=fun o=>o.1=1/\((∃v:Int,∃g0 g1 g2 g3 g4 g5:Int,o.2=B true::I a::I b::I c::I m0::I m1::I m2::I m3::I m4::I m5::I g0::I g1::I g2::I g3::I g4::I g5::Eh m0 m1 m3 m4 v/\Q v)\/∃l:List AC,o.2=B false::I a::I b::I c::I m0::I m1::I m2::I m3::I m4::I m5::l)) ?_ fun o g=>by
  obtain⟨g,g2⟩:=g;rw[g];refine .cond (fun _=> ?_) fun c=>by simp at c
  rcases g2 with⟨v,g0,g1,g2,g3,g4,g5,e,hs⟩|⟨l',e⟩
  ·rw[e];refine .cond (fun _=> .some ⟨v,rfl, .inl hs⟩) fun c=>by simp[gA,wA,bA,jA,nth,CM]at c
  ·rw[e];refine .cond (fun c=>by simp[gA,wA,bA,jA,nth,CM]at c) fun _=> ?_;simp only[gA,wA,bA,jA,nth,Af];refine .bind hB fun o g=> ?_;obtain⟨r,rfl,hr⟩:=g;simp only[gA,wA,bA,jA,nth,Af];rw[hM];exact .some ⟨_,rfl, .inr ⟨r,rfl,hr⟩⟩
 refine CT (fun s:Nat×(Int×Int×Int×Int×Int×Int)=>I l::B false:: .view Aa ch::I (ch.length:Int)::I (s.1:Int)::pxt p x t [I a,I b,I c,I o0,I o1,B b0,B b1,B b2,I m0,I m1,I m2,I m3,I m4,I m5,I 0,I 0,I 0,I 0,I 0,I 0,I s.2.1,I s.2.2.1,I s.2.2.2.1,I s.2.2.2.2.1,I s.2.2.2.2.2.1,I s.2.2.2.2.2.2])
  (fun s=>s.1<=ch.length) (fun s=>ch.length-s.1) _ ?_ (0,(0,0,0,0,0,0)) (by simp)
 rintro⟨i,f0,f1,f2,f3,f4,f5⟩ g;dsimp only at g;rw[Zmz];rw[Ae (x:=(i:Int)+1) (by omega)];refine .cond (fun c=> ?_) (fun c=> ?_)
 ·have c:=Br c;refine .cond (fun _=> ?_) fun c=>by simp at c;omega
  refine .cond (fun _=> ?_) fun pos=> ?_
  ·exact .some (.inl ⟨rfl,(i+1,f0,f1,f2,f3,f4,f5),rfl,by dsimp only;omega,by dsimp only;omega⟩)
  ·have pos:=Bn pos;refine .ibind (hR _ _ _ _ _) fun _ _=> .cond (fun _=> ?_) fun _=> ?_
   ·exact .some (.inl ⟨rfl,(i+1,f0,f1,f2,f3,f4,f5),rfl,by dsimp only;omega,by dsimp only;omega⟩)
   ·have hk:∃k:Int,-b<=k/\k<=b/\wrap .i64 (m1+wrap .i64 (m2+gA (nth [] ch (i:Int).toNat) 0))=wrap .i64 (m1+wrap .i64 (m2+k)):=by
     have:=hJ _ (List.getElem_mem (show i<ch.length by omega));rw[Int.toNat_natCast,G3 [] ch i (by omega)];exact⟨_,this.1,this.2,rfl⟩
    generalize wrap .i64 (m1+wrap .i64 (m2+gA (nth [] ch (i:Int).toNat) 0))=v at*;rw[hM];simp only[Option.bind_some,gA,wA,bA,jA,nth,Af];refine .bind (hF v) fun of fit=> .cond (fun cf=> ?_) fun _=> ?_
    ·refine .bind (hS v (by omega) (fit cf) hk) fun o hs=> .cond (fun c=> ?_) fun _=> ?_
     ·exact .some (.inr ⟨by simp,rfl, .inl ⟨v,0,0,0,0,0,0,rfl,hs c⟩⟩)
     ·exact .some (.inl ⟨rfl,(i+1,_,_,_,_,_,_),rfl,by dsimp only;omega,by dsimp only;omega⟩)
    ·exact .some (.inl ⟨rfl,(i+1,_,_,_,_,_,_),rfl,by dsimp only;omega,by dsimp only;omega⟩)
 ·exact .some (.inr ⟨by simp,rfl, .inr ⟨_,rfl⟩⟩)
theorem Zfr {MS MF:Fn} {p:Pth} {x:Ax3} {t:Trk} {Q:Prop} (hS:∀{way:Rw},way.length<=100000->(MS (pxt p x t [.view Aa way])).isSome=true)
  {a b c m0 m1 m2 m3 m4 m5 l:Int} (hF:Out (fun o=>(wA o 0).length<=4096/\(bA o 1=true->Q)) (MF [I a,I b,I c,I m0,I m1,I m2,I m3,I m4,I m5])):
  Out (fun o=>bA o 0=true->Q) (Ra MS MF (pxt p x t [I a,I b,I c,I m0,I m1,I m2,I m3,I m4,I m5,I l])):=by
 rw[Q5g];refine .bind hF fun o h=> ?_;obtain⟨h2,hs⟩:=h;generalize wA o 0=sp at*;refine .cond (fun _=> .some fun h=>by simp[gA,wA,bA,jA,nth,CM]at h) fun c1=> ?_;have hs:=hs (by simpa using c1);refine .cond (fun c=> ?_) fun c=> ?_
 ·have c:=Br c;rw[Ae (x:=(sp.length:Int)-1) (by omega)];refine .cond (fun _=> ?_) fun c=>by simp at c;omega
  generalize Af (nth .dead (nth [] sp ((sp.length:Int)-1).toNat) 0)=e;refine .cond (fun _=> .some fun _=>hs) fun _=> ?_;refine .cond (fun _=> ?_) fun c=>by rw[Cq (by simp;omega)]at c;cases c
  refine .cond (fun _=> ?_) fun c=>by rw[Cq (by simp;omega)]at c;cases c
  exact .ibind (hS (by simp;omega)) fun _ _=> .some fun _=>hs
 ·refine .cond (fun _=> .some fun _=>hs) fun _=> ?_;refine .cond (fun _=> ?_) fun c=>by rw[Cq (by simp;omega)]at c;cases c
  refine .cond (fun _=> ?_) fun c=>by rw[Cq (by simp;omega)]at c;cases c
  exact .ibind (hS (by simp;omega)) fun _ _=> .some fun _=>hs
theorem Zg4 {a k c:Int} (hp:Plan3 a k c) (u v x x6 x7 x8:Int):Out (fun o=>(wA o 0).length<=4096/\(bA o 1=true->(AH a k v x).2=true)) (EE [I a,I k,I c,I u,I v,I x,I x6,I x7,I x8]):=by
 have key:∀{M:Fn},M [I a,I k,I c,I v,I x]=some [.view Aa ((AH a k v x).1.map Ao),B (AH a k v x).2]->Out (fun o=>(wA o 0).length<=4096/\(bA o 1=true->(AH a k v x).2=true)) (Om M (Am (Hm M)) [I a,I k,I c,I u,I v,I x,I x6,I x7,I x8]):=by
  intro M hM;have hb:=O2 hp v x;rw[Tw];refine .bind (p:=fun o=>o=_) ⟨_,hM,rfl⟩ fun o e=> ?_;subst e;refine .cond (fun _=> .some ⟨by simp[wA,nth,BR],fun h=>by simp[bA,nth,CM]at h⟩) fun h=> ?_;have hz:(AH a k v x).2=true:=by simpa [bA,nth,CM]using h
  have hl:(wA [AC.view Aa ((AH a k v x).1.map Ao),B (AH a k v x).2] 0).length<=4096:=by
   show((AH a k v x).1.map Ao).length<=4096;rw[List.length_map];exact hb.1
  generalize wA [AC.view Aa ((AH a k v x).1.map Ao),B (AH a k v x).2] 0=sp at*;refine .cond (fun _=> ?_) fun c=>by simp at c
  refine .cond (fun _=> ?_) fun c=>by simp at c;omega
  refine .bind (Q0l (by simp) hl) fun o g=> ?_;rw[g.1];exact .some ⟨by show(wA o.2 0).length<=4096;omega,fun _=>hz⟩
 exact key (Qo4 hp v x)
theorem SS {p:Pth} {x:Ax3} {t:Trk} (h:Fix p x t) {a b c:Int} (hp:Plan3 a b c) (m0 m1 m2 m3 m4 m5 l:Int):Out (fun o=>bA o 0=true->(AH a b m1 m2).2=true) (HP (pxt p x t [I a,I b,I c,I m0,I m1,I m2,I m3,I m4,I m5,I l])):=
 Zfr (Q6v h) (Zg4 hp _ _ _ _ _ _)
theorem F_ {a k v x:Int}:(AH a k v x).2=true↔Ci a k v x/\(BA a k 4096 v x).2=true:=by
 unfold AH;by_cases h:Ci a k v x/\(BA a k 4096 v x).2=true
 ·rw[if_pos h];exact⟨fun _=>h,fun _=>rfl⟩
 ·rw[if_neg h];exact⟨fun q=>(by cases q),fun q=>absurd q h⟩
theorem TW {a k c v x:Int} (hp:Plan3 a k c) (h:(AH a k v x).2=true):(AH a k (v+AD a k v x) (AD a k v x)).2=true/\
  (AH a k v x).1=if v<=0 then []else(v+AD a k v x)::(AH a k (v+AD a k v x) (AD a k v x)).1:=by
 obtain⟨hr,hs⟩:=F_.1 h;have hc:=closed hp hr;have hrg:=EB hp hc.1;by_cases c0:v<=0
 ·have hv:v=0:=by have:=EB hp hr;omega
  have hb:AD a k v x=0:=by
   obtain⟨B,hB⟩:∃B,B=bs k v 20 (-x-k) (min (k-x) a):=⟨_,rfl⟩;obtain⟨q1,q2,q3,q4,q5,q6⟩:=Qy hp hr hB;have:=Hl (k:=k) (b:=B) (by have:=hp.b;omega);have hx:=hr.2.2.2.2 hv;have ha:=hp.a;have e:AD a k v x= -B:=by unfold AD;rw[hB]
   rw[e];rcases q5 with q5|q5
   ·omega
   ·by_cases hn:B+1<=0
    ·rw[HR hn]at q5;omega
    ·omega
  have e0:BA a k 4096 0 0=([],true):=by unfold BA;rw[if_pos (by omega)]
  refine⟨?_,?_⟩
  ·rw[hb,hv];refine F_.2 ⟨?_,by rw[show(0:Int)+0=0 from rfl,e0]⟩;have:=hc.1;rw[hb,hv]at this;exact this
  ·rw[if_pos c0];unfold AH;rw[if_pos ⟨hr,hs⟩];unfold BA;rw[if_pos c0]
 ·have e:BA a k 4096 v x=((v+AD a k v x)::(BA a k 4095 (v+AD a k v x) (AD a k v x)).1,(BA a k 4095 (v+AD a k v x) (AD a k v x)).2):=by
   show(if v<=0 then _ else _)=_;rw[if_neg c0]
  rw[e]at hs;have hm:=Q3n a k 4095 _ _ hs;have hn:(AH a k (v+AD a k v x) (AD a k v x)).2=true:=F_.2 ⟨hc.1,by rw[hm];exact hs⟩;refine⟨hn,?_⟩;rw[if_neg c0];have e2:(AH a k v x).1=(BA a k 4096 v x).1:=by unfold AH;rw[if_pos (F_.1 h)]
  have e3:(AH a k (v+AD a k v x) (AD a k v x)).1=(BA a k 4096 (v+AD a k v x) (AD a k v x)).1:=by unfold AH;rw[if_pos (F_.1 hn)]
  rw[e2,e3,hm,e]
end Go.Bm
