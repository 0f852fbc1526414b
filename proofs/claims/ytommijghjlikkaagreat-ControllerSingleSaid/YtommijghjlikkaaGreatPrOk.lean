/- laid together -/
import Derived.Test.YtommijghjlikkaaGreatPrLg
import Derived.Test.YtommijghjlikkaaGreatPrLb
import Derived.Test.YtommijghjlikkaaGreatPrTc
import Derived.Test.YtommijghjlikkaaGreatPrPe
import Derived.Test.YtommijghjlikkaaGreatMx3
import Derived.Test.YtommijghjlikkaaGreatMy1
set_option linter.unusedVariables false
set_option linter.unusedSimpArgs false
set_option maxRecDepth 100000
noncomputable section
open Go.IntKind (wrap)
namespace Go.Bm
theorem Zg3 {MS MF:Fn} {p:Pth} {x:Ax3} {t:Trk} (hS:∀{way:Rw},way.length<=100000->(MS (pxt p x t [.view Aa way])).isSome=true)
  {a b c m0 m1 m2 m3 m4 m5 l:Int} {L:List Int} (hL:L.length<=4096) (hF:MF [I a,I b,I c,I m0,I m1,I m2,I m3,I m4,I m5]=some [.view Aa ((Bw m0 L).map Ap),B true]):
  Out (fun o=>bA o 0=true->B6 m0 L<=wrap .i64 (l*256)) (QN MS MF (pxt p x t [I a,I b,I c,I m0,I m1,I m2,I m3,I m4,I m5,I l])):=by
 rw[Q6r];refine .bind (p:=fun o=>o=_) ⟨_,hF,rfl⟩ fun o e=> ?_;subst e;have no:∀{X:List AC},X=[B false]->bA X 0=true->B6 m0 L<=wrap .i64 (l*256):=fun e h=>by subst e;simp[bA,nth,C5]at h
 have ew:wA [AC.view Aa ((Bw m0 L).map Ap),B true] 0=(Bw m0 L).map Ap:=rfl;rw[ew];have el:((Bw m0 L).map Ap).length=L.length:=by rw[List.length_map,Kk]
 have ee:0<L.length->Af (nth .dead (nth [] ((Bw m0 L).map Ap) ((((Bw m0 L).map Ap).length:Int)-1).toNat) 0)=B6 m0 L:=fun hp=>by
  rw[el];have hl:=YM m0 L (by intro q;rw[q]at hp;simp at hp);rw[Kk]at hl;have en:((L.length:Int)-1).toNat=L.length-1:=by omega
  have er:nth [] ((Bw m0 L).map Ap) (L.length-1)=Ap (B6 m0 L):=by
   rw[BG,List.getD,List.getElem?_map,hl];rfl
  rw[en,er];rfl
 have e0:L.length=0->B6 m0 L=m0:=fun h=>by rw[List.length_eq_zero_iff.1 h];rfl
 generalize(Bw m0 L).map Ap=sp at*;refine .cond (fun _=> .some (no rfl)) fun _=> ?_;refine .cond (fun c=> ?_) fun c=> ?_
 ·have c:=Bg c;rw[Ae (x:=(sp.length:Int)-1) (by omega)];refine .cond (fun _=> ?_) fun c=>by simp at c;omega
  rw[ee (by omega)];refine .cond (fun _=> .some (no rfl)) fun c2=> ?_;have c2:=Bj c2;refine .cond (fun _=> ?_) fun c=>by rw[Cw (by simp;omega)]at c;cases c
  refine .cond (fun _=> ?_) fun c=>by rw[Cw (by simp;omega)]at c;cases c
  exact .ibind (hS (by simp;omega)) fun _ _=> .some fun _=>by omega
 ·have c:=Bj c;have e1:=e0 (by omega);refine .cond (fun _=> .some (no rfl)) fun c2=> ?_;have c2:=Bj c2;refine .cond (fun _=> ?_) fun c=>by rw[Cw (by simp;omega)]at c;cases c
  refine .cond (fun _=> ?_) fun c=>by rw[Cw (by simp;omega)]at c;cases c
  exact .ibind (hS (by simp;omega)) fun _ _=> .some fun _=>by omega
def Tt (pa pb m0 v x l:Int):Prop:=(AG pa pb v x).2=true/\B6 m0 (AG pa pb v x).1<=wrap .i64 (l*256)
theorem Qzr {p:Pth} {x:Ax3} {t:Trk} (h:Fix p x t) {a b c:Int} (hp:Plan3 a b c) {m0:Int} (v z m3 m4 m5 l:Int) (hm:(AG a b v z).2=true-> -1000000000000000<=m0/\m0<=1000000000000000):
  Out (fun o=>bA o 0=true->Tt a b m0 v z l) (HZ (pxt p x t [I a,I b,I c,I m0,I v,I z,I m3,I m4,I m5,I l])):=by
 by_cases hz:(AG a b v z).2=true
 ·have hF:=Qsx hp (hm hz) v z m3 m4 m5;rw[hz]at hF;have:=Zg3 (MS:=Ov) (MF:=EE) (l:=l) (Qtf h) (P8 hp v z).1 hF;exact this.mono fun o ho hb=>⟨hz,ho hb⟩
 ·exact(Ql2 h hp m0 v z m3 m4 m5 l).mono fun o ho hb=>absurd (ho hb) hz
theorem Qwd {K:Kf} (h:KOK K) {c:Cv} (hz:Mo K c) (hm: -300000000000<=c.m0/\c.m0<=300000000000) (l:Int) (b0:Bool):Out (Qe c.m0 c.m1 c.m3 c.m4 (fun v=>Tt K.pa K.pb (wrap .i64 (c.m0+v)) v (wrap .i64 (v-c.m1)) l) fun r=>r=AD K.pa K.pb c.m1 c.m2)
  (EV (pxt K.p K.x K.t [I K.pa,I K.pb,I K.pc,I c.o0,I c.o1,B b0,B c.o3,B c.o4,I c.m0,I c.m1,I c.m2,I c.m3,I c.m4,I c.m5,I l])):=
 Qsr (F := fun _ => True) (by have := h.plan.b; omega) (TI h.plan hz) (fun v _ _ _ => Qzr h.f h.plan _ _ _ _ _ _ fun hs => by
  have:=E3 h.plan (Gh.1 hs).1;rw[Ae (by omega)];omega) (fun v=>Qoa h.f ..) Rs Qad (fun _ hj=>Qp9 hj)
theorem Q8j {K:Kf} (h:KOK K) {c:Cv} (hz:Mo K c) (hm: -300000000000<=c.m0/\c.m0<=300000000000) (l:Int) {lead:Int} (hl:i64 lead):Out (PP c.m0 c.m1 c.m3 c.m4 (fun v=>Tt K.pa K.pb (wrap .i64 (c.m0+v)) v (wrap .i64 (v-c.m1)) l) fun r=>r=AD K.pa K.pb c.m1 c.m2)
  (HX (pxt K.p K.x K.t [I K.pa,I K.pb,I K.pc,I c.o0,I c.o1,B c.o2,B c.o3,B c.o4,I c.m0,I c.m1,I c.m2,I c.m3,I c.m4,I c.m5,I l,I lead,I c.e0,I c.e1,I c.e2,I c.e3,I c.before,I c.s3])):=
 Qpd (Qwd h hz hm l false) (TI h.plan hz) Qw1 (fun v => Qzr h.f h.plan _ _ _ _ _ _ fun hs => by
  have:=E3 h.plan (Gh.1 hs).1;rw[Ae (by omega)];omega) Rs (fun _ hv=>Qpg hl hv) Q3n
def endC (K:Kf) (c:Cv):Int:=B6 c.m0 (stL K c)
theorem Mt.endC {K:Kf} {c d:Cv} (h:Mt c d):endC K d=endC K c:=by
 unfold Go.Bm.endC;rw[Mm h.m1 h.m2,h.m0]
theorem Q8t {K:Kf} (h:KOK K) {n:Int} {c e:Cv} (g:Gd K n c) (hn:0<=n/\n<=10000) {v:Int} (hv:v=wrap .i64 (c.m1+AD K.pa K.pb c.m1 c.m2)) (e0:e.m0=wrap .i64 (c.m0+v)) (e1:e.m1=v) (e2:e.m2=wrap .i64 (v-c.m1)):endC K e=endC K c:=by
 obtain⟨b1,b2,b3⟩:=Qyf h.plan g.mo hv;have hr:=E3 h.plan (Gh.1 b3).1;have h0:=g.m0;rw[Ae (by omega)]at e0;obtain⟨-,s2⟩:=S_ h.plan g.mo;unfold endC stL;rw[e0,e1,e2,b2,s2,<-b1];by_cases c0:c.m1<=0
 ·rw[if_pos c0];have hb:=Ztg h.plan g.mo.ready c0;have hr2:=E3 h.plan g.mo.ready;have v0:v=0:=by omega
  have hq:(AG K.pa K.pb v (AD K.pa K.pb c.m1 c.m2)).1=[]:=by
   have hz:(AG K.pa K.pb v (AD K.pa K.pb c.m1 c.m2)).2=true:=by rw[<-b2];exact b3
   rw[(S_ h.plan hz).2,if_pos (by omega)]
  rw[hq,v0];show c.m0+0=c.m0;omega
 ·rw[if_neg c0];show _=B6 (c.m0+v) _;rfl
def EndQ (K:Kf) (c d:Cv) (l:Int):Prop:=endC K d<=wrap .i64 (l*256)\/endC K d=endC K c
theorem EndQ.of {K:Kf} (h:KOK K) {n:Int} {c e:Cv} (g:Gd K n c) (hn:0<=n/\n<=10000) {v l:Int} (hv:Tt K.pa K.pb (wrap .i64 (c.m0+v)) v (wrap .i64 (v-c.m1)) l\/∃r:Int,v=wrap .i64 (c.m1+r)/\r=AD K.pa K.pb c.m1 c.m2)
  (e0:e.m0=wrap .i64 (c.m0+v)) (e1:e.m1=v) (e2:e.m2=wrap .i64 (v-c.m1)):EndQ K c e l:=by
 rcases hv with hv|⟨r,hv,rfl⟩
 ·refine .inl ?_;unfold endC stL;rw[e0,e1,e2];exact hv.2
 ·exact .inr (Q8t h g hn hv e0 e1 e2)
theorem Ut {K:Kf} {n:Int} {c:Cv} (g:Gd K n c) (hn:0<=n/\n<=10000): -300000000000<=c.m0/\c.m0<=300000000000:=by have:=g.m0;omega
theorem SK {K:Kf} (h:KOK K) {n:Int} {c:Cv} (g:Gd K n c) (hn:0<=n/\n<=10000) (l:Int):EndQ K c (ED K c l) l:=
 EndQ.of h g hn (v:=nxV K c l) (Zc9 (Qwd h g.mo (Ut g hn) l c.o2)) rfl rfl rfl
theorem EndQ.same {K:Kf} {c d e:Cv} {l:Int} (h:EndQ K c d l) (e0:e.m0=d.m0) (e1:e.m1=d.m1) (e2:e.m2=d.m2):EndQ K c e l:=by
 unfold EndQ at*;have:endC K e=endC K d:=by unfold endC;rw[Mm e1 e2,e0]
 rw[this];exact h
theorem Qhn (c:Cv):(Co c).m0=c.m0/\(Co c).m1=c.m1/\(Co c).m2=c.m2:=by unfold Co;split<;>exact⟨rfl,rfl,rfl⟩
theorem Zi5 {K:Kf} (h:KOK K) {n:Int} {c:Cv} (g:Gd K n c) (hn:0<=n/\n<=10000) (l:Int) {lead:Int} (hl:i64 lead):EndQ K c (HA K c l lead) l:=by
 unfold HA;split
 ·exact(SK h g hn l).same rfl rfl rfl
 ·have key:EndQ K c (Ho c (thO K c l lead)) l:=by
   obtain⟨o,h1,v,s,b,z,y,e,rfl,h2⟩:=Q8j h g.mo (Ut g hn) l hl;have h1:HX (thL K c l lead)=some (D7 c.m0 c.m1 c.m3 c.m4 v++[I s,I b,I z,I y,I e]):=h1;have e2:thO K c l lead=D7 c.m0 c.m1 c.m3 c.m4 v++[I s,I b,I z,I y,I e]:=by unfold thO;rw[h1];rfl
   rw[e2];exact EndQ.of h g hn h2 rfl rfl rfl
  split
  ·have:=Qhn (Ho c (thO K c l lead));exact key.same this.1 this.2.1 this.2.2
  ·exact key
theorem Q3y {K:Kf} (h:KOK K) {n:Int} {c:Cv} (g:Gd K n c) (hn:0<=n/\n<=10000) (l:Int) {s:Sgm} (hs:i64 s.lead):EndQ K c (EK K c l s) l:=by
 unfold EK;split
 ·exact(SK h g hn l).same rfl rfl rfl
 ·exact Zi5 h g hn l hs
theorem Zox {K:Kf} (h:KOK K) {n:Int} {c:Cv} (g:Gd K n c) (hn:0<=n/\n<=10000) (l:Int):EndQ K c (EJ K c l) l:=by
 unfold EJ;by_cases e:(sgK K c).lead=0
 ·rw[if_pos (.inl e)];exact SK h g hn l
 ·have hs:=(FX h e).2.2;split
  ·exact SK h g hn l
  ·split
   ·exact Q3y h g hn l hs
   ·split
    ·exact Q3y h (g.go (sgK K c)) hn l hs
    ·split
     ·have:=Qhn c;refine .inr ?_;unfold endC;rw[Mm this.2.1 this.2.2,this.1]
     ·exact .inr rfl
end Go.Bm
noncomputable section
namespace Go.Bm
structure MarksOK (K : Kf) : Prop where
 fw:Fw K.t K.len
 closed:K.closed=true
 at_:∀i:Int,0<=i->i<K.p.aD.length->0<=(mkK K i).at_/\(mkK K i).at_<=K.len
 mono:∀i j:Int,0<=i->i<=j->j<K.p.aD.length->(mkK K i).at_<=(mkK K j).at_
theorem Q2r {A:Int->Bool} {c:Cv} {known frm:Int} (hA:∀k,A k=true->Cx k c=true):∀(l:List Mrk) (i:Nat),(∀m∈l,A m.kind=true->frm<=m.at_/\m.at_<=known)->
  (E8 c known frm l i=(known,-1)/\∀m∈l,A m.kind=false)\/∃j,∃hj:j<l.length,E8 c known frm l i=(l[j].at_,((i+j:Nat):Int))/\Cx l[j].kind c=true/\∀k,∀hk:k<j,A (l[k]'(by omega)).kind=false
 |[],_,_=> .inl ⟨rfl,fun m hm=>by cases hm⟩
 |m::l,i,h=>by
  unfold E8;by_cases hc:Cx m.kind c=true/\frm<=m.at_/\m.at_<=known
  ·rw[if_pos hc];exact .inr ⟨0,by simp,rfl,hc.1,fun k hk=>by omega⟩
  ·rw[if_neg hc];have ha:A m.kind=false:=by
    cases e:A m.kind
    ·rfl
    ·exact absurd ⟨hA _ e,h m (by simp) e⟩ hc
   rcases Q2r hA l (i+1) fun q hq=>h q (by simp[hq])with⟨h1,h2⟩|⟨j,hj,h1,h2,h3⟩
   ·refine .inl ⟨h1,fun q hq=> ?_⟩;rcases List.mem_cons.1 hq with rfl|hq
    ·exact ha
    ·exact h2 q hq
   ·refine .inr ⟨j+1,by simpa using hj,?_,by simpa using h2,fun k hk=> ?_⟩
    ·rw[h1];have:i+1+j=i+(j+1):=by omega
     rw[this];rfl
    ·cases k with
     |zero=>exact ha
     |succ k=>exact h3 k (by omega)
theorem Zu2 {A:Int->Bool} {K:Kf} {c:Cv} {known frm:Int} (hA:∀k,A k=true->Cx k c=true) (hn:0<=c.next) (hm:∀i:Int,c.next<=i->i<K.p.aD.length->A (mkK K i).kind=true->frm<=(mkK K i).at_/\(mkK K i).at_<=known):
  (BD K c known frm=(known,-1)/\∀i:Int,c.next<=i->i<K.p.aD.length->A (mkK K i).kind=false)\/
  ∃j:Int,BD K c known frm=((mkK K j).at_,j)/\c.next<=j/\j<K.p.aD.length/\Cx (mkK K j).kind c=true/\∀i:Int,c.next<=i->i<j->A (mkK K i).kind=false:=by
 have hmx:(max c.next 0).toNat=c.next.toNat:=by rw[Int.max_eq_left hn]
 have ek:∀(k:Nat) (hk:k<(K.p.aD.drop c.next.toNat).length),(K.p.aD.drop c.next.toNat)[k]=mkK K ((c.next.toNat+k:Nat):Int):=fun k hk=>by
  rw[List.getElem_drop];unfold mkK;rw[Int.toNat_natCast,List.getD,List.getElem?_eq_getElem (by rw[List.length_drop]at hk;omega)];rfl
 have em:∀{i:Int},c.next<=i->i<K.p.aD.length->∃k,∃hk:k<(K.p.aD.drop c.next.toNat).length,mkK K i=(K.p.aD.drop c.next.toNat)[k]/\(k:Int)=i-c.next:=fun{i} h1 h2=>by
  refine⟨(i-c.next).toNat,by rw[List.length_drop];omega,?_,by omega⟩;rw[ek];have:((c.next.toNat+(i-c.next).toNat:Nat):Int)=i:=by omega
  rw[this]
 have hall:∀m∈K.p.aD.drop c.next.toNat,A m.kind=true->frm<=m.at_/\m.at_<=known:=fun m hm' ha=>by
  obtain⟨k,hk,rfl⟩:=List.mem_iff_getElem.1 hm';rw[ek k hk]at ha⊢;rw[List.length_drop]at hk;exact hm _ (by omega) (by omega) ha
 unfold BD;rw[hmx];rcases Q2r hA _ c.next.toNat hall with⟨h1,h2⟩|⟨j,hj,h1,h2,h3⟩
 ·refine .inl ⟨h1,fun i i1 i2=> ?_⟩;obtain⟨k,hk,e,-⟩:=em i1 i2;rw[e];exact h2 _ (List.getElem_mem hk)
 ·rw[ek j hj]at h1 h2;have hj2:=hj;rw[List.length_drop]at hj2;refine .inr ⟨_,h1,by omega,by omega,h2,fun i i1 i2=> ?_⟩;obtain⟨k,hk,e,e2⟩:=em (i:=i) i1 (by omega);rw[e];exact h3 k (by omega)
theorem Qy0 {K:Kf} (h:KOK K) (c:Cv):c.m0<=endC K c:=(Qc1 c.m0 (stL K c) (P8 h.plan c.m1 c.m2).2).1
theorem Zhx {K:Kf} (h:KOK K) {n:Int} {c:Cv} (g:Gd K n c) (hn:0<=n/\n<=10000):L2 K c=endC K c:=by
 have:=Ut g hn;unfold L2 one;rw[Zbb h.plan (by omega) g.mo];rfl
def Jm (A:Int->Bool) (K:Kf) (c:Cv):Prop:=∀i:Int,c.next<=i->i<K.p.aD.length->A (mkK K i).kind=true->endC K c<=256*B1 K.t (mkK K i).at_
theorem Zdo {K:Kf} (h:KOK K) (mk:MarksOK K) {r z:Int} (h0:0<=r) (z0:0<=z) (z1:z<=K.len) (hr:r<=256*B1 K.t z):HE K r<=z:=by
 have hw:=mk.fw.wh z z0 z1;have hl:=mk.fw.len;have hi:i64 K.len:=h.len;unfold i64 at hi;have hu:Dy r=(r+255)/256:=by
  unfold Dy;rw[Ae (x:=r+256) (by omega),Ae (x:=r+256-1) (by omega),Int.tdiv_eq_ediv_of_nonneg (by omega)];rw[Ae (by omega)];omega
 have u0:0<=Dy r:=by omega
 have u1:Dy r<=B1 K.t z:=by omega
 have hp:=mk.fw.le z0 z1 u1;unfold HE;split
 ·next hne=>
  have hlt:AT K.t (Dy r)<z:=by
   apply Decidable.byContradiction;intro q;have e:AT K.t (Dy r)=z:=by omega
   have:=mk.fw.ge z0 z1 u0 (by omega);rw[e]at hne;omega
  rw[Ae (by have:=(mk.fw.rg (Dy r)).1;omega)];omega
 ·exact hp
theorem Q67 {A:Int->Bool} {K:Kf} (h:KOK K) (mk:MarksOK K) {n:Int} {c:Cv} (g:Gd K n c) (hn:0<=n/\n<=10000) (hA:∀k,A k=true->Cx k c=true) (h0:0<=c.m0) (hx:0<=c.next) (hj:Jm A K c):
  (AU K c=(B1 K.t K.len,-1)/\∀i:Int,c.next<=i->i<K.p.aD.length->A (mkK K i).kind=false)\/
  ∃j:Int,AU K c=(B1 K.t (mkK K j).at_,j)/\c.next<=j/\j<K.p.aD.length/\Cx (mkK K j).kind c=true/\∀i:Int,c.next<=i->i<j->A (mkK K i).kind=false:=by
 have hk:EM K=K.len:=by unfold EM;rw[if_pos mk.closed]
 have he:=Qy0 h c;unfold AU;rw[Zhx h g hn,hk];have hw:=Zu2 (K:=K) (known:=K.len) (frm:=HE K (endC K c)) hA hx fun i i1 i2 ha=>by
  have hm:=mk.at_ i (by omega) i2;exact⟨Zdo h mk (by omega) hm.1 hm.2 (hj i i1 i2 ha),hm.2⟩
 rcases hw with⟨h1,h2⟩|⟨j,h1,h2⟩
 ·rw[h1];exact .inl ⟨rfl,h2⟩
 ·rw[h1];exact .inr ⟨j,rfl,h2⟩
theorem Jm.move {A:Int->Bool} {K:Kf} (h:KOK K) (mk:MarksOK K) {n:Int} {c e:Cv} (g:Gd K n c) (hn:0<=n/\n<=10000) (hA:∀k,A k=true->Cx k c=true) (h0:0<=c.m0) (hx:0<=c.next) (hj:Jm A K c)
  (he:EndQ K c e (AU K c).1) (hne:e.next=c.next):Jm A K e:=by
 intro i i1 i2 ha;rw[hne]at i1;rcases he with he|he
 ·rcases Q67 h mk g hn hA h0 hx hj with⟨h1,h2⟩|⟨j,h1,h2,h3,h4,h5⟩
  ·rw[h2 i i1 i2]at ha;cases ha
  ·rw[h1]at he;dsimp only at he;have hji:j<=i:=by
    apply Decidable.byContradiction;intro q;rw[h5 i i1 (by omega)]at ha;cases ha
   have hmj:=mk.at_ j (by omega) h3;have hmi:=mk.at_ i (by omega) i2;have hw:=mk.fw.wh _ hmj.1 hmj.2;have hl:=mk.fw.len;have:=mk.fw.wmono hmj.1 (mk.mono j i (by omega) hji i2) hmi.2;rw[Ae (by omega)]at he;omega
 ·rw[he];exact hj i i1 i2 ha
theorem Zcb {K:Kf} (h:KOK K) (mk:MarksOK K) {c:Cv} (h0:0<=c.m0) {z:Int} (z0:0<=z) (z1:z<=K.len) (he:endC K c<=256*B1 K.t z):A5 K c<=z:=by
 have:=Qy0 h c;have hw:=mk.fw.wh z z0 z1;have hl:=mk.fw.len;refine mk.fw.le z0 z1 ?_;unfold Bl;rw[Int.tdiv_eq_ediv_of_nonneg h0,Ae (by omega)];omega
end Go.Bm
noncomputable section
namespace Go.Bm
end Go.Bm
noncomputable section
namespace Go.Bm
theorem Qr2 {K:Kf} (h:KOK K) {n:Int} {c:Cv} (g:Gd K n c) (hn:0<=n/\n<=10000) {v:Int} (hv:(AG K.pa K.pb v (wrap .i64 (v-c.m1))).2=true\/∃r:Int,v=wrap .i64 (c.m1+r)/\r=AD K.pa K.pb c.m1 c.m2):c.m0<=wrap .i64 (c.m0+v):=by
 have h0:=g.m0;have hr:=E3 h.plan (Gh.1 (Qo5 h g.mo hv)).1;rw[Ae (by omega)];omega
theorem Qs8 {K:Kf} (h:KOK K) {n:Int} {c:Cv} (g:Gd K n c) (hn:0<=n/\n<=10000) (l:Int):c.m0<=(ED K c l).m0:=Qr2 h g hn (Qdv h g l).2
theorem Qgy (c:Cv):(Co c).m0=c.m0:=by unfold Co;split<;>rfl
theorem Q5s {K:Kf} (h:KOK K) {n:Int} {c:Cv} (g:Gd K n c) (hn:0<=n/\n<=10000) (l:Int) {s:Sgm} (hs:i64 s.lead):c.m0<=(EK K c l s).m0:=by
 have gp:=Qs8 h g hn l;unfold EK;split
 ·exact gp
 ·unfold HA;split
  ·exact gp
  ·obtain⟨-,v,s',b,z,y,e,h2,h3⟩:=Qhc h g l hs;have e1:gA (thO K c l s.lead) 1=v:=by rw[h2];rfl
   have up:=Qr2 h g hn h3;have e2:(Ho c (thO K c l s.lead)).m0=wrap .i64 (c.m0+v):=by
    show wrap .i64 (c.m0+gA (thO K c l s.lead) 1)=_;rw[e1]
   split
   ·rw[Qgy,e2];exact up
   ·rw[e2];exact up
theorem Zpt {K:Kf} (h:KOK K) {n:Int} {c:Cv} (g:Gd K n c) (hn:0<=n/\n<=10000) (l:Int):c.m0<=(EJ K c l).m0:=by
 unfold EJ;split
 ·exact Qs8 h g hn l
 ·rename_i hx;have hl:(sgK K c).lead≠0:=fun e=>hx (.inl e);split
  ·exact Q5s h g hn l (FX h hl).2.2
  ·split
   ·exact Q5s h (g.go (sgK K c)) hn l (FX h hl).2.2
   ·split
    ·rw[Qgy];exact Int.le_refl _
    ·exact Int.le_refl _
theorem Zyn {K:Kf} (h:KOK K) {n:Int} {c:Cv} (g:Gd K n c) (hn:0<=n/\n<=10000):c.m0<=(CH K c).2.m0:=by
 unfold CH;split
 ·have b:=Qnb K c (AU K c).2;split
  ·split
   ·rw[Qgy,b.m0];exact Int.le_refl _
   ·rw[b.m0];exact Int.le_refl _
  ·split
   ·exact Int.le_refl _
   ·exact Int.le_refl _
 ·exact Zpt h g hn _
theorem Gg.ne2 {c:Cv} (h:Gg c):c.g0≠2:=by rcases h with h|h<;>omega
end Go.Bm
noncomputable section
namespace Go.Bm
structure Ky (c d : Cv) : Prop where
 m0:d.m0=c.m0
 m1:d.m1=c.m1
 m2:d.m2=c.m2
 next:d.next=c.next
 on:d.on=c.on
 idx:d.idx=c.idx
 aN:d.aN=c.aN
 aI:d.aI=c.aI
 aH:d.aH=c.aH
 y0:d.y0=c.y0
 y1:d.y1=c.y1
 y2:d.y2=c.y2
theorem Ky.rfl {c:Cv}:Ky c c:=⟨Eq.refl _,Eq.refl _,Eq.refl _,Eq.refl _,Eq.refl _,Eq.refl _,Eq.refl _,Eq.refl _,Eq.refl _,Eq.refl _,Eq.refl _,Eq.refl _⟩
theorem Ky.trans {a b c:Cv} (h:Ky a b) (g:Ky b c):Ky a c:=
 ⟨g.m0.trans h.m0,g.m1.trans h.m1,g.m2.trans h.m2,g.next.trans h.next,g.on.trans h.on,g.idx.trans h.idx,g.aN.trans h.aN,g.aI.trans h.aI,g.aH.trans h.aH,g.y0.trans h.y0,g.y1.trans h.y1,g.y2.trans h.y2⟩
theorem Qyk:∀(E:List Evn) (c:Cv),Ky c (E.foldl (fun c e=>evC c e.kind e.n) c)
 |[],_=>Ky.rfl
 |e::E,c=>Ky.trans (b:=evC c e.kind e.n) ⟨rfl,rfl,rfl,rfl,rfl,rfl,rfl,rfl,rfl,rfl,rfl,rfl⟩ (Qyk E _)
theorem Qhe (K:Kf) (c:Cv) (E:List Evn):Ky c (A8 K c E):=by
 have h1:Ky c (Bc c E):=Ky.trans (b:=I2 c) ⟨rfl,rfl,rfl,rfl,rfl,rfl,rfl,rfl,rfl,rfl,rfl,rfl⟩ (Qyk E _);have h2:Ky (Bc c E) (CV (Bc c E)):=by
  unfold CV;split<;>exact⟨rfl,rfl,rfl,rfl,rfl,rfl,rfl,rfl,rfl,rfl,rfl,rfl⟩
 have h3:∀d,Ky d (Di K (BV d)):=fun d=>by
  unfold Di;split<;>exact⟨rfl,rfl,rfl,rfl,rfl,rfl,rfl,rfl,rfl,rfl,rfl,rfl⟩
 exact(h1.trans h2).trans ((h3 _).trans ⟨rfl,rfl,rfl,rfl,rfl,rfl,rfl,rfl,rfl,rfl,rfl,rfl⟩)
theorem Zdz (K:Kf) (c:Cv) (E:List Evn):(A8 K c E).o3=(Bc c E).o3/\(A8 K c E).o4=(Bc c E).o4/\(A8 K c E).aJ=(Bc c E).aJ:=by
 have h2:∀d:Cv,(CV d).o3=d.o3/\(CV d).o4=d.o4/\(CV d).aJ=d.aJ:=fun d=>by
  unfold CV;split<;>exact⟨rfl,rfl,rfl⟩
 have h3:∀d,(Di K (BV d)).o3=d.o3/\(Di K (BV d)).o4=d.o4/\(Di K (BV d)).aJ=d.aJ:=fun d=>by
  unfold Di;split<;>exact⟨rfl,rfl,rfl⟩
 have a:=h2 (Bc c E);have b:=h3 (CV (Bc c E));exact⟨b.1.trans a.1,b.2.1.trans a.2.1,b.2.2.trans a.2.2⟩
structure Mk (c d : Cv) : Prop where
 next:d.next=c.next
 on:d.on=c.on
 idx:d.idx=c.idx
 aN:d.aN=c.aN
theorem Pf (c:Cv):Mk c (Co c):=by unfold Co;split<;>exact⟨rfl,rfl,rfl,rfl⟩
theorem Qpt (K:Kf) (c:Cv) (l:Int) (s:Sgm):Mk c (EK K c l s):=by
 unfold EK;split
 ·exact⟨rfl,rfl,rfl,rfl⟩
 ·unfold HA;split
  ·exact⟨rfl,rfl,rfl,rfl⟩
  ·split
   ·have:=Pf (Ho c (thO K c l s.lead));exact⟨this.next,this.on,this.idx,this.aN⟩
   ·exact⟨rfl,rfl,rfl,rfl⟩
theorem Q6y (K:Kf) (c:Cv) (l:Int):Mk c (EJ K c l):=by
 unfold EJ;split
 ·exact⟨rfl,rfl,rfl,rfl⟩
 ·split
  ·exact Qpt K c l _
  ·split
   ·have:=Qpt K (goC K c (sgK K c)) l (sgK K c);exact⟨this.next,this.on,this.idx,this.aN⟩
   ·split
    ·exact Pf c
    ·exact⟨rfl,rfl,rfl,rfl⟩
def Zjg (c d:Cv):Prop:=Mk c d\/(d.next=wrap .i64 (c.idx+1)/\d.on=false/\(c.aN=true->c.aJ=true))
theorem Q2t (K:Kf) (c:Cv):Zjg c (Bx K c).2:=by
 unfold Bx Ig;split
 ·split
  ·next h=>exact .inr ⟨rfl,rfl,fun _=>h.2⟩
  ·exact .inl ⟨rfl,rfl,rfl,rfl⟩
 ·next hw=>
  have hd:∀{p:Prop},c.aN=true->p:=fun h=>absurd h hw;split
  ·exact .inr ⟨rfl,rfl,hd⟩
  ·split
   ·split
    ·exact .inl ⟨rfl,rfl,rfl,rfl⟩
    ·exact .inr ⟨rfl,rfl,hd⟩
   ·split
    ·split
     ·exact .inr ⟨rfl,rfl,hd⟩
     ·exact .inl ⟨rfl,rfl,rfl,rfl⟩
    ·split
     ·exact .inl ⟨rfl,rfl,rfl,rfl⟩
     ·exact .inr ⟨rfl,rfl,hd⟩
structure Ix (A : Int -> Bool) (K : Kf) (c : Cv) : Prop where
 m0:0<=c.m0
 next:0<=c.next
 j:Jm A K c
 task:c.on=true->c.next<=c.idx/\c.idx<K.p.aD.length/\∀i:Int,c.next<=i->i<c.idx->A (mkK K i).kind=false
def KQ (A:Int->Bool) (K:Kf) (c d:Cv):Prop:=d.next=c.next\/∃i:Int,c.next<=i/\i<K.p.aD.length/\d.next=i+1/\∀j:Int,c.next<=j->j<i->A (mkK K j).kind=false
theorem Jm.sub {A:Int->Bool} {K:Kf} {c d:Cv} (h:Jm A K c) (he:endC K d=endC K c) (hn:c.next<=d.next):Jm A K d:=fun i i1 i2 ha=>by
 rw[he];exact h i (by omega) i2 ha
theorem Qt8 {A:Int->Bool} {K:Kf} (h:KOK K) {c:Cv} (ix:Ix A K c) (on:c.on=true):Ix A K (Bx K c).2/\KQ A K c (Bx K c).2:=by
 have mt:=Sn K c;have hc:=Q2t K c;obtain⟨t1,t2,t3⟩:=ix.task on;have hcount:=h.count;have h0:=ix.next;generalize(Bx K c).2=d at*;rcases hc with hc|⟨h1,h2,-⟩
 ·refine⟨⟨by rw[mt.m0];exact ix.m0,by rw[hc.next];exact ix.next,ix.j.sub mt.endC (by rw[hc.next];omega),fun ho=> ?_⟩, .inl hc.next⟩;rw[hc.next,hc.idx];exact⟨t1,t2,t3⟩
 ·rw[Ae (x:=c.idx+1) (by omega)]at h1;exact⟨⟨by rw[mt.m0];exact ix.m0,by omega,ix.j.sub mt.endC (by omega),fun ho=>by rw[h2]at ho;cases ho⟩, .inr ⟨c.idx,t1,t2,h1,t3⟩⟩
theorem Ix.ky {A:Int->Bool} {K:Kf} {c d:Cv} (ix:Ix A K c) (k:Ky c d):Ix A K d:=by
 refine⟨by rw[k.m0];exact ix.m0,by rw[k.next];exact ix.next,ix.j.sub ?_ (by rw[k.next];omega),fun ho=> ?_⟩
 ·unfold endC;rw[Mm k.m1 k.m2,k.m0]
 ·rw[k.on]at ho;rw[k.next,k.idx];exact ix.task ho
theorem Ix.fau {A:Int->Bool} {K:Kf} {c:Cv} (ix:Ix A K c):Ix A K (Co c):=by
 have k:=Pf c;have m:=Qhn c;refine⟨by rw[m.1];exact ix.m0,by rw[k.next];exact ix.next,ix.j.sub ?_ (by rw[k.next];omega),fun ho=> ?_⟩
 ·unfold endC;rw[Mm m.2.1 m.2.2,m.1]
 ·rw[k.on]at ho;rw[k.next,k.idx];exact ix.task ho
theorem Zxh {A:Int->Bool} {K:Kf} (h:KOK K) (mk:MarksOK K) {n:Int} {c:Cv} (g:Gd K n c) (hn:0<=n/\n<=10000) (hA:∀k,A k=true->Cx k c=true) (ix:Ix A K c) (on:c.on=false):
  Ix A K (CH K c).2/\KQ A K c (CH K c).2:=by
 have hl:=Q67 h mk g hn hA ix.m0 ix.next ix.j;have up:=Zyn h g hn;have hm0:=ix.m0;unfold CH at up⊢;split
 ·split
  ·next hi=>
   obtain⟨j,e,j1,j2,-,j4⟩:∃j:Int,AU K c=(B1 K.t (mkK K j).at_,j)/\c.next<=j/\j<K.p.aD.length/\Cx (mkK K j).kind c=true/\∀i:Int,c.next<=i->i<j->A (mkK K i).kind=false:=by
    rcases hl with⟨e,-⟩|hl
    ·rw[e]at hi;dsimp only at hi;omega
    ·exact hl
   have ej:(AU K c).2=j:=by rw[e]
   rw[ej];have key:Ix A K (CY K c j).2/\KQ A K c (CY K c j).2:=by
    have ib:Ix A K {c with on:=true,idx:=j,aN:=Ea K c j,cnt:=0}:=⟨ix.m0,ix.next,ix.j.sub rfl (Int.le_refl _),fun _=>⟨j1,j2,j4⟩⟩;exact Qt8 h ib rfl
   split
   ·refine⟨key.1.fau,?_⟩;have:=(Pf (CY K c j).2).next
    rcases key.2 with q|⟨i,i1,i2,i3,i4⟩
    ·exact .inl (this.trans q)
    ·exact .inr ⟨i,i1,i2,this.trans i3,i4⟩
   ·exact key
  ·split
   ·exact⟨⟨ix.m0,ix.next,ix.j.sub rfl (Int.le_refl _),ix.task⟩, .inl rfl⟩
   ·exact⟨ix, .inl rfl⟩
 ·next hn'=>
  rw[if_neg hn']at up;have m:=Q6y K c (AU K c).1;refine⟨⟨Int.le_trans hm0 up,by rw[m.next];exact ix.next,Jm.move h mk g hn hA ix.m0 ix.next ix.j (Zox h g hn _) m.next,fun ho=> ?_⟩, .inl m.next⟩;rw[m.on,on]at ho;cases ho
theorem Zi9 {A:Int->Bool} {K:Kf} (h:KOK K) (mk:MarksOK K) {n:Int} {c:Cv} (g:Gd K n c) (hn:0<=n/\n<=10000) {E:List Evn} (hA:∀k,A k=true->Cx k (A8 K c E)=true) (hg:(A8 K c E).g0≠2) (ht:(A8 K c E).aH=false) (ix:Ix A K c):
  Ix A K (stC K c E).2/\KQ A K c (stC K c E).2:=by
 have ky:=Qhe K c E;have gp:Gd K n (A8 K c E):=Qft g E;have ix:=ix.ky ky;have key:Ix A K (stC K c E).2/\KQ A K (A8 K c E) (stC K c E).2:=by
  unfold stC;generalize A8 K c E=d at*;have hr:Cz K d=if d.aI≠0 then(d.aI,d)else if d.on=true then Bx K d else(0,d):=by
   unfold Cz;rw[if_neg hg,ht];split
   ·rfl
   ·rw[if_neg (by simp)]
  rw[hr];by_cases c1:d.aI≠0
  ·rw[if_pos c1,if_neg c1];exact⟨ix, .inl rfl⟩
  ·rw[if_neg c1];by_cases c2:d.on=true
   ·rw[if_pos c2,if_neg (Q6g K d)];exact Qt8 h ix c2
   ·rw[if_neg c2,if_pos rfl];exact Zxh h mk gp hn hA ix (by simpa using c2)
 refine⟨key.1,?_⟩;have:=key.2;unfold KQ at*;rw[ky.next]at this;exact this
theorem Zb7 {A:Int->Bool} {K:Kf} (h:KOK K) (mk:MarksOK K) {n:Int} {c:Cv} (g:Gd K n c) (hn:0<=n/\n<=10000) {E:List Evn} (hA:∀k,A k=true->Cx k (A8 K c E)=true) (hg:(A8 K c E).g0≠2) (ht:(A8 K c E).aH=false) (ix:Ix A K c):
  Ix A K (B4 K c E)/\KQ A K c (B4 K c E):=by
 have:=Zi9 h mk g hn hA hg ht ix;unfold B4;generalize(stC K c E).2=d at*;obtain⟨m,q,e⟩:=NJ K d (A5 K d);rw[e];exact⟨⟨this.1.m0,this.1.next,this.1.j.sub rfl (Int.le_refl _),this.1.task⟩,this.2⟩
theorem ix0 {A:Int->Bool} {K:Kf} (h:KOK K) (mk:MarksOK K):Ix A K BM:=by
 refine⟨Int.le_refl _,Int.le_refl _,fun i i1 i2 _=> ?_,fun ho=>by cases ho⟩;have hm:=mk.at_ i i1 i2;have hw:=mk.fw.wh _ hm.1 hm.2;have e:endC K BM=0:=by
  unfold endC;rw[Qqs h.plan (c:=BM) (Rx h.plan) (Int.le_refl _)];rfl
 rw[e];omega
end Go.Bm
namespace Go.Bm
open Classical
theorem Qxf {item feed lead:Int}:∀(pts:List Pt) (s:List Sgm×Int×Pt),∃l,(pts.foldl (A6 item feed lead) s).1=s.1++l
 |[],s=>⟨[],by simp⟩
 |q::pts,s=>by
  rw[List.foldl_cons];obtain⟨l,hl⟩:=Qxf (item:=item) (feed:=feed) (lead:=lead) pts (A6 item feed lead s q);rw[hl];unfold A6;split
  ·exact⟨l,rfl⟩
  ·exact⟨_::l,(List.append_assoc _ _ _).trans rfl⟩
theorem Zxf (aA:List Itm) (i:Nat) (s:BSt):∃l,(DB aA i s).aF=s.aF++l:=by
 unfold DB;split
 ·exact Qxf _ _
 ·exact⟨[],by simp⟩
theorem Que (aA:List Itm) (i:Nat):∀k,∃l,(Au aA (i+k)).aF=(Au aA i).aF++l
 |0=>⟨[],by simp⟩
 |k+1=>by
  obtain⟨l,hl⟩:=Que aA i k;obtain⟨m,hm⟩:=Zxf aA (i+k) (Au aA (i+k));refine⟨l++m,?_⟩;show(DB aA (i+k) (Au aA (i+k))).aF=_;rw[hm,hl,List.append_assoc]
theorem Q3d {l:List Sgm} (h:∀g∈l,1<=g.len):0<=AA l:=by
 induction l with
 |nil=>simp[AA]
 |cons k l ih=>
  have:=ih fun g hg=>h g (by simp[hg]);have:=h k (by simp);simp only[AA];omega
theorem Zg6 (l m:List Sgm):AA (l++m)=AA l+AA m:=by
 induction l with
 |nil=>simp[AA]
 |cons k l ih=>simp only[List.cons_append,AA,ih];omega
end Go.Bm
namespace Go.Bm
open Classical
def Zkg (item:Int) (a:Pt) (g:Sgm):Prop:=bd B24 g.to/\g.to≠a/\g.len=AE a g.to/\item<=g.item/\(0<=g.feed/\g.feed<=16777216)/\(0<=g.lead/\g.lead<=16777216)
def Qtm (item:Int) (a:Pt):List Sgm->Prop
 |[]=>True
 |g::l=>Zkg item a g/\Qtm g.item g.to l
def Zga (last n:Int) (m:Mrk):Prop:=last<=m.at_/\m.at_<=n/\(1<=m.kind/\m.kind<=6)/\0<=m.item
def Qoc (last n:Int):List Mrk->Prop
 |[]=>True
 |m::l=>Zga last n m/\Qoc m.at_ n l
end Go.Bm
namespace Go.Bm
open Classical
structure okW (R : Nat) (s : Spk) : Prop where
 ok:okS s
 u:s.u.natAbs<=R
 w:s.w.natAbs<=R
 r:s.r<=R
def Qxb:Int->List Sgm->Int
 |k,[]=>k
 |_,g::l=>Qxb g.item l
structure VInv (i : Nat) (s : BSt) : Prop where
 begun:s.begun=true->bd B24 s.start/\Qtm 0 s.start s.aF/\Qxb 0 s.aF<=i
 aD:Qoc 0 s.len s.aD
end Go.Bm
namespace Go.Bm
open Classical
theorem YC (aA:List Itm):AP aA=⟨(Au aA aA.length).start,(Au aA aA.length).aF,(Au aA aA.length).aD⟩:=rfl
end Go.Bm
namespace Go.Bm
open Classical
noncomputable def mkA (aA:List Itm) (i:Nat):Mrk:=⟨(Au aA (i+1)).len,if AB (itA aA i)then H6 aA i else KE (itA aA i),i⟩
theorem Sq (aA:List Itm):∀n,(Au aA n).aD=(List.range n).map (mkA aA)
 |0=>rfl
 |n+1=>by
  rw[List.range_succ,List.map_append,<-Sq aA n];show(DB aA n (Au aA n)).aD=_;unfold mkA;show _=_++[(⟨(DB aA n (Au aA n)).len,_,_⟩:Mrk)];unfold DB;by_cases c:AB (itA aA n)
  ·simp only[if_pos c]
  ·simp only[if_neg c]
theorem Qwp:∀l:List Itm,Fx l=1\/Fx l=2
 |[]=> .inr rfl
 |it::l=>by
  unfold Fx
  repeat' split
  all_goals first|exact .inl rfl|exact .inr rfl|exact Qwp l
theorem Ztc (aA:List Itm) (i:Nat):H6 aA i=6\/H6 aA i=1\/H6 aA i=2:=by
 unfold H6;have:=Qwp (aA.drop (i+1))
 repeat' split
 all_goals omega
theorem X3 {aA:List Itm} {i:Nat} (h:BInv (Au aA i)):(Au aA i).len=AA (Au aA i).aF:=by
 by_cases hb:(Au aA i).begun=true
 ·exact(h.begun hb).2.2.2.symm
 ·obtain⟨h1,h2,-⟩:=h.empty (by simpa using hb);rw[h1,h2];rfl
theorem Z1a {aA:List Itm} (hright:∀j<aA.length,¬BL (itA aA j)) {i:Nat} (hi:i<=aA.length):∀g∈(Au aA i).aF,1<=g.len:=by
 have h:=Jq hright i hi;by_cases hb:(Au aA i).begun=true
 ·exact fun g hg=>(RZ (h.begun hb).1 (h.begun hb).2.1 g hg).1
 ·rw[(h.empty (by simpa using hb)).1];simp
theorem Qtz {aA:List Itm} (hright:∀j<aA.length,¬BL (itA aA j)) {i k:Nat} (h:i+k<=aA.length):0<=(Au aA i).len/\(Au aA i).len<=(Au aA (i+k)).len:=by
 rw[X3 (Jq hright i (by omega)),X3 (Jq hright (i+k) h)];obtain⟨l,hl⟩:=Que aA i k;have hg:=Z1a hright h;rw[hl]at hg⊢;rw[Zg6];have h1:=Q3d (l:=(Au aA i).aF) fun g hg'=>hg g (by simp[hg']);have h2:=Q3d (l:=l) fun g hg'=>hg g (by simp[hg']);omega
theorem Zfz {aA:List Itm} (hright:∀j<aA.length,¬BL (itA aA j)) {i:Nat} (hi:i<aA.length):
  0<=(mkA aA i).at_/\(mkA aA i).at_<=AA (AP aA).aF:=by
 have h:=Qtz hright (i:=i+1) (k:=aA.length-(i+1)) (by omega);rw[show i+1+(aA.length-(i+1))=aA.length by omega]at h;refine⟨h.1,?_⟩;have:=X3 (Jq hright aA.length (Nat.le_refl _));rw[YC];simp only;rw[<-this];exact h.2
end Go.Bm
noncomputable section
namespace Go.Bm
end Go.Bm
noncomputable section
namespace Go.Bm
theorem So {K:Kf} {aA:List Itm} (hp:K.p=AP aA) {i:Int} (h0:0<=i) (h1:i<aA.length):mkK K i=mkA aA i.toNat:=by
 have hi:i.toNat<aA.length:=by omega
 have hl:i.toNat<(Au aA aA.length).aD.length:=by rw[Sq];simpa using hi
 unfold mkK;rw[hp,YC];simp only;rw[List.getD,List.getElem?_eq_getElem hl];simp only[Sq,List.getElem_map,List.getElem_range];rfl
theorem Q61 (aA:List Itm):(AP aA).aD.length=aA.length:=by rw[YC];simp[Sq]
theorem Zix {x:Ax3} {pa pb pc ramp lag:Int} {aA:List Itm} (hx:Ax3OK x) (hg:GoodPath (AP aA)) (hright:∀j<aA.length,¬BL (itA aA j)):MarksOK (kfP x pa pb pc ramp lag aA true):=by
 have hl:=Q61 aA;refine⟨Zz9 hx hg,rfl,fun i h0 h1=> ?_,fun i j h0 h1 h2=> ?_⟩
 ·have h1:i<(AP aA).aD.length:=h1;rw[So (aA:=aA) rfl h0 (by omega)];exact Zfz hright (by omega)
 ·have h2:j<(AP aA).aD.length:=h2;rw[So (aA:=aA) rfl h0 (by omega),So (aA:=aA) rfl (by omega) (by omega)];have:=(Qtz hright (i:=i.toNat+1) (k:=j.toNat-i.toNat) (by omega)).2;rw[show i.toNat+1+(j.toNat-i.toNat)=j.toNat+1 by omega]at this;exact this
def A1 (k:Int):Bool:=k==1||(k==2||(k==3||(k==4||k==6)))
def A2 (k:Int):Bool:=k==1||(k==2||k==6)
theorem Qxq {k:Int} (h:A2 k=true):A1 k=true:=by
 unfold A2 at h;unfold A1;simp only[Bool.or_eq_true]at*;rcases h with h|h|h
 ·exact .inl h
 ·exact .inr (.inl h)
 ·exact .inr (.inr (.inr (.inr h)))
theorem Ztb {c:Cv} (ho:c.o3=true) (k:Int) (h:A1 k=true):Cx k c=true:=by
 unfold A1 at h;unfold Cx;rw[ho];simp only[Bool.or_eq_true,Bool.and_eq_true]at*;rcases h with h|h|h|h|h
 ·exact .inl h
 ·exact .inr (.inr (.inr (.inr ⟨h,trivial⟩)))
 ·exact .inr (.inl h)
 ·exact .inr (.inr (.inr (.inl ⟨h, .inr trivial⟩)))
 ·exact .inr (.inr (.inl h))
theorem Zwd {K:Kf} {aA:List Itm} (hp:K.p=AP aA) {i:Int} (h0:0<=i) (h1:i<aA.length):A2 (mkK K i).kind=decide (AB (itA aA i.toNat)):=by
 rw[So hp h0 h1];show A2 (if AB (itA aA i.toNat)then H6 aA i.toNat else KE (itA aA i.toNat))=_;by_cases h:AB (itA aA i.toNat)
 ·rw[if_pos h,decide_eq_true h];rcases Ztc aA i.toNat with h|h|h<;>rw[h]<;>rfl
 ·rw[if_neg h,decide_eq_false h];unfold KE;split
  ·rfl
  ·split<;>rfl
def Ws (K:Kf) (c:Cv):Prop:=c.on=true->A2 (mkK K c.idx).kind=true->c.aN=true
def NS (K:Kf) (c d:Cv):Prop:=d.next=c.next\/(A2 (mkK K (d.next-1)).kind=true->c.aJ=true)
theorem Qww {K:Kf} (h:KOK K) {c:Cv} (on:c.on=true) (h0:0<=c.idx) (hi:c.idx<K.p.aD.length) (w:Ws K c):Ws K (Bx K c).2/\NS K c (Bx K c).2:=by
 have hc:=Q2t K c;have hcount:=h.count;generalize(Bx K c).2=d at*;rcases hc with hc|⟨h1,h2,h3⟩
 ·refine⟨fun ho ha=> ?_, .inl hc.next⟩;rw[hc.on]at ho;rw[hc.idx]at ha;rw[hc.aN];exact w ho ha
 ·rw[Ae (x:=c.idx+1) (by omega)]at h1;refine⟨fun ho=>(by rw[h2]at ho;cases ho), .inr fun ha=> ?_⟩;rw[h1,show c.idx+1-1=c.idx by omega]at ha;exact h3 (w on ha)
theorem Zn5 {K:Kf} (h:KOK K) {c:Cv} (ho:c.o3=true) (on:c.on=false):Ws K (CH K c).2/\NS K c (CH K c).2:=by
 have no:∀{d:Cv},d.on=false->Ws K d:=fun e ho=>by rw[e]at ho;cases ho
 unfold CH;split
 ·split
  ·next hi=>
   have hlim:(AU K c).2<K.p.aD.length:=by
    rcases Qbg K c with e|e
    ·omega
    ·exact e.2.2
   generalize(AU K c).2=j at*;have key:Ws K (CY K c j).2/\NS K c (CY K c j).2:=by
    have ib:Ws K {c with on:=true,idx:=j,aN:=Ea K c j,cnt:=0}:=fun _ ha=>by
     show Ea K c j=true;have ha:A2 (mkK K j).kind=true:=ha;unfold A2 at ha;unfold Ea;simp only[Bool.or_eq_true,beq_iff_eq]at ha;rw[if_pos ha];exact ho
    exact Qww h (c:={c with on:=true,idx:=j,aN:=Ea K c j,cnt:=0}) rfl hi hlim ib
   split
   ·have k:=Pf (CY K c j).2;refine⟨fun q ha=> ?_,?_⟩
    ·rw[k.on]at q;rw[k.idx]at ha;rw[k.aN];exact key.1 q ha
    ·unfold NS;rw[k.next];exact key.2
   ·exact key
  ·split
   ·exact⟨no on, .inl rfl⟩
   ·exact⟨no on, .inl rfl⟩
 ·have m:=Q6y K c (AU K c).1;exact⟨no (m.on.trans on), .inl m.next⟩
theorem Z1b {A:Int->Bool} {K:Kf} (h:KOK K) {c:Cv} {E:List Evn} (ho:(A8 K c E).o3=true) (hg:(A8 K c E).g0≠2) (ht:(A8 K c E).aH=false) (ix:Ix A K c) (w:Ws K c):
  Ws K (B4 K c E)/\((B4 K c E).next=c.next\/(A2 (mkK K ((B4 K c E).next-1)).kind=true->(A8 K c E).aJ=true)):=by
 have ky:=Qhe K c E;have ix:=ix.ky ky;have w:Ws K (A8 K c E):=fun q ha=>by
  rw[ky.on]at q;rw[ky.idx]at ha;rw[ky.aN];exact w q ha
 have key:Ws K (stC K c E).2/\NS K (A8 K c E) (stC K c E).2:=by
  unfold stC;generalize A8 K c E=d at*;have hr:Cz K d=if d.aI≠0 then(d.aI,d)else if d.on=true then Bx K d else(0,d):=by
   unfold Cz;rw[if_neg hg,ht];split
   ·rfl
   ·rw[if_neg (by simp)]
  rw[hr];by_cases c1:d.aI≠0
  ·rw[if_pos c1,if_neg c1];exact⟨w, .inl rfl⟩
  ·rw[if_neg c1];by_cases c2:d.on=true
   ·rw[if_pos c2,if_neg (Q6g K d)];have t:=ix.task c2;have:=ix.next;exact Qww h c2 (by omega) t.2.1 w
   ·rw[if_neg c2,if_pos rfl];exact Zn5 h ho (by simpa using c2)
 unfold B4;generalize(stC K c E).2=d at*;obtain⟨m,q,e⟩:=NJ K d (A5 K d);rw[e];refine⟨key.1,?_⟩;have:=key.2;unfold NS at this;rw[ky.next]at this;exact this
def Fqs (K:Kf):Nat->Nat
 |0=>0
 |i+1=>Fqs K i+if A2 (mkK K i).kind=true then 1 else 0
theorem Qo7 {K:Kf} {i:Nat}:∀j:Nat,(∀k:Int,(i:Int)<=k->k<i+j->A1 (mkK K k).kind=false)->Fqs K (i+j)=Fqs K i
 |0,_=>rfl
 |j+1,h=>by
  have ih:=Qo7 j fun k h1 h2=>h k h1 (by omega);have hk:=h ((i+j:Nat):Int) (by omega) (by omega);show Fqs K (i+j)+(if A2 (mkK K ((i+j:Nat):Int)).kind=true then 1 else 0)=_;have h2:A2 (mkK K ((i+j:Nat):Int)).kind≠true:=fun e=>by rw[Qxq e]at hk;cases hk
  rw[if_neg h2,ih];rfl
structure Sg (K : Kf) (c : Cv) (s : Nat) : Prop where
 ix:Ix A1 K c
 w:Ws K c
 n:Fqs K c.next.toNat<=s
 cm:Cm c
 gg:Gg c
theorem Q7p {K:Kf} (h:KOK K) (mk:MarksOK K) {n:Int} {c:Cv} (g:Gd K n c) (hn:0<=n/\n<=10000) {s:Nat} (sg:Sg K c s) {E:List Evn} (hk:∀e∈E,e.kind<=6) (ho:(Bc c E).o3=true) {r:Nat} (hr:(Bc c E).aJ=true->r=1):
  Sg K (B4 K c E) (s+r):=by
 have po:=Zdz K c E;have gg:=Zht (K:=K) hk sg.gg;have ht:=(Qhe K c E).aH.trans sg.cm.aH;have hA:∀k,A1 k=true->Cx k (A8 K c E)=true:=fun k ha=>Ztb (po.1.trans ho) k ha;have i1:=Zb7 h mk g hn hA gg.ne2 ht sg.ix;have i2:=Z1b h (po.1.trans ho) gg.ne2 ht sg.ix sg.w;have i3:=Z0i (K:=K) sg.cm E;refine⟨i1.1,i2.1,?_,i3.1,i3.2 gg⟩;have h0:=sg.ix.next;have hs:=sg.n;rcases i1.2 with e|⟨i,q1,q2,q3,q4⟩
 ·rw[e];omega
 ·have e1:(B4 K c E).next.toNat=i.toNat+1:=by omega
  have e2:Fqs K i.toNat=Fqs K c.next.toNat:=by
   have:=Qo7 (K:=K) (i:=c.next.toNat) (i.toNat-c.next.toNat) fun k k1 k2=>q4 k (by omega) (by omega);rw[show c.next.toNat+(i.toNat-c.next.toNat)=i.toNat by omega]at this;exact this
  rw[e1];show Fqs K i.toNat+(if A2 (mkK K (i.toNat:Int)).kind=true then 1 else 0)<=s+r;rw[e2,show(i.toNat:Int)=i by omega];by_cases c2:A2 (mkK K i).kind=true
  ·rw[if_pos c2];have hres:(A8 K c E).aJ=true:=by
    rcases i2.2 with e|e
    ·omega
    ·exact e (by rw[q3,show i+1-1=i by omega];exact c2)
   rw[po.2.2]at hres;have:=hr hres;omega
  ·rw[if_neg c2];omega
theorem Zmj {K:Kf} (h:KOK K) (mk:MarksOK K) {c:Cv} {s:Nat} (sg:Sg K c s) {i:Int} (h0:0<=i) (h1:i<K.p.aD.length) (ha:A2 (mkK K i).kind=true) (hp:(mkK K i).at_<A5 K c):i<c.next:=by
 apply Decidable.byContradiction;intro q;have hm:=mk.at_ i h0 h1;have:=Zcb h mk sg.ix.m0 hm.1 hm.2 (sg.ix.j i (by omega) h1 (Qxq ha));omega
theorem Qrz {K:Kf} {i j:Nat} (h:i<=j):Fqs K i<=Fqs K j:=by
 obtain⟨d,rfl⟩:∃d,j=i+d:=⟨j-i,by omega⟩;induction d with
 |zero=>exact Nat.le_refl _
 |succ d ih=>
  have:=ih (by omega);show _<=Fqs K (i+d)+_;omega
def Fk (K:Kf) (s:Int):Nat->Nat
 |0=>0
 |i+1=>Fk K s i+if A2 (mkK K i).kind=true/\(mkK K i).at_<s then 1 else 0
theorem Qzg {K:Kf} (h:KOK K) (mk:MarksOK K) {c:Cv} {s:Nat} (sg:Sg K c s):∀i:Nat,i<=K.p.aD.length->Fk K (A5 K c) i<=Fqs K (min i c.next.toNat)
 |0,_=>by show 0<=_;omega
 |i+1,hi=>by
  have ih:=Qzg h mk sg i (by omega);show Fk K (A5 K c) i+_<=_;by_cases c2:A2 (mkK K i).kind=true/\(mkK K i).at_<A5 K c
  ·rw[if_pos c2];have hlt:=Zmj h mk sg (i:=(i:Int)) (by omega) (by omega) c2.1 c2.2;rw[Nat.min_eq_left (by omega)]at ih;rw[Nat.min_eq_left (by omega)];show _<=Fqs K i+(if A2 (mkK K (i:Int)).kind=true then 1 else 0);rw[if_pos c2.1];omega
  ·rw[if_neg c2];exact Nat.le_trans ih (Qrz (by omega))
theorem Zpc {K:Kf} (h:KOK K) (mk:MarksOK K) {c:Cv} {s:Nat} (sg:Sg K c s):Fk K (A5 K c) K.p.aD.length<=s:=
 Nat.le_trans (Qzg h mk sg _ (Nat.le_refl _)) (Nat.le_trans (Qrz (Nat.min_le_right _ _)) sg.n)
theorem Z0x {K:Kf} (h:KOK K) (mk:MarksOK K):Sg K BM 0:=⟨ix0 h mk,fun q=>(by cases q),Nat.le_refl _,cm0, .inl ⟨rfl,rfl,rfl⟩⟩
end Go.Bm
noncomputable section
namespace Go.Bm
theorem Q57 {K:Kf} (h:KOK K) (c:Cv):Ks (Ad K c)=some (Br K.p++Ad K c):=by
 have h1:=h.f.p.count;have h2:=h.count;refine(Z1u K c).trans ?_;exact eT (Cw (by rw[List.length_map];omega)) (eT (Cw (by rw[List.length_map];omega)) rfl)
end Go.Bm
noncomputable section
namespace Go.Bm
theorem Qzx (k:Int):LX [I k]=some [B (decide (1<=k/\k<=6))]:=by
 show Qf7 _=_;rw[Zjn];by_cases h:k>=1
 ·rw[decide_eq_true h];show some [B (decide (k<=6))]=_;congr 3;simp;omega
 ·rw[decide_eq_false h];show some [B false]=_;congr 3;simp;omega
def To (K:Kf):Prop:=K.p.aD.length=K.aA.length/\∀i:Int,0<=i->i<K.aA.length->A2 (mkK K i).kind=decide (1<=(itK K i).kind/\(itK K i).kind<=6)
theorem Z1c {x0 x1 x2:Rw} (h0:Src x0) (h1:Src x1) (h2:Src x2) (hl:x2.length<=100000) {most:Int} (hm:most<=12) (fin:Bool):
  ∃K:Kf,KOK K/\MarksOK K/\To K/\Ki [.view Aa x1, .view Aa x2]=some (AO K.x++[I K.pa,I K.pb,I K.pc,I K.ramp,I K.lag])/\JF [.view Aa x0,I most,B fin]=some [.view Ai (K.aA.map Ag)]/\
   GG (AO K.x++[I K.pa,I K.pb,I K.pc,I K.ramp,I K.lag]++[.view Ai (K.aA.map Ag),B true])=some (I 0::Ad K BM):=by
 obtain⟨x,a,b,c,ramp,lag,hQ,hM⟩:=Q7u h1 h2 hl;obtain⟨p,aA,hI,hit,hlen,-⟩:=Q9i h0 (most:=most) (by omega) fin;have hn:=Uj hM (aA:=aA) (by omega) hit true;have hc:=Q1e (by omega) hit (show aA.length<=20000 by omega);have hr:=(Mu hc).2;have mk:=Zix (pa:=a) (pb:=b) (pc:=c) (ramp:=ramp) (lag:=lag) hM.x.ok (Qk3 (by omega) hc) hr;refine⟨kfP x a b c ramp lag aA true,hn.2,mk,⟨Q61 aA,fun i i0 i1=> ?_⟩,hQ,hI,hn.1⟩;have i1:i<aA.length:=i1;rw[Zwd (aA:=aA) rfl i0 i1];have e:itK (kfP x a b c ramp lag aA true) i=itA aA i.toNat:=by
  unfold itK;show aA.getD i.toNat Qxj=aA.getD i.toNat it0;rw[List.getD,List.getD,List.getElem?_eq_getElem (by omega)];rfl
 rw[e];rfl
theorem Zjr {M0 M1 M2 M3 M4 M5 M6 M7:Fn} {K:Kf} (mm:To K) (hc:K.p.aD.length<=1000000) (hM:∀k:Int,M0 [I k]=some [B (decide (1<=k/\k<=6))]) {v0 v9 v10:Rw} {v3 v4 v11 S v13 v14 v15 v16 v17:Int} {c:Cv}:
  Out (fun o=>o=(1, .view Aa v0:: .view Ai (K.aA.map Ag):: .view kPt (K.p.aD.map Aq)::I v3::I v4::I (Fk K S K.p.aD.length:Nat)::Ad K c))
   (An (LL M0 M1 M2 M3 M4 M5 M6 M7) (.view Aa v0:: .view Ai (K.aA.map Ag):: .view kPt (K.p.aD.map Aq)::I v3::I v4::I (Fk K S 0:Nat):: .view kPt (K.p.aD.map Aq)::I ((K.p.aD.map Aq).length:Int)::I ((0:Nat):Int):: .view kPt v9:: .view Aa v10::I v11::I S::I v13::I v14::I v15::I v16::I v17::Ad K c)):=by
 have hle:∀i:Nat,Fk K S i<=i:=fun i=>by
  induction i with
  |zero=>exact Nat.le_refl _
  |succ i ih=>
   show Fk K S i+_<=_;split<;>omega
 refine C9 (fun k:Nat=> .view Aa v0:: .view Ai (K.aA.map Ag):: .view kPt (K.p.aD.map Aq)::I v3::I v4::I (Fk K S k:Nat):: .view kPt (K.p.aD.map Aq)::I ((K.p.aD.map Aq).length:Int)::I (k:Int):: .view kPt v9:: .view Aa v10::I v11::I S::I v13::I v14::I v15::I v16::I v17::Ad K c)
  (fun k=>k<=K.p.aD.length) (fun k=>K.p.aD.length-k) _ ?_ 0 (by omega)
 intro k hk;refine Out.eqv (Q8o M0 M1 M2 M3 M4 M5 M6 M7 v0 (K.aA.map Ag) (K.p.aD.map Aq) v3 v4 (Fk K S k:Nat) (K.p.aD.map Aq) ((K.p.aD.map Aq).length:Int) k v9 v10 v11 S v13 v14 v15 v16 v17 K c) ?_;have el:((K.p.aD.map Aq).length:Int)=K.p.aD.length:=by rw[List.length_map]
 refine .cond (fun c1=> ?_) fun c1=> ?_
 ·have c1:=Bg c1;have hk2:(k:Int)<K.p.aD.length:=by omega
  have hi2:(k:Int)<K.aA.length:=by rw[<-mm.1];exact hk2
  have hp:=hle k;refine .cond (fun _=> ?_) fun e=>(inB (by omega) c1 e).elim;refine .cond (fun _=> ?_) fun e=>(inB (by omega) (by rw[List.length_map];exact hi2) e).elim;rw[HW (by omega) hi2,KP (by omega) hk2];refine .bind (p:=fun o=>o=_) ⟨_,hM (itK K (k:Int)).kind,rfl⟩ fun o e=> ?_;subst e;have hA:=mm.2 k (by omega) hi2;rw[Ae (x:=(k:Int)+1) (by omega),Ae (x:=((Fk K S k:Nat):Int)+1) (by omega)];have hs:Fk K S (k+1)=Fk K S k+if A2 (mkK K (k:Int)).kind=true/\(mkK K (k:Int)).at_<S then 1 else 0:=rfl;refine .cond (fun c2=> .cond (fun c3=> ?_) fun c3=> ?_) fun c2=> ?_
  ·have c2:decide (1<=(itK K (k:Int)).kind/\(itK K (k:Int)).kind<=6)=true:=c2;have c3:(mkK K (k:Int)).at_<S:=Bg c3;rw[if_pos ⟨hA.trans c2,c3⟩]at hs;exact .some (.inl ⟨rfl,k+1,by rw[hs];rfl,by omega,by omega⟩)
  ·have c3: ¬(mkK K (k:Int)).at_<S:=Bj c3;rw[if_neg fun q=>c3 q.2]at hs;exact .some (.inl ⟨rfl,k+1,by rw[hs];rfl,by omega,by omega⟩)
  ·have c2:decide (1<=(itK K (k:Int)).kind/\(itK K (k:Int)).kind<=6)=false:=c2;rw[if_neg fun q=>by rw[hA,c2]at q;exact absurd q.1 (by simp)]at hs;exact .some (.inl ⟨rfl,k+1,by rw[hs];rfl,by omega,by omega⟩)
 ·have c1:=Bj c1;have e:k=K.p.aD.length:=by omega
  subst e;exact .some (.inr ⟨by simp,rfl⟩)
theorem Zu8 {M0 MS M2 M3 M4 M5 M6 M7:Fn} {K:Kf} (h:KOK K) (mk:MarksOK K) (mm:To K) (hM:∀k:Int,M0 [I k]=some [B (decide (1<=k/\k<=6))])
  (hS:∀(c:Cv) (n:Int) (E:List Evn),Gd K n c->0<=n/\n<=10000->NT E->MS (.view kPt (E.map evR)::Ad K c)=some (tkC K c E++Ad K (B4 K c E))) {v0:Rw}:
  Out (fun o=>o=(2,[])) (An (SI M0 MS M2 M3 M4 M5 M6 M7 (An (LL M0 MS M2 M3 M4 M5 M6 M7))) (.view Aa v0:: .view Ai (K.aA.map Ag):: .view kPt (K.p.aD.map Aq)::I ((0:Nat):Int)::I ((0:Nat):Int)::Ad K BM)):=by
 refine C9 (fun s:Nat×Nat×Cv=> .view Aa v0:: .view Ai (K.aA.map Ag):: .view kPt (K.p.aD.map Aq)::I (s.1:Int)::I (s.2.1:Int)::Ad K s.2.2)
  (fun s=>s.1<=s.2.1/\s.2.1<=120/\Gd K s.2.1 s.2.2/\Sg K s.2.2 s.1) (fun s=>120-s.2.1) _ ?_ (0,0,BM) ⟨Nat.le_refl _,Nat.zero_le _,gdK h,Z0x h mk⟩
 rintro⟨s,k,c⟩ ⟨h1,h2,g,sg⟩;dsimp only at h1 h2 g sg;refine Out.eqv (Zxx M0 MS M2 M3 M4 M5 M6 M7 _ v0 (K.aA.map Ag) (K.p.aD.map Aq) s k K c) ?_;have key:∀(E:List Evn) (r:Nat) (x y:AC),r<=1->E.length<=2->(∀e∈E,e.kind<=6)->(Bc c E).o3=true->((Bc c E).aJ=true->r=1)->k<120->x= .view kPt (E.map evR)->y=I ((s+r:Nat):Int)->
   Out (fun o=>(o.1=0/\∃s':Nat×Nat×Cv,o.2= .view Aa v0:: .view Ai (K.aA.map Ag):: .view kPt (K.p.aD.map Aq)::I (s'.1:Int)::I (s'.2.1:Int)::Ad K s'.2.2/\(s'.1<=s'.2.1/\s'.2.1<=120/\Gd K s'.2.1 s'.2.2/\Sg K s'.2.2 s'.1)/\120-s'.2.1<120-k)\/(o.1≠0/\o=(2,[])))
    (O0 MS K c (An (LL M0 MS M2 M3 M4 M5 M6 M7)) v0 (K.aA.map Ag) (K.p.aD.map Aq) k x y):=by
  intro E r x y hr hE hk ho hres hk2 hx hy;subst hx hy;have calm:NT E:=⟨by omega,fun e he=>by have:=hk e he;omega⟩;have gs:=Q5c h g (by omega) E;have ss:=Q7p h mk g (by omega) sg hk ho hres;have ps:=Zg5 K c E;have few:=Zpc h mk ss;rw[ps.1]at few;refine .bind (p:=fun o=>o=_) ⟨_,hS c k E g (by omega) calm,rfl⟩ fun o e=> ?_;subst e;have ht:∃a b m x y z sp f,tkC K c E=[AC.view kPt a, .view Aa b,I m,I (A5 K (stC K c E).2),I x,I y,I z,I sp,I f]:=⟨_,_,_,_,_,_,_,_,rfl⟩;obtain⟨a,b,m,x,y,z,sp,f,et⟩:=ht;rw[et];generalize A5 K (stC K c E).2=S at*;generalize B4 K c E=d at*;refine .bind (p:=fun o=>o=_) (Zjr (M0:=M0) (M1:=MS) (M2:=M2) (M3:=M3) (M4:=M4) (M5:=M5) (M6:=M6) (M7:=M7) (v0:=v0) (v9:=a) (v10:=b) (v3:=((s+r:Nat):Int)) (v4:=k) (v11:=m) (S:=S) (v13:=x) (v14:=y) (v15:=z) (v16:=sp) (v17:=f) (c:=d) mm h.count hM) fun o e=> ?_;subst e;refine .cond (fun _=> ?_) fun e=>by cases e
  refine .cond (fun e=> ?_) fun _=> ?_
  ·have e:((Fk K S K.p.aD.length:Nat):Int)>((s+r:Nat):Int):=Bg e;omega
  ·have e1:wrap .i64 ((k:Int)+1)=((k+1:Nat):Int):=by rw[Ae (by omega)];omega
   refine .some (.inl ⟨rfl,(s+r,k+1,d),?_,⟨by dsimp only;omega,by dsimp only;omega,?_,ss⟩,by dsimp only;omega⟩)
   ·show _= .view Aa v0:: .view Ai (K.aA.map Ag):: .view kPt (K.p.aD.map Aq)::I ((s+r:Nat):Int)::I ((k+1:Nat):Int)::Ad K d;rw[<-e1];rfl
   ·have:(k:Int)+1=((k+1:Nat):Int):=by omega
    rw[<-this];exact gs
 have one:(Bc c [⟨0,5,1⟩]).o3=true/\(Bc c [⟨0,5,1⟩]).aJ=false:=⟨rfl,rfl⟩;have two:(Bc c [⟨0,5,1⟩,⟨0,4,0⟩]).o3=true:=rfl;have w1:s<=120->wrap .i64 ((s:Int)+1)=((s+1:Nat):Int):=fun _=>by rw[Ae (by omega)];omega
 refine .cond (fun c1=> ?_) fun _=> .some (.inr ⟨by simp,rfl⟩);have c1:(k:Int)<120:=Bg c1;have k1:=fun hx hy=>key [⟨0,5,1⟩] 0 (.view kPt [[I 0,I 5,I 1]]) (I s) (by omega) (by simp) (by simp) one.1 (fun e=>by rw[one.2]at e;cases e) (by omega) hx hy;refine .cond (fun c2=> ?_) fun _=>k1 rfl rfl;refine .cond (fun _=> ?_) fun e=>(inB (by omega) (Bg c2) e).elim;refine .cond (fun _=> ?_) fun _=>k1 rfl rfl;exact key [⟨0,5,1⟩,⟨0,4,0⟩] 1 _ _ (by omega) (by simp) (by simp) two (fun _=>rfl) (by omega) rfl (by rw[<-w1 (by omega)])
theorem Q16 {M0 MS MP MN MI MQ MF MV:Fn} {K:Kf} {x0 x1 x2 x3:Rw}
  (hV:MV []=some [B true]) {q:Bool} (hF:MF [.view Aa x0, .view Aa x1, .view Aa x2, .view Aa x3]=some [B q])
  (hyp : q = true -> KOK K /\ MarksOK K /\ To K /\ MQ [.view Aa x1, .view Aa x2] = some (AO K.x ++ [I K.pa, I K.pb, I K.pc, I K.ramp, I K.lag]) /\ MI [.view Aa x0, I 7, B true] = some [.view Ai (K.aA.map Ag)] /\
   MN (AO K.x++[I K.pa,I K.pb,I K.pc,I K.ramp,I K.lag]++[.view Ai (K.aA.map Ag),B true])=some (I 0::Ad K BM))
  (hM:∀k:Int,M0 [I k]=some [B (decide (1<=k/\k<=6))]) (hP:KOK K->∀c:Cv,MP (Ad K c)=some (Br K.p++Ad K c))
  (hS:KOK K->∀(c:Cv) (n:Int) (E:List Evn),Gd K n c->0<=n/\n<=10000->NT E->MS (.view kPt (E.map evR)::Ad K c)=some (tkC K c E++Ad K (B4 K c E))):
  Qjw M0 MS MP MN MI MQ MF MV (An (LL M0 MS MP MN MI MQ MF MV)) (An (SI M0 MS MP MN MI MQ MF MV (An (LL M0 MS MP MN MI MQ MF MV)))) [.view Aa x0, .view Aa x1, .view Aa x2, .view Aa x3]=some [B true]:=by
 rw[Z0f];refine eB hV (eF rfl (eB hF ?_));cases q
 ·rfl
 obtain⟨h,mk,mm,hQ,hI,hN⟩:=hyp rfl;refine eF rfl (eB hQ (eB hI (eB hN (eF rfl (eB (hP h BM) ?_)))));refine eF (bnF (show((K.p.aD.map Aq).length:Int)=((K.aA.map Ag).length:Int) by rw[List.length_map,List.length_map,mm.1])) (eB (hP h BM) ?_);obtain⟨o,hl,rfl⟩:=Zu8 (M0:=M0) (M2:=MP) (M3:=MN) (M4:=MI) (M5:=MQ) (M6:=MF) (M7:=MV) (v0:=x3) h mk mm hM (hS h);exact eB hl (eF rfl (eT rfl rfl))
theorem Z1v {x0 x1 x2 x3:Rw} (h0:Src x0) (h1:Src x1) (h2:Src x2) (h3:Src x3):
  Qt9 [.view Aa x0, .view Aa x1, .view Aa x2, .view Aa x3]=some [B true]:=by
 obtain⟨q,hF,hq⟩:=Zqs x0 x1 x2 x3;cases q
 ·exact Q16 (K:=kX []) (MS:=Hm) Qyz hF (fun h=>by cases h) Qzx Q57 (fun h c n E g hn hE=>Ql h g hn hE)
 ·obtain⟨l0,l1,l2,l3⟩:=hq rfl;obtain⟨K,hK,mk,mm,hQ,hI,hN⟩:=Z1c h0 h1 h2 (by omega) (most:=7) (by omega) true;exact Q16 (K:=K) Qyz hF (fun _=>⟨hK,mk,mm,hQ,hI,hN⟩) Qzx Q57 (fun h c n E g hn hE=>Ql h g hn hE)
end Go.Bm
namespace Go.Bm
theorem Q8s {r:List AC} (h:okR Aa r):i64 (Af (nth .dead r 0)):=by
 match r,h with
 |[],h=>exact h.elim
 |a::_,h=>exact Zip h.1
theorem R9 {r:List AC} (h:okR [Kd.sl Aa] r):Src (Ce (nth .dead r 0)):=by
 match r,h with
 |[],h=>exact h.elim
 |a::_,h=>
  have h1:=h.1;unfold okC at h1;refine⟨?_,fun c hc=>Q8s (h1.2 c hc).1⟩;have h2:=h1.1;simp only[maxLen]at h2;show(Ce a).length<=_;omega
end Go.Bm
