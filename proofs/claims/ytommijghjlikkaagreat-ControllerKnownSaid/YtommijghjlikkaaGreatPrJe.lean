/- laid together -/
import Derived.Test.YtommijghjlikkaaGreatPrKe
import Derived.Test.YtommijghjlikkaaGreatPrCw
import Derived.Test.YtommijghjlikkaaGreatMx3
import Derived.Test.YtommijghjlikkaaGreatPrTc
import Derived.Test.YtommijghjlikkaaGreatMy1
set_option linter.unusedVariables false
set_option linter.unusedSimpArgs false
set_option maxRecDepth 100000
open Go.IntKind (wrap)
namespace Go.Bm
theorem Zpm {M1 M2 M3 M4 M5 M6 M7:Fn} (h1:∀x b,(M1 [U x,B b]).isSome=true) (h2:∀x y b c,(M2 [I x,I y,B b,B c]).isSome=true) (h3:∀x y,(M3 [I x,I y]).isSome=true)
  (h4:∀{hi lo y:Nat},hi<y->y<w64->lo<w64->(M4 [U hi,U lo,U y]).isSome=true) (h5:∀{x y:Nat},x<w64->y<w64->M5 [U x,U y]=some [U ((x*y/w64:Nat):Int),U ((x*y%w64:Nat):Int)])
  (h6:∀{x:Int},i64 x->M6 [I x]=some [U (x.natAbs:Int)]) (h7:∀x,(M7 [I x]).isSome=true) {a b c:Int} (ha:i64 a) (hb:i64 b) (hc:i64 c) (m:Int):
  (Sj M1 M2 M3 M4 M5 M6 M7 [I a,I b,I c,I m]).isSome=true:=by
 have hw:∀{x:Int},i64 x->x.natAbs<w64:=by
  intro x hx;unfold i64 at hx;rw[BT];omega
 rw[Qzx,h6 ha,h6 hb,h6 hc];refine B5 (λ_=>rfl) λ_=>FD (h7 _) λ_ _=>B5 (λ_=>rfl) λ_=> ?_;simp only[af,gA,wA,bA,jA,nth,Ag];rw[h5 (hw ha) (hw hb)];simp only[af,gA,wA,bA,jA,nth,Ag];refine B5 (λ_=>rfl) λc0=> ?_;have c0:=Bq c0;have hlo:a.natAbs*b.natAbs%w64<w64:=Nat.mod_lt _ (by rw[BT];decide);refine FD (h4 (by omega) (hw hc) hlo) λ_ _=>FD (h3 _ _) λ_ _=> ?_
 repeat' first|exact rfl|exact h1 _ _|exact h2 _ _ _ _|exact h3 _ _|refine B5 (λ_=> ?_) (λ_=> ?_)|refine FD ?_ λ_ _=> ?_
theorem Z2i (x:Int) (b:Bool):(Fk [U x,B b]).isSome=true:=by
 show(Qa5 [U x,B b]).isSome=true;rw[Xg]
 repeat' first|exact rfl|refine B5 (λ_=> ?_) (λ_=> ?_)
theorem Zji (x y:Int) (b c:Bool):(Hs [I x,I y,B b,B c]).isSome=true:=by
 show(VY [I x,I y,B b,B c]).isSome=true;rw[Qx9]
 repeat' first|exact rfl|refine B5 (λ_=> ?_) (λ_=> ?_)
theorem Zln (x y:Int):(Fqs [I x,I y]).isSome=true:=by
 show(Xx [I x,I y]).isSome=true;rw[Q8h]
 repeat' first|exact rfl|refine B5 (λ_=> ?_) (λ_=> ?_)
theorem Zc6 (x:Int):(FQ [I x]).isSome=true:=by
 show(Uu [I x]).isSome=true;rw[Q5b]
 repeat' first|exact rfl|refine B5 (λ_=> ?_) (λ_=> ?_)
theorem Xf {a b c:Int} (ha:i64 a) (hb:i64 b) (hc:i64 c) (m:Int):(Bz [I a,I b,I c,I m]).isSome=true:=
 Zpm Z2i Zji Zln (λh1 h2 h3=>by rw[Qx6 h1 h2 h3];rfl) (λh1 h2=>Qvw h1 h2) (λh=>Iu h) Zc6 ha hb hc m
theorem Th (x:Int):i64 (wrap .i64 x):=Zit x
theorem Q74 {M:Fn} {l:List AC} (h:(M l).isSome=true) {f:List AC->List AC}:((M l).bind λo=>some (f o)).isSome=true:=FD h λ_ _=>rfl
theorem Qtc {a b:Int} (ha:i64 a) (hb:i64 b):(Qu [I a,I b]).isSome=true:=by
 show(Qox Bz [I a,I b]).isSome=true;have h:=Xf ha hb (show i64 4096 by unfold i64;omega) 0;generalize Bz=M at*;rw[Zgt];exact Q74 h
theorem Qq4 {a:Int} (ha:i64 a):(Fh [I a]).isSome=true:=by
 show(S2 Bz [I a]).isSome=true;have h:=Xf ha (show i64 1048576 by unfold i64;omega) (show i64 60000 by unfold i64;omega) 2;generalize Bz=M at*;rw[Qxz];exact Q74 h
theorem Qq5 (a b:Int):∃v,Qn [I a,I b]=some [I v]/\i64 v:=by
 refine⟨mx (wrap .i64 (a-b)) (wrap .i64 (b-a)),?_,?_⟩
 ·show Qom [I a,I b]=_;rw[Zkj]
 ·have h1:=Th (a-b);have h2:=Th (b-a)
  unfold mx;split<;>assumption
theorem Qqc (a:Int):(GU [I a]).isSome=true:=by
 show(VU [I a]).isSome=true;rw[Z4l]
 repeat' first|exact rfl|refine B5 (λ_=> ?_) (λ_=> ?_)
theorem Zpw {a b:Int} (hb:b≠0):(JL [I a,I b]).isSome=true:=by
 show(Qcw [I a,I b]).isSome=true;rw[Zxw];refine B5 (λc=>absurd (Bt c) hb) λ_=>B5 (λc=>absurd (Bt c) hb) λ_=>B5 (λ_=>rfl) λ_=>rfl
theorem Zxv (x0 x1 x2 x3 x4:Int) {x5:Int} (h5:i64 x5):(LU [I x0,I x1,I x2,I x3,I x4,I x5]).isSome=true:=by
 show(Qi1 Fh GU [I x0,I x1,I x2,I x3,I x4,I x5]).isSome=true;have h:=Qq4 h5;have h2:=Qqc x4;generalize Fh=M at*;generalize GU=N at*;rw[Z3j]
 repeat' first|exact rfl|exact h|exact h2|refine B5 (λ_=> ?_) (λ_=> ?_)|refine FD ?_ λ_ _=> ?_
theorem Z1o (x0 x1 x2 x3 x4:Int) {x5:Int} (h5:i64 x5):(Ne [I x0,I x1,I x2,I x3,I x4,I x5]).isSome=true:=by
 show(Qkv Fh GU [I x0,I x1,I x2,I x3,I x4,I x5]).isSome=true;have h:=Qq4 h5;have h2:=Qqc x4;generalize Fh=M at*;generalize GU=N at*;rw[Zzc]
 repeat' first|exact rfl|exact h|exact h2|refine B5 (λ_=> ?_) (λ_=> ?_)|refine FD ?_ λ_ _=> ?_
structure Plan3 (a b c : Int) : Prop where
 a:1<=a/\a<=65536
 b:2<=b/\b<=65536
 c:1<=c/\c<=16777216
abbrev Eh (m0 m1 m3 m4 v:Int):List AC:=[I (wrap .i64 (m0+v)),I v,I (wrap .i64 (v-m1)),I m0,I m3,I m4]
theorem RW (m0 m1 m2 m3 m4 m5 v:Int):I2 [I m0,I m1,I m2,I m3,I m4,I m5,I v]=some (Eh m0 m1 m3 m4 v):=by
 show Qk6 [I m0,I m1,I m2,I m3,I m4,I m5,I v]=some (Eh m0 m1 m3 m4 v);rw[Zoe]
theorem C1 (a:AC) (l:List AC):nth .dead (a::l) 0=a:=rfl
theorem El (a:AC) (l:List AC) (n:Nat):nth .dead (a::l) (n+1)=nth .dead l n:=rfl
theorem DF (n:Int):Ag (.int .i64 n)=n:=rfl
theorem Zee {M:Fn} {p:Pth} {x:Ax3} {t:Trk} (hM:∀u,(M (pxt p x t [I u])).isSome=true) (ht:0<=t.length/\t.length<=900000000000000) (u1 u2:Int) (hd:u2-u1<=1000000000000):
  (Qls M (Am (Z4 M)) (pxt p x t [I u1,I u2])).isSome=true:=by
 rw[Zoh];have h1:0<=mx 0 (mn u1 t.length)/\mx 0 (mn u1 t.length)<=t.length/\mx 0 (mn u2 t.length)-mx 0 (mn u1 t.length)<=1000000000000/\mx 0 (mn u2 t.length)<=t.length:=by
  unfold mx mn
  (repeat' split)<;>omega
 obtain⟨k1,k2,k3,k4⟩:=h1;generalize mx 0 (mn u1 t.length)=f at*;generalize mx 0 (mn u2 t.length)=e at*;refine FD (hM _) λo _=> ?_;refine Out.is (p:=λ_=>True) ?_;refine .bind (p:=λo=>o.1=1) ?_ λo g=>by rw[g];exact .some trivial
 show Out _ (Am _ (.view kPt []::I e::I f::pxt p x t [I (gA o 0),I (gA o 1),I (gA o 2)]));generalize gA o 0=w0;generalize gA o 1=w1;generalize gA o 2=w2;refine CX (λs:Rw×Int×Int×Int×Int=> .view kPt s.1::I e::I s.2.1::pxt p x t [I s.2.2.1,I s.2.2.2.1,I s.2.2.2.2]) (λs=>f<=s.2.1/\s.2.1<=t.length/\(s.1.length:Int)<=3*(s.2.1-f)) (λs=>(e-s.2.1).toNat) _ ?_ ([],f,w0,w1,w2) (by simp;omega);rintro⟨v,u,a0,a1,a2⟩ ⟨q1,q2,q3⟩;dsimp only at*;rw[Zyw];try dsimp only[OZ]
 rw[Ae (x:=u+1) (by omega)];refine .cond (λc=> ?_) (λ_=> .some (.inr ⟨by simp,rfl⟩));have c:=Bt c;refine .ibind (hM _) λo _=> ?_
 repeat' first
  |(refine .cond (λ_=> ?_) λc=>by rw[B_ (by simp;omega)]at c;cases c)
  |refine .cond (λ_=> ?_) (λ_=> ?_)
 all_goals refine Out.some (Or.inl ⟨rfl,(_,u+1,_,_,_),rfl,by simp;omega,by show(e-(u+1)).toNat<(e-u).toNat;omega⟩)
theorem Zpu {p:Pth} {x:Ax3} {t:Trk} (h:Fix p x t) (u1 u2:Int) (hd:u2-u1<=1000000000000):(Lf (pxt p x t [I u1,I u2])).isSome=true:=
 Zee (λu=>by rw[W3 h u];rfl) h.t.q.len u1 u2 hd
def BS (k b:Int):Int:=if b<=0 then 0 else(b-1)/k*b-k*((b-1)/k*((b-1)/k+1)/2)
def Cx (j k v a:Int):Prop:= -j<=a/\a<=j/\BS k (-a)<=v/\v<=16777216-BS k a/\(v=0->a<=k)
instance (j k v a:Int):Decidable (Cx j k v a):=by unfold Cx;infer_instance
theorem Q1b {k b:Int} (hk:2<=k/\k<=65536) (hb:0<b/\b<=1048576):
  0<=(b-1)/k/\(b-1)/k<=524288/\k*((b-1)/k)<=b-1/\0<=(b-1)/k*b/\(b-1)/k*b<=549755813888/\0<=(b-1)/k*((b-1)/k+1)/\(b-1)/k*((b-1)/k+1)<=274878431232:=by
 have h0:0<=(b-1)/k:=Int.ediv_nonneg (by omega) (by omega);have h1:k*((b-1)/k)<=b-1:=Int.mul_ediv_self_le (by omega);have h2:2*((b-1)/k)<=k*((b-1)/k):=Int.mul_le_mul_of_nonneg_right hk.1 h0;have h3:(b-1)/k<=524288:=by omega
 have h4:(b-1)/k*b<=524288*1048576:=dq h3 hb.2 (by omega) (by omega);have h5:(b-1)/k*((b-1)/k+1)<=524288*524289:=dq h3 (by omega) (by omega) (by omega);exact⟨h0,h3,h1,Int.mul_nonneg h0 (by omega),by omega,Int.mul_nonneg h0 (by omega),by omega⟩
theorem I3 {k b:Int} (h:b<=0):BS k b=0:=by simp[BS,h]
theorem Q8c {k b:Int} (h:b<=k):BS k b=0:=by
 unfold BS;split
 ·rfl
 ·rw[Int.ediv_eq_zero_of_lt (by omega) (by omega)];simp
theorem Zm5 (m:Int):m*(m+1)/2=(m-1)*m/2+m:=by
 have:m*(m+1)=(m-1)*m+m*2:=by
  rw[Int.sub_mul,Int.mul_add,Int.mul_one,Int.one_mul];omega
 rw[this,Int.add_mul_ediv_right _ _ (by omega)]
theorem Qiv {k b:Int} (hk:0<k) (h:k<b):BS k b=(b-k)+BS k (b-k):=by
 have e1:(b-1)/k=(b-k-1)/k+1:=by
  have:b-1=(b-k-1)+k*1:=by omega
  rw[this,Int.add_mul_ediv_left _ _ (by omega)]
 unfold BS;rw[ab (by omega),ab (by omega),e1];generalize(b-k-1)/k=m;rw[Zm5 (m+1)];have e2:m+1-1=m:=by omega
 rw[e2,Int.mul_add k,Int.add_mul m 1 b,Int.mul_sub m b k,Int.mul_add k m 1,Int.mul_comm k m];omega
theorem Qv8 {k:Int} (hk:0<k):∀(n:Nat) (b:Int),b<=n->0<=BS k b
 |0,b,h=>by rw[I3 (by omega)];omega
 |n+1,b,h=>by
  by_cases hb:b<=k
  ·rw[Q8c hb];omega
  ·rw[Qiv hk (by omega)];have:=Qv8 hk n (b-k) (by omega);omega
theorem JY {k b:Int} (hk:0<k):0<=BS k b:=Qv8 hk b.toNat b (by omega)
theorem Q4b {k b:Int} (hk:2<=k/\k<=65536) (hb:b<=1048576):BS k b<=549755813888:=by
 unfold BS;split
 ·omega
 ·have p:=Q1b (k:=k) (b:=b) hk ⟨by omega,hb⟩;generalize(b-1)/k=m at p⊢;obtain⟨p1,p2,p3,p4,p5,p6,p7⟩:=p;have q1:0<=k*(m*(m+1)/2):=Int.mul_nonneg (by omega) (by omega);omega
def bs (k v:Int):Nat->Int->Int->Int
 |0,low,_=>low
 |n+1,low,high=>if low<high then
   if BS k (high-(high-low)/2)<=v-(high-(high-low)/2)then bs k v n (high-(high-low)/2) high else bs k v n low (high-(high-low)/2-1)
  else low
def AF (j k v a:Int):Int:= -(bs k v 20 (-a-k) (min (k-a) j))
theorem WU (k v:Int):∀(n:Nat) (low high:Int),low<=bs k v n low high/\bs k v n low high<=max low high
 |0,low,high=>by simp only[bs];omega
 |n+1,low,high=>by
  unfold bs;split
  ·split
   ·have:=WU k v n (high-(high-low)/2) high;omega
   ·have:=WU k v n low (high-(high-low)/2-1);omega
  ·omega
theorem Qfd (k v:Int):∀(n:Nat) (low high:Int),low<=high->high-low<2^n->BS k low<=v-low->
  BS k (bs k v n low high)<=v-bs k v n low high/\low<=bs k v n low high/\bs k v n low high<=high/\(bs k v n low high=high\/v-(bs k v n low high+1)<BS k (bs k v n low high+1))
 |0,low,high,h1,h2,h3=>by
  simp only[bs];have:high-low<1:=by simpa using h2
  exact⟨h3,by omega,h1, .inl (by omega)⟩
 |n+1,low,high,h1,h2,h3=>by
  have hp:(2:Int)^(n+1)=2*2^n:=by rw[Int.pow_succ];omega
  unfold bs;by_cases hlt:low<high
  ·rw[aa hlt];by_cases hc:BS k (high-(high-low)/2)<=v-(high-(high-low)/2)
   ·rw[aa hc];obtain⟨a,b,c,d⟩:=Qfd k v n (high-(high-low)/2) high (by omega) (by omega) hc;exact⟨a,by omega,c,d⟩
   ·rw[ab hc];obtain⟨a,b,c,d⟩:=Qfd k v n low (high-(high-low)/2-1) (by omega) (by omega) h3;refine⟨a,b,by omega, .inr ?_⟩;rcases d with d|d
    ·have e:bs k v n low (high-(high-low)/2-1)+1=high-(high-low)/2:=by omega
     rw[e];omega
    ·exact d
  ·rw[ab hlt];exact⟨h3,by omega,h1, .inl (by omega)⟩
theorem XM {j k r v a:Int} (hp:Plan3 j k r) (hr:Cx j k v a) {B:Int} (hB:B=bs k v 20 (-a-k) (min (k-a) j)):
  BS k B<=v-B/\ -a-k<=B/\B<=k-a/\B<=j/\(B=min (k-a) j\/v-(B+1)<BS k (B+1))/\0<=v:=by
 obtain⟨⟨p1,p2⟩,⟨p3,p4⟩,p5,p6⟩:=hp;obtain⟨h1,h2,h3,h4,h5⟩:=hr;have hk:0<k:=by omega
 have l0:=JY (b:= -a) hk;have hlow:BS k (-a-k)<=v-(-a-k):=by
  by_cases hc:k< -a
  ·rw[Qiv hk hc]at h3;omega
  ·rw[I3 (by omega)];omega
 obtain⟨q1,q2,q3,q4⟩:=Qfd k v 20 (-a-k) (min (k-a) j) (by omega) (by simp;omega) hlow;rw[<-hB]at q1 q2 q3 q4;exact⟨q1,q2,by omega,by omega,q4,by omega⟩
theorem closed {j k r v a:Int} (hp:Plan3 j k r) (hr:Cx j k v a):
  Cx j k (v+AF j k v a) (AF j k v a)/\AF j k v a-a<=k/\a-AF j k v a<=k/\(0<a\/(v=0/\AF j k v a=0)\/AF j k v a<0):=by
 obtain⟨B,hB⟩:∃B,B=bs k v 20 (-a-k) (min (k-a) j):=⟨_,rfl⟩;have hb:AF j k v a= -B:=by unfold AF;rw[hB]
 obtain⟨q1,q2,q3,q4,q5,q6⟩:=XM hp hr hB;rw[hb];obtain⟨⟨p1,p2⟩,⟨p3,p4⟩,p5,p6⟩:=hp;obtain⟨h1,h2,h3,h4,h5⟩:=hr;have hk:0<k:=by omega
 have top:B+1<=0->B=min (k-a) j:=by
  intro h;rcases q5 with q5|q5
  ·exact q5
  ·rw[I3 h]at q5;omega
 have hB0: -a<=B\/0<=B:=by
  by_cases hn:B+1<=0
  ·have:=top hn;omega
  ·right;omega
 have hneg:a<=0->0<=B:=λha=>by
  by_cases hn:B+1<=0
  ·have:=top hn;omega
  ·omega
 have la:=JY (b:=a) hk;have hjB: -j<=B:=by
  by_cases hn:B+1<=0
  ·have:=top hn;omega
  ·omega
 have e1: -(-B)=B:=by omega
 refine⟨⟨by omega,by omega,by rw[e1];omega,?_,?_⟩,by omega,by omega,?_⟩
 ·by_cases hn:0<=B
  ·rw[I3 (b:= -B) (by omega)];omega
  ·have ht:=top (by omega);have hka:B=k-a:=by omega
   have e2: -B=a-k:=by omega
   have hs:=Qiv (k:=k) (b:=a) hk (by omega);rw[e2];omega
 ·intro hv;omega
 ·by_cases ha:0<a
  ·exact .inl ha
  ·right;have hB1:=hneg (by omega);by_cases hv:v=0
   ·left;have:=JY (b:=B) hk;exact⟨hv,by omega⟩
   ·right;by_cases hz:B=0
    ·rcases q5 with q5|q5
     ·omega
     ·rw[hz,Q8c (k:=k) (b:=0+1) (by omega)]at q5;omega
    ·omega
def BF (j k:Int):Nat->Int->Int->List Int×Bool
 |0,v,_=>([],decide (v<=0))
 |n+1,v,a=>if v<=0 then([],true)else((v+AF j k v a)::(BF j k n (v+AF j k v a) (AF j k v a)).1,(BF j k n (v+AF j k v a) (AF j k v a)).2)
theorem Q2f (j k:Int):∀(n:Nat) (v a:Int),(BF j k n v a).2=true->BF j k (n+1) v a=BF j k n v a
 |0,v,a,h=>by
  have h:v<=0:=of_decide_eq_true h;unfold BF;rw[aa h];show([],true)=([],decide (v<=0));rw[an h]
 |n+1,v,a,h=>by
  unfold BF at h⊢;by_cases c:v<=0
  ·rw[aa c,aa c]
  ·rw[ab c]at h;rw[ab c,ab c,Q2f j k n _ _ h]
theorem Fd {j k r v a:Int} (hp:Plan3 j k r) (hr:Cx j k v a): -65536<=a/\a<=65536/\0<=v/\v<=16777216:=by
 obtain⟨h1,h2,h3,h4,-⟩:=hr;have p1:=hp.a;have p2:=hp.b
 have q1:=JY (k:=k) (b:=a) (by omega);have q2:=JY (k:=k) (b:= -a) (by omega);omega
end Go.Bm
noncomputable section
namespace Go.Bm
theorem Q95 {a k c:Int} (hk:2<=k/\k<=65536) {d:Int} (hd:d<=1048576):Hl [I a,I k,I c,I d]=some [I (BS k d)]:=by
  show Sc _=_;rw[Zn];by_cases h:d<=0
  · rw[Bx (an h),I3 h]
  · rw[Bk (ap h),Bk (ap (by omega)),Bk (ap (by omega))]
    obtain⟨p1,p2,p3,p4,p5,p6,p7⟩:=Q1b hk (show 0<d/\d<=1048576 by omega);rw[Ae (x:=d-1) (by omega),bj (show 0<=d-1 by omega)];unfold BS;rw[ab h];have hm:0<=k*((d-1)/k*((d-1)/k+1)/2):=Int.mul_nonneg (by omega) (by omega);have hm2:k*((d-1)/k*((d-1)/k+1)/2)<=65536*274878431232:=dq hk.2 (by omega) (by omega) (by omega);generalize hq:(d-1)/k=q at*;rw[Ae (x:=q) (by omega),Ae (x:=q*d) (by omega),Ae (x:=q+1) (by omega),Ae (x:=q*(q+1)) (by omega),bj p6];generalize q*(q+1)=y at*;generalize q*d=z at*;rw[Ae (x:=y/2) (by omega),Ae (x:=k*(y/2)) (by omega),Ae (by omega)]
theorem Zvu {M:Fn} {a k c:Int} (hp:Plan3 a k c) (hM:∀{d:Int},d<=1048576->M [I a,I k,I c,I d]=some [I (BS k d)]) (v x:Int):Py M [I a,I k,I c,I v,I x]=some [B (decide (Cx a k v x))]:=by
  have ha:=hp.a;have hk:=hp.b
  rw[Qjn,Ae (x:=0-a) (by omega)];refine eC (λh=> ?_) λh=> ?_
  · have h:x<0-a:=Bt h
    rw[ap (λq=>by have:=q.1;omega)]
  have h: ¬x<0-a:=Bq h;refine eC (λh2=> ?_) λh2=> ?_
  · have h2:x>a:=Bt h2
    rw[ap (λq=>by have:=q.2.1;omega)]
  have h2: ¬x>a:=Bq h2;have l1:=Q4b (b:= -x) hk (by omega);have l2:=Q4b (b:=x) hk (by omega);have l3:=JY (k:=k) (b:=x) (by omega);have fin: ¬(v=0/\x>k)->((M [I a,I k,I c,I (wrap .i64 (0-x))]).bind λo=>bif decide (v>=gA o 0)then(M [I a,I k,I c,I x]).bind λo2=>some [B (decide (v<=wrap .i64 (16777216-gA o2 0)))]else some [B false])=some [B (decide (Cx a k v x))]:=λhz=>by
    rw[Ae (x:=0-x) (by omega),show(0:Int)-x= -x by omega];refine eB (hM (by omega)) (eC (λq=> ?_) λq=> ?_)
    · have q:v>=BS k (-x):=Bt q
      refine eB (hM (by omega)) ?_;show some [B (decide (v<=wrap .i64 (16777216-BS k x)))]=_;rw[Ae (by omega)];have e:(v<=16777216-BS k x)↔Cx a k v x:=⟨λe=>⟨by omega,by omega,q,e,λz=>by omega⟩,λe=>e.2.2.2.1⟩;rw[decide_eq_decide.2 e]
    · have q: ¬v>=BS k (-x):=Bq q
      rw[ap (λw=>q w.2.2.1)]
  refine eC (λh0=>eC (λh1=> ?_) λh1=> ?_) λh0=> ?_
  · have h0:v=0:=eq_of_beq h0
    have h1:x>k:=Bt h1;rw[ap (λq=>by have:=q.2.2.2.2 h0;omega)]
  · exact fin λw=>Bq h1 w.2
  · exact fin λw=>by rw[beT w.1]at h0;cases h0
theorem Zer {a k c:Int} (hp:Plan3 a k c) (v x:Int):He [I a,I k,I c,I v,I x]=some [B (decide (Cx a k v x))]:=Zvu hp (λhd=>Q95 hp.b hd) v x
theorem Zkp {k v:Int}:∀(n:Nat) {low high:Int},¬low<high->bs k v n low high=low
  |0,_,_,_=>rfl
  |n+1,_,_,h=>by unfold bs;rw[ab h]
theorem Z5e {M MV:Fn} {a k c v:Int} (hM:∀{d:Int},d<=1048576->M [I a,I k,I c,I d]=some [I (BS k d)]) (hv: -1099511627776<=v/\v<=1099511627776):∀(n:Nat) (low high:Int),high-low<2^n-> -262144<=low->high<=262144->low<=262144-> -262145<=high->
    Am (Lb M MV) [I v,I low,I high,I a,I k,I c]=some (1,[I (bs k v n low high)]):=by
  have endd:∀(n:Nat) {low high:Int},¬low<high->Am (Lb M MV) [I v,I low,I high,I a,I k,I c]=some (1,[I (bs k v n low high)]):=λn low high h=>by
    rw[Zkp n h];refine Bf ?_ (by simp);rw[Qkc,Bk (ap h)]
  intro n;induction n with
  | zero => intro low high h _ _ _ _; exact endd 0 (by have h : high - low < 1 := by simpa using h
                                                       omega)
  |succ n ih=>
    intro low high h h1 h2 h3 h4;have hp:(2:Int)^(n+1)=2*2^n:=by rw[Int.pow_succ];omega
    rw[hp]at h;by_cases cc:low<high
    · have e1:wrap .i64 (high-wrap .i64 ((wrap .i64 (high-low)).tdiv 2))=high-(high-low)/2:=by
        rw[Ae (x:=high-low) (by omega),bj (show 0<=high-low by omega),Ae (x:=(high-low)/2) (by omega),Ae (by omega)]
      have e2:wrap .i64 (v-(high-(high-low)/2))=v-(high-(high-low)/2):=Ae (by omega);have e3:wrap .i64 (high-(high-low)/2-1)=high-(high-low)/2-1:=Ae (by omega);have hs:=Qkc M MV v low high a k c;rw[Bx (an cc),e1,e2,e3,hM (by omega)]at hs;unfold bs;rw[aa cc];by_cases q:BS k (high-(high-low)/2)<=v-(high-(high-low)/2)
      · rw[aa q]
        rw[BC (hs.trans (eB rfl (eT (an (show v-(high-(high-low)/2)>=BS k (high-(high-low)/2)from q)) rfl)))];exact ih _ _ (by omega) (by omega) (by omega) (by omega) (by omega)
      · rw[ab q]
        rw[BC (hs.trans (eB rfl (eF (ap (show¬v-(high-(high-low)/2)>=BS k (high-(high-low)/2)from q)) rfl)))];exact ih _ _ (by omega) (by omega) (by omega) (by omega) (by omega)
    · exact endd (n+1) cc
theorem Zwo {M MV:Fn} {a k c v x:Int} (hp:Plan3 a k c) (hr:Cx a k v x) (hM:∀{d:Int},d<=1048576->M [I a,I k,I c,I d]=some [I (BS k d)]) (hV:MV [I a,I k,I c]=some [B true]):
    Tq M MV (Am (Lb M MV)) [I a,I k,I c,I v,I x]=some [I (AF a k v x)]:=by
  have hrg:=Fd hp hr;have ha:=hp.a;have hk:=hp.b
  rw[Qya];have m1:mx x v=max x v:=by unfold mx;split<;>omega
  have m2:mn x v=min x v:=by unfold mn;split<;>omega
  rw[m1,m2];refine eB hV (eF rfl (eF (ap (by omega)) (eF (ap (by omega)) ?_)));have m3:mn (wrap .i64 (k-x)) a=min (k-x) a:=by rw[Ae (x:=k-x) (by omega)];unfold mn;split<;>omega
  rw[m3,Ae (x:=0-x) (by omega),Ae (x:=0-x-k) (by omega),show(0:Int)-x-k= -x-k by omega];refine eB (Z5e (MV:=MV) hM (by omega) 20 (-x-k) (min (k-x) a) (by simp;omega) (by omega) (by omega) (by omega) (by omega)) (eT rfl ?_);have hb:=WU k v 20 (-x-k) (min (k-x) a);show some [I (wrap .i64 (0-bs k v 20 (-x-k) (min (k-x) a)))]=_;unfold AF;rw[Ae (by omega),Int.zero_sub]
theorem Qs9 {a k c:Int} (hp:Plan3 a k c):Fe [I a,I k,I c]=some [B true]:=by
  rw[Q3,an];exact⟨hp.a.1,hp.a.2,hp.b.1,hp.b.2,hp.c.1,hp.c.2⟩
theorem Q6d {a k c v x:Int} (hp:Plan3 a k c) (hr:Cx a k v x):Fq [I a,I k,I c,I v,I x]=some [I (AF a k v x)]:=
  Zwo hp hr (λhd=>Q95 hp.b hd) (Qs9 hp)
def AG (a k v x:Int):List Int×Bool:=if Cx a k v x/\(BF a k 4096 v x).2=true then((BF a k 4096 v x).1,true)else([],false)
theorem Zsq {MB MR MV:Fn} {a k c:Int} (hp:Plan3 a k c) (hB:∀{v x:Int},Cx a k v x->MB [I a,I k,I c,I v,I x]=some [I (AF a k v x)]):∀(n:Nat) (pre:List Int) (v x:Int),pre.length+n=4096->Cx a k v x->
  Am (It MB MR MV) [.view Aa (pre.map Aq),I v,I x,I a,I k,I c]=if(BF a k n v x).2=true then some (2,[.view Aa ((pre++(BF a k n v x).1).map Aq)])else some (1,[B false]):=by
 have fin:∀(n:Nat) (pre:List Int) (v x:Int),v<=0->Am (It MB MR MV) [.view Aa (pre.map Aq),I v,I x,I a,I k,I c]=if(BF a k n v x).2=true then some (2,[.view Aa ((pre++(BF a k n v x).1).map Aq)])else some (1,[B false]):=λn pre v x h=>by
  have e:BF a k n v x=([],true):=by
   cases n with
   |zero=>show([],decide (v<=0))=([],true);rw[an h]
   |succ n=>unfold BF;rw[aa h]
  rw[e,aa rfl];refine Bf ?_ (by simp);rw[PU,Bk (ap (by omega)),List.append_nil]
 intro n;induction n with
 |zero=>
  intro pre v x hl hr;by_cases h:v<=0
  ·exact fin 0 pre v x h
  ·have e:BF a k 0 v x=([],false):=by show([],decide (v<=0))=([],false);rw[ap h]
   rw[e,ab (by simp)];refine Bf ?_ (by simp);rw[PU,Bx (an (by omega)),Bx (beT (by rw[ag];omega))]
 |succ n ih=>
  intro pre v x hl hr;by_cases h:v<=0
  ·exact fin (n+1) pre v x h
  ·have hc:=closed hp hr;have hrg:=Fd hp hr;have hrg2:=Fd hp hc.1;have hs:=PU MB MR MV (pre.map Aq) v x a k c;rw[Bx (an (by omega)),Bk (beF (by rw[ag];omega)),hB hr]at hs;have hw:wrap .i64 (v+AF a k v x)=v+AF a k v x:=Ae (by omega);have hs2:It MB MR MV [.view Aa (pre.map Aq),I v,I x,I a,I k,I c]=some (0,[.view Aa ((pre++[v+AF a k v x]).map Aq),I (v+AF a k v x),I (AF a k v x),I a,I k,I c]):=by
    refine hs.trans (eB rfl ?_);show cond ((List.length (pre.map Aq++[[I (wrap .i64 (v+AF a k v x))]])*8).ble 140737488355328) (some (0,[AC.view Aa (pre.map Aq++[[I (wrap .i64 (v+AF a k v x))]]),I (wrap .i64 (v+AF a k v x)),I (AF a k v x),I a,I k,I c])) none=_;rw[hw,B_ (by simp;omega),bt];rfl
   rw[BC hs2,ih (pre++[v+AF a k v x]) _ _ (by simp;omega) hc.1];have e:BF a k (n+1) v x=((v+AF a k v x)::(BF a k n (v+AF a k v x) (AF a k v x)).1,(BF a k n (v+AF a k v x) (AF a k v x)).2):=by
    show(if v<=0 then _ else _)=_;rw[ab h]
   rw[e];simp only[dh,ax,az]
theorem Zpl {MB MR MV:Fn} {a k c:Int} (hp:Plan3 a k c) (hB:∀{v x:Int},Cx a k v x->MB [I a,I k,I c,I v,I x]=some [I (AF a k v x)]) (hV:MV [I a,I k,I c]=some [B true])
  (hR:∀v x,MR [I a,I k,I c,I v,I x]=some [B (decide (Cx a k v x))]) (v x:Int):
  Q1 MB MR MV (Am (It MB MR MV)) [I a,I k,I c,I v,I x]=some [.view Aa ((AG a k v x).1.map Aq),B (AG a k v x).2]:=by
 rw[YL];refine eB hV (eF rfl (eB (hR v x) ?_));unfold AG;refine eC (λh=> ?_) λh=> ?_
 ·have h: ¬Cx a k v x:=by
   intro q;have h:(!decide (Cx a k v x))=true:=h;rw[an q]at h;cases h
  rw[ab (λw=>h w.1)];rfl
 ·have h:Cx a k v x:=by
   have h:(!decide (Cx a k v x))=false:=h;by_cases q:Cx a k v x
   ·exact q
   ·rw[ap q]at h;cases h
  have hl:=Zsq (MR:=MR) (MV:=MV) hp hB 4096 [] v x (by simp) h;by_cases q:(BF a k 4096 v x).2=true
  ·rw[aa q]at hl;rw[aa ⟨h,q⟩];exact eB hl rfl
  ·rw[ab q]at hl;rw[ab (λw=>q w.2)];exact eB hl rfl
theorem Qw6 {a k c:Int} (hp:Plan3 a k c) (v x:Int):J6 [I a,I k,I c,I v,I x]=some [.view Aa ((AG a k v x).1.map Aq),B (AG a k v x).2]:=
 Zpl hp (λhr=>Q6d hp hr) (Qs9 hp) (Zer hp) v x
def BG (u:Int):List Int->List Int
 |[]=>[]
 |v::l=>(u+v)::BG (u+v) l
def BU (u:Int):List Int->Int
 |[]=>u
 |v::l=>BU (u+v) l
theorem Q6s (v:Int):∀(u:Int) (l:List Int),BG u (l++[v])=BG u l++[BU u l+v]
 |_,[]=>rfl
 |u,w::l=>by simp only[ax,BG,BU,Q6s v (u+w) l]
theorem Q31 (v:Int):∀(u:Int) (l:List Int),BU u (l++[v])=BU u l+v
 |_,[]=>rfl
 |u,w::l=>by simp only[ax,BU,Q31 v (u+w) l]
theorem JI:∀(u:Int) (l:List Int),(BG u l).length=l.length
 |_,[]=>rfl
 |u,w::l=>by simp[BG,JI (u+w) l]
theorem Qlq:∀(u:Int) (l:List Int),l≠[]->(BG u l)[(BG u l).length-1]? =some (BU u l)
 |u,[v],_=>rfl
 |u,v::w::l,_=>by
  have h:=Qlq (u+v) (w::l) (by simp);rw[JI]at h⊢;simpa [BG,BU]using h
theorem Qf7 {N:Int}:∀(u:Int) (l:List Int),(∀v∈l,0<=v/\v<=N)->u<=BU u l/\BU u l<=u+l.length*N
 |u,[],_=>by simp[BU]
 |u,v::l,h=>by
  have h1:=h v (by simp);have h2:=Qf7 (N:=N) (u+v) l λw hw=>h w (by simp[hw]);simp only[BU,bf];have e:((l.length+1:Nat):Int)*N=l.length*N+N:=by
   rw[Int.natCast_add,Int.add_mul];simp
  rw[e];omega
theorem Q2v {a k c:Int} (hp:Plan3 a k c):∀(n:Nat) (v x:Int),Cx a k v x->(BF a k n v x).1.length<=n/\∀w∈(BF a k n v x).1,0<=w/\w<=16777216
 |0,v,x,_=>⟨by simp[BF],λw h=>by simp[BF]at h⟩
 |n+1,v,x,h=>by
  have hc:=closed hp h;have h2:=Fd hp hc.1;have ih:=Q2v hp n _ _ hc.1;unfold BF;by_cases q:v<=0
  ·rw[aa q];exact⟨by simp,λw h=>by cases h⟩
  ·rw[ab q];refine⟨by simp only[bf];omega,λw hw=> ?_⟩;rcases ay.1 hw with rfl|hw
   ·omega
   ·exact ih.2 w hw
theorem QF {a k c:Int} (hp:Plan3 a k c) (v x:Int):(AG a k v x).1.length<=4096/\∀w∈(AG a k v x).1,0<=w/\w<=16777216:=by
 unfold AG;split
 ·rename_i h;exact Q2v hp 4096 v x h.1
 ·exact⟨by simp,λw h=>by cases h⟩
theorem Zuo {α:Type} (l:List α) (x y:α) (r:List α):(l++x::r).set l.length y=l++y::r:=by
 rw[List.set_append_right _ _ (bz _)];simp
theorem Zy5 {M:Fn} {sp:List Int} {u:Int} (hu: -1000000000000000<=u/\u<=1000000000000000) (hl:sp.length<=4096) (hsp:∀v∈sp,0<=v/\v<=16777216):
  Am (Hp M) [.view Aa (List.replicate sp.length [I 0]),I u, .view Aa (sp.map Aq),I sp.length,I 0]=some (1,[.view Aa ((BG u sp).map Aq)]):=by
 have key:Out (λo=>o=(1,[.view Aa ((BG u sp).map Aq)])) (Am (Hp M) [.view Aa ((BG u (sp.take 0)).map Aq++List.replicate (sp.length-0) [I 0]),I (BU u (sp.take 0)), .view Aa (sp.map Aq),I sp.length,I ((0:Nat):Int)]):=by
  refine CX (λi:Nat=>[.view Aa ((BG u (sp.take i)).map Aq++List.replicate (sp.length-i) [I 0]),I (BU u (sp.take i)), .view Aa (sp.map Aq),I sp.length,I (i:Int)]) (λi=>i<=sp.length) (λi=>sp.length-i) _ ?_ 0 (by simp);intro i hi;rw[Qn7];refine .cond (λc=> ?_) λc=> ?_
  ·have c:(i:Int)<(sp.length:Int):=Bt c;have hi:i<sp.length:=by omega
   refine .cond (λ_=> ?_) λe=>(inB (by omega) (by rw[ag];exact c) e).elim;refine .cond (λ_=> ?_) λe=>(inB (by omega) (by simp[JI];omega) e).elim;have er:nth [] (sp.map Aq) (i:Int).toNat=Aq sp[i]:=by
    rw[aj,Gz [] _ i (by rw[ag];exact hi),List.getElem_map]
   have eb:=Qf7 (N:=16777216) u (sp.take i) λv hv=>hsp v (de hv);rw[List.length_take_of_le (by omega)]at eb;have hv:=hsp _ (bn hi);have et:sp.take (i+1)=sp.take i++[sp[i]]:=by
    rw[List.take_add_one,ai hi];rfl
   rw[er];show Out _ (some (0,[AC.view Aa (((BG u (sp.take i)).map Aq++List.replicate (sp.length-i) [I 0]).set (i:Int).toNat [I (wrap .i64 (BU u (sp.take i)+sp[i]))]),I (wrap .i64 (BU u (sp.take i)+sp[i])), .view Aa (sp.map Aq),I sp.length,I (wrap .i64 ((i:Int)+1))]));rw[Ae (x:=BU u (sp.take i)+sp[i]) (by omega),Ae (x:=(i:Int)+1) (by omega),aj];refine .some (.inl ⟨rfl,i+1,?_,by omega,by omega⟩);have el:((BG u (sp.take i)).map Aq).length=i:=by rw[ag,JI,List.length_take_of_le (by omega)]
   have es:sp.length-i=(sp.length-(i+1))+1:=by omega
   rw[et,Q6s,Q31,es,List.replicate_succ,bt];have:=Zuo ((BG u (sp.take i)).map Aq) [I 0] [I (BU u (sp.take i)+sp[i])] (List.replicate (sp.length-(i+1)) [I 0]);rw[el]at this;rw[this];simp;rfl
  ·have c: ¬(i:Int)<(sp.length:Int):=Bq c;refine .some (.inr ⟨by simp,?_⟩);rw[List.take_of_length_le (by omega),show sp.length-i=0 by omega];simp
 obtain⟨o,h1,rfl⟩:=key;exact h1
theorem Zyr {M:Fn} {a k c v x:Int} (hS:M [I a,I k,I c,I v,I x]=some [.view Aa ((AG a k v x).1.map Aq),B (AG a k v x).2]) (hb:(AG a k v x).1.length<=4096/\∀w∈(AG a k v x).1,0<=w/\w<=16777216)
  {u:Int} (hu: -1000000000000000<=u/\u<=1000000000000000) (x6 x7 x8:Int) (hz:(AG a k v x).2=false->(AG a k v x).1=[]):
  MY M (Am (Hp M)) [I a,I k,I c,I u,I v,I x,I x6,I x7,I x8]=some [.view Aa ((BG u (AG a k v x).1).map Aq),B (AG a k v x).2]:=by
 rw[SG];generalize AG a k v x=z at*;refine eB hS (eC (λh=> ?_) λh=> ?_)
 ·have h:z.2=false:=by simpa [bA,nth,C7]using h
  rw[h,hz h];rfl
 ·have h:z.2=true:=by simpa [bA,nth,C7]using h
  refine eT (an rfl) (eT ?_ ?_)
  ·show(decide (0<=((z.1.map Aq).length:Int))&&decide (((z.1.map Aq).length:Int)*8<=140737488355328))=true;rw[ag,an (show(0:Int)<=(z.1.length:Int) by omega),an (show(z.1.length:Int)*8<=140737488355328 by omega)];rfl
  ·have hl:=Zy5 (M:=M) hu hb.1 hb.2;refine Eq.trans (congrArg (λq=>Option.bind q _) (show Am (Hp M) [.view Aa (List.replicate ((z.1.map Aq).length:Int).toNat [I 0]),I u, .view Aa (z.1.map Aq),I (z.1.map Aq).length,I 0]=some (1,[.view Aa ((BG u z.1).map Aq)])from by rw[ag,aj];exact hl)) ?_;rw[h];rfl
theorem Q8r {a k c:Int} (hp:Plan3 a k c) {u:Int} (hu: -1000000000000000<=u/\u<=1000000000000000) (v x x6 x7 x8:Int):
  EW [I a,I k,I c,I u,I v,I x,I x6,I x7,I x8]=some [.view Aa ((BG u (AG a k v x).1).map Aq),B (AG a k v x).2]:=
 Zyr (Qw6 hp v x) (QF hp v x) hu x6 x7 x8 λh=>by
  unfold AG at h⊢;split at h
  ·cases h
  ·rename_i q;rw[ab q]
def Jk (j:Int) (l:Rw):Prop:=∀r∈l,-j<=gA r 0/\gA r 0<=j
theorem Jk.snoc {j:Int} {l:Rw} {r:List AC} (h:Jk j l) (hr: -j<=gA r 0/\gA r 0<=j):Jk j (l++[r]):=λx hx=>by
 rcases bm.1 hx with hx|hx
 ·exact h x hx
 ·rw[dm]at hx;subst hx;exact hr
theorem Zmt {j:Int} (hj:0<=j/\j<=65536):Out (λo=>o.1=1/\(wA o.2 0).length<=65536/\Jk j (wA o.2 0)) (Am PV [.view Aa [],I j]):=by
 refine CX (λs:Rw×Int=>[.view Aa s.1,I s.2]) (λs=>0<=s.2/\s.2<=j/\s.1.length+s.2<=65536/\Jk j s.1) (λs=>s.2.toNat) _ ?_ ([],j) ⟨hj.1,cg _,by simp;omega,λr h=>by cases h⟩;rintro⟨v,k⟩ ⟨g1,g0,g2,g3⟩;dsimp only at g0 g1 g2 g3;rw[Zwv,bj g1,Ae (x:=k/2) (by omega)];refine .cond (λc=> ?_) (λc=> ?_)
 ·have c:=Bt c;refine .cond (λ_=> ?_) λc=>by rw[B_ (by simp;omega)]at c;cases c
  exact .some (.inl ⟨rfl,(v++[[I k]],k/2),rfl,⟨by dsimp only;omega,by dsimp only;omega,by simp;omega,g3.snoc (by show-j<=k/\k<=j;omega)⟩,by dsimp only;omega⟩)
 ·exact .some (.inr ⟨by simp,rfl,by show v.length<=65536;omega,g3⟩)
theorem Z29 {j:Int} {N:Lp} {up out:Rw} (hj:0<=j/\j<=65536) (h1:up.length<=65536) (hu:Jk j up) (h2:out.length=up.length+1) (ho:Jk j out):Out (λo=>o.1=1/\(wA o.2 0).length<=140000/\Jk j (wA o.2 0)) (Am (Rj N) [.view Aa up, .view Aa out,I ((up.length:Int)-1)]):=by
 refine CX (λs:Rw×Int=>[.view Aa up, .view Aa s.1,I s.2]) (λs=> -1<=s.2/\s.2<up.length/\s.1.length+s.2<=2*up.length/\Jk j s.1) (λs=>(s.2+1).toNat) _ ?_ (out,(up.length:Int)-1) ⟨by simp only;omega,by simp only;omega,by simp only;omega,ho⟩;rintro⟨v,k⟩ ⟨g1,g2,g3,g4⟩;dsimp only at g1 g2 g3 g4;rw[Ztx,Ae (x:=k-1) (by omega)];refine .cond (λc=> ?_) (λc=> ?_)
 ·have c:=Bt c;refine .cond (λ_=> ?_) λc=>by simp at c;omega
  refine .cond (λ_=> ?_) λc=>by rw[B_ (by simp;omega)]at c;cases c
  have hk: -j<=gA (nth [] up k.toNat) 0/\gA (nth [] up k.toNat) 0<=j:=by
   rw[Gz [] up k.toNat (by omega)];exact hu _ (bn _)
  exact .some (.inl ⟨rfl,(_,k-1),rfl,⟨by dsimp only;omega,by dsimp only;omega,by simp;omega,g4.snoc (by show-j<=wrap .i64 (0-gA (nth [] up k.toNat) 0)/\wrap .i64 (0-gA (nth [] up k.toNat) 0)<=j;rw[Ae (by omega)];omega)⟩,by dsimp only;omega⟩)
 ·have c:=Bq c;exact .some (.inr ⟨by simp,rfl,by show v.length<=140000;omega,g4⟩)
theorem Qsk {j:Int} (hj:0<=j/\j<=65536):Out (λo=>(wA o 0).length<=140000/\Jk j (wA o 0)) (O0 [I j]):=by
 show Out _ (Qik (Am PV) (Am (Rj (Am PV))) [I j]);rw[Zjh];refine .bind (Zmt hj) λo g=> ?_;rw[g.1];obtain⟨-,g2,g3⟩:=g;generalize wA o.2 0=up at*;refine .cond (λ_=> ?_) λc=>by simp at c
 refine .cond (λ_=> ?_) λc=>by rw[B_ (by simp;omega)]at c;cases c
 refine .cond (λ_=> ?_) λc=>by rw[B_ (by simp;omega)]at c;cases c
 rw[Ae (x:=(up.length:Int)-1) (by omega)];refine .bind (Z29 hj g2 g3 (by simp) (by rw[az];exact g3.snoc (by show-j<=0/\0<=j;omega))) λo g=> ?_;rw[g.1];exact .some g.2
def Pe (m0 m1 m3 m4:Int) (Q R:Int->Prop) (o:List AC):Prop:=∃v:Int,o=Eh m0 m1 m3 m4 v/\(Q v\/∃r:Int,v=wrap .i64 (m1+r)/\R r)
theorem Qu3 {MB MS MF MM MR MC:Fn} {p:Pth} {x:Ax3} {t:Trk} {a b c o0 o1:Int} {b0 b1 b2:Bool} (hb:0<=b/\b<=65536) {m0 m1 m2 m3 m4 m5 l:Int} {Q R F:Int->Prop}
  (hB:Out (λo=>∃r:Int,o=[I r]/\R r) (MB [I a,I b,I c,I m1,I m2]))
  (hS:∀v:Int,0<=v->F v->(∃k:Int,-b<=k/\k<=b/\v=wrap .i64 (m1+wrap .i64 (m2+k)))->Out (λo=>bA o 0=true->Q v) (MS (pxt p x t [I a,I b,I c,I (wrap .i64 (m0+v)),I v,I (wrap .i64 (v-m1)),I m0,I m3,I m4,I l])))
  (hF:∀v:Int,Out (λo=>bA o 0=true->F v) (MF (Fg p t [I a,I b,I c,I o0,I o1,B b0,B b1,B b2,I (wrap .i64 (m0+v)),I v,I (wrap .i64 (v-m1)),I m0,I m3,I m4])))
  (hM:∀m0 m1 m2 m3 m4 m5 v,MM [I m0,I m1,I m2,I m3,I m4,I m5,I v]=some (Eh m0 m1 m3 m4 v))
  (hR:∀a b c v x,(MR [I a,I b,I c,I v,I x]).isSome=true)
  (hC:∀j,0<=j/\j<=65536->Out (λo=>(wA o 0).length<=140000/\Jk j (wA o 0)) (MC [I j])):
  Out (Pe m0 m1 m3 m4 Q R) (Qim MB MS MF MM MR MC (Am (Zx MB MS MF MM MR MC)) (pxt p x t [I a,I b,I c,I o0,I o1,B b0,B b1,B b2,I m0,I m1,I m2,I m3,I m4,I m5,I l])):=by
 rw[Zw3];refine .bind (hC b hb) λq h1=> ?_;obtain⟨h1,hJ⟩:=h1;generalize wA q 0=ch at*;refine .bind (p:=λo=>o.1=1/\((∃v:Int,∃g0 g1 g2 g3 g4 g5:Int,o.2=B true::I a::I b::I c::I m0::I m1::I m2::I m3::I m4::I m5::I g0::I g1::I g2::I g3::I g4::I g5::Eh m0 m1 m3 m4 v/\Q v)\/∃l:List AC,o.2=B false::I a::I b::I c::I m0::I m1::I m2::I m3::I m4::I m5::l)) ?_ λo g=>by
  obtain⟨g,g2⟩:=g;rw[g];refine .cond (λ_=> ?_) λc=>by simp at c
  rcases g2 with⟨v,g0,g1,g2,g3,g4,g5,e,hs⟩|⟨l',e⟩
  ·rw[e];refine .cond (λ_=> .some ⟨v,rfl, .inl hs⟩) λc=>by simp[gA,wA,bA,jA,nth,C7]at c
  ·rw[e];refine .cond (λc=>by simp[gA,wA,bA,jA,nth,C7]at c) λ_=> ?_;simp only[gA,wA,bA,jA,nth,Ag];refine .bind hB λo g=> ?_;obtain⟨r,rfl,hr⟩:=g;simp only[gA,wA,bA,jA,nth,Ag];rw[hM];exact .some ⟨_,rfl, .inr ⟨r,rfl,hr⟩⟩
 refine CX (λs:Nat×(Int×Int×Int×Int×Int×Int)=>I l::B false:: .view Aa ch::I (ch.length:Int)::I (s.1:Int)::pxt p x t [I a,I b,I c,I o0,I o1,B b0,B b1,B b2,I m0,I m1,I m2,I m3,I m4,I m5,I 0,I 0,I 0,I 0,I 0,I 0,I s.2.1,I s.2.2.1,I s.2.2.2.1,I s.2.2.2.2.1,I s.2.2.2.2.2.1,I s.2.2.2.2.2.2])
  (λs=>s.1<=ch.length) (λs=>ch.length-s.1) _ ?_ (0,(0,0,0,0,0,0)) (by simp)
 rintro⟨i,f0,f1,f2,f3,f4,f5⟩ g;dsimp only at g;rw[Zs1];rw[Ae (x:=(i:Int)+1) (by omega)];refine .cond (λc=> ?_) (λc=> ?_)
 ·have c:=Bt c;refine .cond (λ_=> ?_) λc=>by simp at c;omega
  refine .cond (λ_=> ?_) λpos=> ?_
  ·exact .some (.inl ⟨rfl,(i+1,f0,f1,f2,f3,f4,f5),rfl,by dsimp only;omega,by dsimp only;omega⟩)
  ·have pos:=Bq pos;refine .ibind (hR _ _ _ _ _) λ_ _=> .cond (λ_=> ?_) λ_=> ?_
   ·exact .some (.inl ⟨rfl,(i+1,f0,f1,f2,f3,f4,f5),rfl,by dsimp only;omega,by dsimp only;omega⟩)
   ·have hk:∃k:Int,-b<=k/\k<=b/\wrap .i64 (m1+wrap .i64 (m2+gA (nth [] ch (i:Int).toNat) 0))=wrap .i64 (m1+wrap .i64 (m2+k)):=by
     have:=hJ _ (bn (show i<ch.length by omega));rw[aj,Gz [] ch i (by omega)];exact⟨_,this.1,this.2,rfl⟩
    generalize wrap .i64 (m1+wrap .i64 (m2+gA (nth [] ch (i:Int).toNat) 0))=v at*;rw[hM];simp only[af,gA,wA,bA,jA,nth,Ag];refine .bind (hF v) λof fit=> .cond (λcf=> ?_) λ_=> ?_
    ·refine .bind (hS v (by omega) (fit cf) hk) λo hs=> .cond (λc=> ?_) λ_=> ?_
     ·exact .some (.inr ⟨by simp,rfl, .inl ⟨v,0,0,0,0,0,0,rfl,hs c⟩⟩)
     ·exact .some (.inl ⟨rfl,(i+1,_,_,_,_,_,_),rfl,by dsimp only;omega,by dsimp only;omega⟩)
    ·exact .some (.inl ⟨rfl,(i+1,_,_,_,_,_,_),rfl,by dsimp only;omega,by dsimp only;omega⟩)
 ·exact .some (.inr ⟨by simp,rfl, .inr ⟨_,rfl⟩⟩)
theorem Zah {MS MF:Fn} {p:Pth} {x:Ax3} {t:Trk} {Q:Prop} (hS:∀{way:Rw},way.length<=100000->(MS (pxt p x t [.view Aa way])).isSome=true)
  {a b c m0 m1 m2 m3 m4 m5 l:Int} (hF:Out (λo=>(wA o 0).length<=4096/\(bA o 1=true->Q)) (MF [I a,I b,I c,I m0,I m1,I m2,I m3,I m4,I m5])):
  Out (λo=>bA o 0=true->Q) (TK MS MF (pxt p x t [I a,I b,I c,I m0,I m1,I m2,I m3,I m4,I m5,I l])):=by
 rw[Q7d];refine .bind hF λo h=> ?_;obtain⟨h2,hs⟩:=h;generalize wA o 0=sp at*;refine .cond (λ_=> .some λh=>by simp[gA,wA,bA,jA,nth,C7]at h) λc1=> ?_;have hs:=hs (by simpa using c1);refine .cond (λc=> ?_) λc=> ?_
 ·have c:=Bt c;rw[Ae (x:=(sp.length:Int)-1) (by omega)];refine .cond (λ_=> ?_) λc=>by simp at c;omega
  generalize Ag (nth .dead (nth [] sp ((sp.length:Int)-1).toNat) 0)=e;refine .cond (λ_=> .some λ_=>hs) λ_=> ?_;refine .cond (λ_=> ?_) λc=>by rw[B_ (by simp;omega)]at c;cases c
  refine .cond (λ_=> ?_) λc=>by rw[B_ (by simp;omega)]at c;cases c
  exact .ibind (hS (by simp;omega)) λ_ _=> .some λ_=>hs
 ·refine .cond (λ_=> .some λ_=>hs) λ_=> ?_;refine .cond (λ_=> ?_) λc=>by rw[B_ (by simp;omega)]at c;cases c
  refine .cond (λ_=> ?_) λc=>by rw[B_ (by simp;omega)]at c;cases c
  exact .ibind (hS (by simp;omega)) λ_ _=> .some λ_=>hs
theorem Zgv {a k c:Int} (hp:Plan3 a k c) (u v x x6 x7 x8:Int):Out (λo=>(wA o 0).length<=4096/\(bA o 1=true->(AG a k v x).2=true)) (EW [I a,I k,I c,I u,I v,I x,I x6,I x7,I x8]):=by
 have key:∀{M:Fn},M [I a,I k,I c,I v,I x]=some [.view Aa ((AG a k v x).1.map Aq),B (AG a k v x).2]->Out (λo=>(wA o 0).length<=4096/\(bA o 1=true->(AG a k v x).2=true)) (MY M (Am (Hp M)) [I a,I k,I c,I u,I v,I x,I x6,I x7,I x8]):=by
  intro M hM;have hb:=QF hp v x;rw[SG];refine .bind (p:=λo=>o=_) ⟨_,hM,rfl⟩ λo e=> ?_;subst e;refine .cond (λ_=> .some ⟨by simp[wA,nth,BV],λh=>by simp[bA,nth,C7]at h⟩) λh=> ?_;have hz:(AG a k v x).2=true:=by simpa [bA,nth,C7]using h
  have hl:(wA [AC.view Aa ((AG a k v x).1.map Aq),B (AG a k v x).2] 0).length<=4096:=by
   show((AG a k v x).1.map Aq).length<=4096;rw[ag];exact hb.1
  generalize wA [AC.view Aa ((AG a k v x).1.map Aq),B (AG a k v x).2] 0=sp at*;refine .cond (λ_=> ?_) λc=>by simp at c
  refine .cond (λ_=> ?_) λc=>by simp at c;omega
  refine .bind (Q2d (by simp) hl) λo g=> ?_;rw[g.1];exact .some ⟨by show(wA o.2 0).length<=4096;omega,λ_=>hz⟩
 exact key (Qw6 hp v x)
theorem Z0 {p:Pth} {x:Ax3} {t:Trk} (h:Fix p x t) {a b c:Int} (hp:Plan3 a b c) (m0 m1 m2 m3 m4 m5 l:Int):Out (λo=>bA o 0=true->(AG a b m1 m2).2=true) (ID (pxt p x t [I a,I b,I c,I m0,I m1,I m2,I m3,I m4,I m5,I l])):=
 Zah (Qqu h) (Zgv hp _ _ _ _ _ _)
theorem GG {a k v x:Int}:(AG a k v x).2=true↔Cx a k v x/\(BF a k 4096 v x).2=true:=by
 unfold AG;by_cases h:Cx a k v x/\(BF a k 4096 v x).2=true
 ·rw[aa h];exact⟨λ_=>h,λ_=>rfl⟩
 ·rw[ab h];exact⟨λq=>(by cases q),λq=>absurd q h⟩
theorem Tj {a k c v x:Int} (hp:Plan3 a k c) (h:(AG a k v x).2=true):(AG a k (v+AF a k v x) (AF a k v x)).2=true/\
  (AG a k v x).1=if v<=0 then []else(v+AF a k v x)::(AG a k (v+AF a k v x) (AF a k v x)).1:=by
 obtain⟨hr,hs⟩:=GG.1 h;have hc:=closed hp hr;have hrg:=Fd hp hc.1;by_cases c0:v<=0
 ·have hv:v=0:=by have:=Fd hp hr;omega
  have hb:AF a k v x=0:=by
   obtain⟨B,hB⟩:∃B,B=bs k v 20 (-x-k) (min (k-x) a):=⟨_,rfl⟩;obtain⟨q1,q2,q3,q4,q5,q6⟩:=XM hp hr hB;have:=JY (k:=k) (b:=B) (by have:=hp.b;omega);have hx:=hr.2.2.2.2 hv;have ha:=hp.a;have e:AF a k v x= -B:=by unfold AF;rw[hB]
   rw[e];rcases q5 with q5|q5
   ·omega
   ·by_cases hn:B+1<=0
    ·rw[I3 hn]at q5;omega
    ·omega
  have e0:BF a k 4096 0 0=([],true):=by unfold BF;rw[aa (by omega)]
  refine⟨?_,?_⟩
  ·rw[hb,hv];refine GG.2 ⟨?_,by rw[show(0:Int)+0=0 from rfl,e0]⟩;have:=hc.1;rw[hb,hv]at this;exact this
  ·rw[aa c0];unfold AG;rw[aa ⟨hr,hs⟩];unfold BF;rw[aa c0]
 ·have e:BF a k 4096 v x=((v+AF a k v x)::(BF a k 4095 (v+AF a k v x) (AF a k v x)).1,(BF a k 4095 (v+AF a k v x) (AF a k v x)).2):=by
   show(if v<=0 then _ else _)=_;rw[ab c0]
  rw[e]at hs;have hm:=Q2f a k 4095 _ _ hs;have hn:(AG a k (v+AF a k v x) (AF a k v x)).2=true:=GG.2 ⟨hc.1,by rw[hm];exact hs⟩;refine⟨hn,?_⟩;rw[ab c0];have e2:(AG a k v x).1=(BF a k 4096 v x).1:=by unfold AG;rw[aa (GG.1 h)]
  have e3:(AG a k (v+AF a k v x) (AF a k v x)).1=(BF a k 4096 (v+AF a k v x) (AF a k v x)).1:=by unfold AG;rw[aa (GG.1 hn)]
  rw[e2,e3,hm,e]
structure KOK (K : Kf) : Prop where
 f:Fix K.p K.x K.t
 plan:Plan3 K.pa K.pb K.pc
 aE:∀g∈K.p.aE,0<=g.item/\g.item<K.items.length/\i64 g.lead
 aC:∀m∈K.p.aC,0<=m.item/\m.item<K.items.length/\i64 m.at_
 count:K.p.aC.length<=1000000
 speed:∀it∈K.items,it.kind=8->i64 it.speed
 len:i64 K.len
 set:i64 K.set
theorem T8 (K:Kf) (c:Cv):D0 (Ac K c)=some [I (wrap .i64 (c.m0.tdiv 256))]:=by
 show Qfn (Ac K c)=_;rw[Zff]
abbrev Bv (c:Cv):Int:=wrap .i64 (c.m0.tdiv 256)
theorem Zq0 {MP MU:Fn} {K:Kf} {c:Cv} {s:Int} (hU:MU (Ac K c)=some [I (Bv c)]) (hP:MP (A_ K.t++[I (Bv c)])=some [I s]):Qo8 MP MU (Ac K c)=some [I s]:=by
 rw[Z20,hU];simp only[af,gA,wA,bA,jA,C1,DF];rw[hP];rfl
abbrev Bp (K:Kf) (c:Cv):Int:=AK K.t (Bv c)
theorem Te {K:Kf} (h:KOK K) (c:Cv):EO (Ac K c)=some [I (Bp K c)]:=Zq0 (T8 K c) (OH h.f.t.q (Bv c))
theorem Zd6 (K:Kf) (c:Cv):N_ (Ac K c)=some (I 3::Ac K {c with next:=wrap .i64 (c.idx+1),on:=false,idx:=0,aM:=false,cnt:=0}):=by
 show Qge (Ac K c)=_;rw[Ziv]
theorem Zn6 (K:Kf) (c:Cv):GP (Ac K c)=some (Ac K (if c.g0=0 then{c with o2:=true,g0:=1,g1:=18,g2:= -1}else c)):=by
 show V3 (Ac K c)=_;rw[Zqr];cases h:(c.g0==0)
 ·rw[ab (by simpa using h)];rfl
 ·rw[aa (by simpa using h)];rfl
def nxL (K:Kf) (c:Cv) (l:Int):List AC:=pxt K.p K.x K.t [I K.pa,I K.pb,I K.pc,I c.o0,I c.o1,B c.o2,B c.o3,B c.o4,I c.m0,I c.m1,I c.m2,I c.m3,I c.m4,I c.m5,I l]
def nxV (K:Kf) (c:Cv) (l:Int):Int:=gA ((E8 (nxL K c l)).getD []) 1
def Mo (K:Kf) (c:Cv):Prop:=(AG K.pa K.pb c.m1 c.m2).2=true
theorem Mo.ready {K:Kf} {c:Cv} (h:Mo K c):Cx K.pa K.pb c.m1 c.m2:=(GG.1 h).1
theorem Zqw {K:Kf} {c:Cv} {l:Int} {Q R:Int->Prop} (h:Out (Pe c.m0 c.m1 c.m3 c.m4 Q R) (E8 (nxL K c l))):Q (nxV K c l)\/∃r:Int,nxV K c l=wrap .i64 (c.m1+r)/\R r:=by
 obtain⟨o,h1,v,rfl,h2⟩:=h;have e:nxV K c l=v:=by unfold nxV;rw[h1];rfl
 rw[e];exact h2
theorem Q9j {K:Kf} {c:Cv} (hp:Plan3 K.pa K.pb K.pc) (hz:Mo K c) {v:Int} (hv:v=wrap .i64 (c.m1+AF K.pa K.pb c.m1 c.m2)):v=c.m1+AF K.pa K.pb c.m1 c.m2/\wrap .i64 (v-c.m1)=AF K.pa K.pb c.m1 c.m2/\(AG K.pa K.pb v (wrap .i64 (v-c.m1))).2=true:=by
 have r1:=Fd hp hz.ready;have r2:=Fd hp (closed hp hz.ready).1;rw[Ae (by omega)]at hv;have e:wrap .i64 (v-c.m1)=AF K.pa K.pb c.m1 c.m2:=by rw[hv,Ae (by omega)];omega
 refine⟨hv,e,?_⟩;rw[e,hv];exact(Tj hp hz).1
theorem Ty {K:Kf} {c:Cv} (hp:Plan3 K.pa K.pb K.pc) (hz:Mo K c):Out (λo=>∃r:Int,o=[I r]/\r=AF K.pa K.pb c.m1 c.m2) (Fq [I K.pa,I K.pb,I K.pc,I c.m1,I c.m2]):=
 ⟨_,Q6d hp hz.ready,_,rfl,rfl⟩
theorem Q61 {p:Pth} {x:Ax3} {t:Trk} (h:Fix p x t) (a b c o0 o1:Int) (b0 b1 b2:Bool) (m0 m1 m2 m3 m4 m5:Int):Out (λo=>bA o 0=true->True) (LV (Fg p t [I a,I b,I c,I o0,I o1,B b0,B b1,B b2,I m0,I m1,I m2,I m3,I m4,I m5])):=
 (Out.of (Z1f h a b c o0 o1 b0 b1 b2 m0 m1 m2 m3 m4 m5)).mono λ_ _ _=>trivial
theorem Qu5 {K:Kf} (h:KOK K) {c:Cv} (hz:Mo K c) (l:Int) (b0:Bool):Out (Pe c.m0 c.m1 c.m3 c.m4 (λv=>(AG K.pa K.pb v (wrap .i64 (v-c.m1))).2=true) λr=>r=AF K.pa K.pb c.m1 c.m2)
  (E8 (pxt K.p K.x K.t [I K.pa,I K.pb,I K.pc,I c.o0,I c.o1,B b0,B c.o3,B c.o4,I c.m0,I c.m1,I c.m2,I c.m3,I c.m4,I c.m5,I l])):=
 Qu3 (F:=λ_=>True) (by have:=h.plan.b;omega) (Ty h.plan hz) (λv _ _ _=>Z0 h.f h.plan _ _ _ _ _ _ _) (λv=>Q61 h.f ..) RW Qay (λ_ hj=>Qsk hj)
def Qq (m0 m1 m3 m4:Int) (Q R:Int->Prop) (o:List AC):Prop:=∃v s b z g e:Int,o=Eh m0 m1 m3 m4 v++[I s,I b,I z,I g,I e]/\(Q v\/∃r:Int,v=wrap .i64 (m1+r)/\R r)
theorem Q1e {MN MB MR MS MM MF MD:Fn} {p:Pth} {x:Ax3} {t:Trk} {a b c:Int} {o0 o1:Int} {b0 b1 b2:Bool} {m0 m1 m2 m3 m4 m5 l lead g0 g1 g2 g3 z0 z1:Int} {Q R:Int->Prop}
  (hN:Out (Pe m0 m1 m3 m4 Q R) (MN (pxt p x t [I a,I b,I c,I o0,I o1,B false,B b1,B b2,I m0,I m1,I m2,I m3,I m4,I m5,I l])))
  (hB:Out (λo=>∃r:Int,o=[I r]/\R r) (MB [I a,I b,I c,I m1,I m2]))
  (hR:∀a b c x3 x4 x5 x6 x7 x8,(MR [I a,I b,I c,I x3,I x4,I x5,I x6,I x7,I x8]).isSome=true)
  (hS:∀v:Int,Out (λo=>bA o 0=true->Q v) (MS (pxt p x t [I a,I b,I c,I (wrap .i64 (m0+v)),I v,I (wrap .i64 (v-m1)),I m0,I m3,I m4,I l])))
  (hM:∀m0 m1 m2 m3 m4 m5 v,MM [I m0,I m1,I m2,I m3,I m4,I m5,I v]=some (Eh m0 m1 m3 m4 v))
  (hF:∀v,i64 v->(MF [I lead,I v]).isSome=true) (hD:∀a b,∃v,MD [I a,I b]=some [I v]/\i64 v):
  Out (Qq m0 m1 m3 m4 Q R) (W4 MN MB MR MS MM MF MD (pxt p x t [I a,I b,I c,I o0,I o1,B b0,B b1,B b2,I m0,I m1,I m2,I m3,I m4,I m5,I l,I lead,I g0,I g1,I g2,I g3,I z0,I z1])):=by
 rw[Zjr];obtain⟨v1,e1,w1⟩:=hD z1 g2;obtain⟨v2,e2,w2⟩:=hD z0 g2;rw[e1,e2];simp only[af,gA,wA,bA,jA,C1,El,DF];have next:∀s bb z g e:Int,Out (Qq m0 m1 m3 m4 Q R) ((MN (pxt p x t [I a,I b,I c,I o0,I o1,B false,B b1,B b2,I m0,I m1,I m2,I m3,I m4,I m5,I l])).bind λo=>some [I (gA o 0),I (gA o 1),I (gA o 2),I (gA o 3),I (gA o 4),I (gA o 5),I s,I bb,I z,I g,I e]):=λs bb z g e=>by
  refine .bind hN λo h=> ?_;obtain⟨v,rfl,h⟩:=h;exact .some ⟨v,s,bb,z,g,e,rfl,h⟩
 refine .ibind (hF _ w1) λf1 _=> .cond (λ_=> ?_) λ_=> .cond (λ_=> ?_) λ_=>next _ _ _ _ _
 ·refine .ibind (hF _ w2) λf2 _=> ?_;rw[hM];generalize wrap .i64 (Ag (nth AC.dead f1 0)-Ag (nth AC.dead f2 0))=v;simp only[af,gA,wA,bA,jA,C1,El,DF];refine .cond (λ_=> ?_) λ_=>next _ _ _ _ _
  refine .bind (hS v) λo h=> .cond (λc=> ?_) λ_=>next _ _ _ _ _
  exact .some ⟨v,_,_,_,_,_,rfl, .inl (h c)⟩
 ·rw[hM];generalize wrap .i64 (wrap .i64 (wrap .i64 (g1+Ag (nth AC.dead f1 0))-g3)-m0)=v;simp only[af,gA,wA,bA,jA,C1,El,DF];have stop:∀s bb z g e:Int,Out (Qq m0 m1 m3 m4 Q R) ((MB [I a,I b,I c,I m1,I m2]).bind λo=>(MM [I m0,I m1,I m2,I m3,I m4,I m5,I (wrap .i64 (m1+gA o 0))]).bind λq=>some [I (gA q 0),I (gA q 1),I (gA q 2),I (gA q 3),I (gA q 4),I (gA q 5),I s,I bb,I z,I g,I e]):=λs bb z g e=>by
   refine .bind hB λo h=> ?_;obtain⟨r,rfl,hr⟩:=h;rw[hM];exact .some ⟨_,s,bb,z,g,e,rfl, .inr ⟨r,rfl,hr⟩⟩
  refine .cond (λ_=> ?_) λ_=> ?_
  ·refine .bind (hS v) λo h=> .cond (λc=> ?_) λ_=> ?_
   ·exact .some ⟨v,_,_,_,_,_,rfl, .inl (h c)⟩
   ·refine .ibind (hR _ _ _ _ _ _ _ _ _) λ_ _=> .cond (λ_=> .cond (λ_=>stop _ _ _ _ _) λ_=>stop _ _ _ _ _) λ_=>stop _ _ _ _ _
  ·refine .ibind (hR _ _ _ _ _ _ _ _ _) λ_ _=> .cond (λ_=> .cond (λ_=>stop _ _ _ _ _) λ_=>stop _ _ _ _ _) λ_=>stop _ _ _ _ _
theorem Zsh {K:Kf} (h:KOK K) {c:Cv} (hz:Mo K c) (l:Int) {lead:Int} (hl:i64 lead):Out (Qq c.m0 c.m1 c.m3 c.m4 (λv=>(AG K.pa K.pb v (wrap .i64 (v-c.m1))).2=true) λr=>r=AF K.pa K.pb c.m1 c.m2)
  (IA (pxt K.p K.x K.t [I K.pa,I K.pb,I K.pc,I c.o0,I c.o1,B c.o2,B c.o3,B c.o4,I c.m0,I c.m1,I c.m2,I c.m3,I c.m4,I c.m5,I l,I lead,I c.e0,I c.e1,I c.e2,I c.e3,I c.before,I c.s3])):=
 Q1e (Qu5 h hz l false) (Ty h.plan hz) Qsf (λv=>Z0 h.f h.plan _ _ _ _ _ _ _) RW (λ_ hv=>Qtc hl hv) Qq5
theorem Q7u {K:Kf} (h:KOK K) {c:Cv} (hz:Mo K c) {v:Int} (hv:(AG K.pa K.pb v (wrap .i64 (v-c.m1))).2=true\/∃r:Int,v=wrap .i64 (c.m1+r)/\r=AF K.pa K.pb c.m1 c.m2):(AG K.pa K.pb v (wrap .i64 (v-c.m1))).2=true:=by
 rcases hv with h1|⟨r,h1,h2⟩
 ·exact h1
 ·subst h2;exact(Q9j h.plan hz h1).2.2
theorem SB {a k c:Int} (hp:Plan3 a k c):(AG a k 0 0).2=true:=by
 refine GG.2 ⟨?_,by unfold BF;rw[aa (by omega)]⟩;have ha:=hp.a;have hb:=hp.b
 refine⟨by omega,by omega,?_,?_,λ_=>by omega⟩
 ·rw[I3 (by omega)];omega
 ·rw[I3 (by omega)];omega
theorem Qu2 (K:Kf) {i:Nat} (h:i<K.items.length):nth [] (K.items.map Af) i=Af K.items[i]:=by
 rw[BP,List.getD,dl,ai h];rfl
theorem Zbt (K:Kf) {i:Nat} (h:i<K.p.aC.length):nth [] (K.p.aC.map Au) i=Au K.p.aC[i]:=by
 rw[BP,List.getD,dl,ai h];rfl
theorem Zuy {K:Kf} (h:KOK K) (i:Nat) (hk:gA (nth [] (K.items.map Af) i) 0=8):i64 (gA (nth [] (K.items.map Af) i) 20):=by
 by_cases c:i<K.items.length
 ·rw[Qu2 K c]at hk⊢;exact h.speed _ (bn c) hk
 ·have e:nth [] (K.items.map Af) i=[]:=by
   rw[BP,List.getD,dc (by rw[ag];omega)];rfl
  rw[e];show i64 0;unfold i64;omega
structure Gd (K : Kf) (n : Int) (c : Cv) : Prop where
 way:c.way=0
 pass:0<=c.aJ/\c.aJ<=K.p.aC.length
 task:c.on=true->0<=c.idx/\c.idx<K.p.aC.length
 mo:Mo K c
 m0: -(16777216*n)<=c.m0/\c.m0<=16777216*n
theorem Gd.up {K:Kf} {n:Int} {c:Cv} (h:Gd K n c) (hn:0<=n):Gd K (n+1) c:=
 ⟨h.way,h.pass,h.task,h.mo,by have:=h.m0;omega⟩
theorem Gd.move {K:Kf} (h:KOK K) {n:Int} {c:Cv} (g:Gd K n c) (hn:0<=n/\n<=10000) {v:Int} (hv:(AG K.pa K.pb v (wrap .i64 (v-c.m1))).2=true\/∃r:Int,v=wrap .i64 (c.m1+r)/\r=AF K.pa K.pb c.m1 c.m2):
  Gd K (n+1) {c with m0:=wrap .i64 (c.m0+v),m1:=v,m2:=wrap .i64 (v-c.m1),m3:=c.m0,m4:=c.m3,m5:=c.m4}:=by
 have h0:=g.m0;have hq:=Q7u h g.mo hv;have hr:=Fd h.plan (GG.1 hq).1;refine⟨g.way,g.pass,g.task,hq,?_⟩;show-(16777216*(n+1))<=wrap .i64 (c.m0+v)/\wrap .i64 (c.m0+v)<=16777216*(n+1);rw[Ae (by omega)];omega
theorem Gd.same {K:Kf} {n:Int} {c c':Cv} (g:Gd K n c) (h1:c'.way=c.way) (h2:c'.aJ=c.aJ) (h3:c'.on=c.on) (h4:c'.idx=c.idx) (h5:c'.m0=c.m0) (h6:c'.m1=c.m1) (h7:c'.m2=c.m2):Gd K n c':=
 ⟨h1▸g.way,h2▸g.pass,by rw[h3,h4];exact g.task,by have:=g.mo;unfold Mo at*;rw[h6,h7];exact this,h5▸g.m0⟩
theorem Z37 {K:Kf} {c:Cv} (h:c.way=0):Md (Ac K c)=some (I 0::B false::Ac K c):=by
 have key:∀{A B':Fn},VG A B' (Ac K c)=some (I 0::B false::Ac K c):=by
  intro A B';rw[Zyl,Bx (by simp[h])]
 exact key
abbrev stand (c:Cv):Cv:={c with m0:=wrap .i64 (Bv c*256),m1:=0,m2:=0,m3:=wrap .i64 (Bv c*256),m4:=wrap .i64 (Bv c*256),m5:=wrap .i64 (Bv c*256)}
theorem Q98 (u:Int):IX [I u]=some [I (wrap .i64 (u*256)),I 0,I 0,I (wrap .i64 (u*256)),I (wrap .i64 (u*256)),I (wrap .i64 (u*256))]:=by
 show Vp [I u]=_;rw[Za9]
theorem Zse {MS MU:Fn} {K:Kf} {c:Cv} (hU:MU (Ac K c)=some [I (Bv c)]) (hS:∀u:Int,MS [I u]=some [I (wrap .i64 (u*256)),I 0,I 0,I (wrap .i64 (u*256)),I (wrap .i64 (u*256)),I (wrap .i64 (u*256))]):
  Xw MS MU (Ac K c)=some (if c.g0=2 then I 6::B true::Ac K (stand c)else I 0::B false::Ac K c):=by
 rw[Zuq];by_cases h:c.g0=2
 ·rw[aa h,Bk (by simp[h]),hU];simp only[af,gA,wA,bA,jA,C1,DF];rw[hS];rfl
 ·rw[ab h,Bx (by simpa using h)]
theorem Z1k (K:Kf) (c:Cv):L5 (Ac K c)=some (if c.g0=2 then I 6::B true::Ac K (stand c)else I 0::B false::Ac K c):=Zse (T8 K c) Q98
theorem Zp2 (K:Kf) (c:Cv):Lz (Ac K c)=some (I c.aH::B (c.aH !=0)::Ac K c):=by
 show Qli (Ac K c)=_;rw[Zuf]
theorem Zq9 (K:Kf) (c:Cv):L9 (Ac K c)=some (if c.aG=true/\c.aL=true then I 8::B true::Ac K {c with aH:=8}else I 0::B false::Ac K c):=by
 show XH (Ac K c)=_;rw[Z0x];by_cases h:c.aG=true
 ·by_cases h2:c.aL=true
  ·rw[aa ⟨h,h2⟩,Bk (by simp[h]),Bk (by simp[h2]),h,h2]
  ·rw[ab (λe=>h2 e.2),Bk (by simp[h]),Bx (by simpa using h2)]
 ·rw[ab (λe=>h e.1),Bx (by simpa using h)]
theorem Q1i {a N:Int} (h: -N<=a/\a<=N): -N<=a.tdiv 256*256/\a.tdiv 256*256<=N:=by
 by_cases k:0<=a
 ·rw[bj k];omega
 ·obtain⟨b,rfl⟩:∃b,a= -b:=⟨-a,by omega⟩;rw[Int.neg_tdiv,bj (by omega)];omega
theorem Gd.stand {K:Kf} (h:KOK K) {n:Int} {c:Cv} (g:Gd K n c) (hn:0<=n/\n<=10000):Gd K n (stand c)/\Bv (stand c)=Bv c:=by
 have h0:=Q1i g.m0;have e:Bv c=c.m0.tdiv 256:=Ae (by omega);have e2:(Go.Bm.stand c).m0=c.m0.tdiv 256*256:=by
  show wrap .i64 (Bv c*256)=_;rw[e,Ae (by omega)]
 refine⟨⟨g.way,g.pass,g.task,SB h.plan,?_⟩,?_⟩
 ·rw[e2];omega
 ·show wrap .i64 ((Go.Bm.stand c).m0.tdiv 256)=_;rw[e2,Int.mul_tdiv_cancel _ (by omega),e,Ae (by omega)]
theorem Out.eqv {α:Type} {p:α->Prop} {a b:Option α} (h:a=b) (g:Out p b):Out p a:=h▸g
abbrev OB (pul outs:Rw) (mode s:Int) (m:Pt) (sp fault:Int):List AC:=[.view kPt pul, .view Aa outs,I mode,I s,I m.x,I m.y,I m.z,I sp,I fault]
abbrev EX:List AC:=[.view kPt [], .view Aa [],I 0,I 0,I 0,I 0,I 0,I 0,I 0]
theorem Qw1 {K:Kf} {n:Int} {c:Cv} (g:Gd K n c) (hn:0<=n/\n<=10010): -300000000000<=Bv c/\Bv c<=300000000000:=by
 have h:=g.m0;have h1: -300000000000<=c.m0/\c.m0<=300000000000:=by omega
 have h2:=Q1i h1;have e:Bv c=c.m0.tdiv 256:=Ae (by omega);omega
end Go.Bm
namespace Go.Bm
open Classical
def okU (s:Spk):Prop:=s.u.natAbs<=1000000/\s.w.natAbs<=1000000/\(0<=s.r/\s.r<=1000000)/\s.h.natAbs<=200000
theorem okU.s {s:Spk} (h:okU s):okS s:=⟨by have:=h.1;omega,by have:=h.2.1;omega,⟨h.2.2.1.1,by have:=h.2.2.1.2;omega⟩,by have:=h.2.2.2;omega⟩
theorem Zd8 {a b:Spk} (ha:okU a) (hb:okU b) {u w:Int} (hu:u.natAbs<=100000000) (hw:w.natAbs<=100000000):okU (HX a b u w):=by
 unfold HX;split
 ·exact⟨by simp,by simp,by simp,by simp⟩
 ·rename_i h;have ha3:=ha.2.2;have hb3:=hb.2.2
  have hr:0<=hf a.r b.r/\hf a.r b.r<=1000000:=by unfold hf;omega
  have hh:(hf a.h b.h).natAbs<=200000:=by unfold hf;omega
  obtain⟨⟨-,n1⟩,-,n2⟩:=Q5h hu hw (r:=hf a.r b.r) (by omega) h;exact⟨by simp only;omega,by simp only;omega,hr,hh⟩
theorem Zdi {a b:Spk} (ha:okU a) (hb:okU b) {dir:Int} (hd:dir=1\/dir= -1) (full:Bool):okU (ER a b dir full):=
 Zd8 ha hb (Mu ha.s hb.s hd full).1 (Mu ha.s hb.s hd full).2
theorem Wr {dir:Int} (hd:dir=1\/dir= -1):∀(k:Nat) (full:Bool) {a b:Spk},okU a->okU b->∀s∈DV dir k full a b,okU s
 |0,_,a,b,_,hb,s,hs=>by simp[DV]at hs;subst hs;exact hb
 |k+1,full,a,b,ha,hb,s,hs=>by
  unfold DV at hs;have hm:=Zdi ha hb hd full;split at hs
  ·simp at hs;subst hs;exact hb
  ·rcases bm.1 hs with hs|hs
   ·exact Wr hd k false ha hm s hs
   ·exact Wr hd k false hm hb s hs
theorem Zs9 {n:Nat} (hn:n<=300000000000):0<=FJ n/\FJ n<=1000000:=by
 obtain⟨r,-,h2,h3,-⟩:=Ru (n:=n) (by omega);have hm:=Tv h2 h3;rw[TX hm];have:r<1000000:=by
  by_cases c:r<1000000
  ·exact c
  ·have:=dp (show 1000000<=r by omega) (show 1000000<=r by omega);omega
 split<;>omega
theorem Qbb {pl:Int} {p:Pt} {b:Nat} (h:bd b p):(plU pl p).natAbs<=b/\(plW pl p).natAbs<=b/\(plH pl p).natAbs<=b:=HW h
theorem X3 {it:Itm} {p:Pt} (hc:bd 4200 it.ce) (hp:bd 4200 p):okU (Em it p):=by
 obtain⟨c1,c2,c3⟩:=Qbb (pl:=it.aF) hc;obtain⟨p1,p2,p3⟩:=Qbb (pl:=it.aF) hp;have h1:(dU it p*16).natAbs<=134400:=by unfold dU;omega
 have h2:(dW it p*16).natAbs<=134400:=by unfold dW;omega
 have q1:=DH h1;have q2:=DH h2;obtain⟨-,-,h3,-⟩:=PT (AZ hc (by omega)) (AZ hp (by omega));obtain⟨n,hn⟩:=bv h3;refine⟨cd h1 (by decide),cd h2 (by decide),?_,?_⟩
 ·show 0<=FJ _/\FJ _<=_;rw[hn];refine Zs9 ?_;unfold sq2 at hn;omega
 ·show(plH it.aF p*16).natAbs<=_;omega
theorem Zgi {it:Itm} {s:Spk} (hc:bd 4200 it.ce) (hs:okU s):bd B24 (I9 it s):=by
 obtain⟨h1,h2,-⟩:=Qbb (pl:=it.aF) (FC hc);obtain⟨s1,s2,-,s4⟩:=hs;exact Qxe (by unfold B24;omega) (by unfold B24;omega) (by unfold B24;omega)
theorem Q27 {it:Itm} (h:Made it) (hf:bd 4084 it.fr):∀p∈Cd it,bd B24 p:=by
 have ht:=Q4l h hf;intro p hp;unfold Cd at hp;split at hp
 ·rename_i h3;simp only[bc]at hp;obtain⟨s,hs,rfl⟩:=hp;have hce:bd 4200 it.ce:=AZ (Qeu (h.arc h3) (by omega) hf).2 (by omega);refine Zgi hce ?_;rcases ay.1 hs with rfl|hs
  ·exact X3 hce (AZ hf (by omega))
  ·exact Wr (h.arc h3).dir 16 _ (X3 hce (AZ hf (by omega))) (X3 hce (AZ ht (by omega))) s hs
 ·simp at hp;rcases hp with rfl|rfl
  ·exact AZ (FC hf) (by decide)
  ·exact AZ (FC ht) (by decide)
def Ss (n:Nat) (g:Sgm):Prop:=bd B24 g.to/\0<=g.item/\g.item<n/\i64 g.lead
theorem Quo {n:Nat} {item feed lead:Int} (h1:0<=item/\item<n) (h2:i64 lead):∀(pts:List Pt) (s:List Sgm×Int×Pt),(∀p∈pts,bd B24 p)->(∀g∈s.1,Ss n g)->∀g∈(pts.foldl (AT item feed lead) s).1,Ss n g
 |[],s,_,h=>h
 |q::pts,s,hp,h=>by
  rw[List.foldl_cons];refine Quo h1 h2 pts _ (λp hp'=>hp p (by simp[hp'])) ?_;unfold AT;split
  ·exact h
  ·intro g hg;simp only[bm,dm]at hg;rcases hg with hg|rfl
   ·exact h g hg
   ·exact⟨hp q (by simp),h1.1,h1.2,h2⟩
structure PIn (n : Nat) (s : BSt) : Prop where
 start:bd B24 s.start
 aE:∀g∈s.aE,Ss n g
 aC:∀m∈s.aC,0<=m.item/\m.item<n/\i64 m.at_
theorem Zk1 {items:List Itm} {i:Nat} {frm:Int} (hd:drawn (itA items i)) (hf:IF items i frm) (hall:∀k<items.length,AD (itA items k)->drawn (itA items k)) (hc:∀p∈Cd (itA items i),bd B24 p):∀p∈Ca items i frm,bd B24 p:=by
 unfold Ca;by_cases hs:smI (itA items i)
 ·rw[aa hs];intro p hp;rcases bm.1 hp with hp|hp
  ·rcases bm.1 hp with hp|hp
   ·unfold FY at hp;rcases hf with rfl|⟨f,rfl,hf1,hf2⟩
    ·rw[ab (by omega)]at hp;exact hc p (de hp)
    ·rw[aa (by omega)]at hp;exact(KV (items:=items) (i:=(f:Int).toNat) (k:=i) (by simpa using hf2) hd).1 p (df hp)
   ·simp at hp;subst hp;exact Ly hd.1.2.1 hd.1.2.2.1
  ·unfold Fx at hp;by_cases h:0<=Ba items i
   ·rw[aa h]at hp;obtain⟨k,hk,hk1,hk2⟩:=Uj hall h;exact(KV (items:=items) (i:=i) (k:=(Ba items i).toNat) hd (by rw[hk];simpa using hk2)).1 p (de hp)
   ·rw[ab h]at hp;exact hc p (df hp)
 ·rw[ab hs];exact hc
theorem Zwh {it:Itm} (hf:it.kind=1\/1<=it.feed/\it.feed<=60000000):i64 (F3 it):=by
 unfold F3;split
 ·rename_i h;unfold syI at h;unfold mn i64;split<;>omega
 ·unfold i64;omega
theorem Zly {items:List Itm} {i:Nat} {s:BSt} (hi:i<items.length) (hl:items.length<=15) (hright:∀j<items.length,¬Bu (itA items j)) (hch:∀j<items.length,AD (itA items j)->∀p∈Cd (itA items j),bd B24 p) (hok:BOK items i s) (h:PIn items.length s):PIn items.length (BR items i s):=by
 have hall:∀k<items.length,AD (itA items k)->drawn (itA items k):=λk hk hm=>(KM (hright k hk) hm).1;have hok2:=Q9r hi hright hok;have hlen:=hok.len;have hlen2:=hok2.len;unfold BR at hlen2⊢;by_cases hm:AD (itA items i)
 ·rw[aa hm]at hlen2⊢;have hd:=hall i hi hm;refine⟨?_,Quo ⟨by omega,by omega⟩ (Zwh (KM (hright i hi) hm).2) _ _ (Zk1 hd hok.frm hall (hch i hi hm)) h.aE,?_⟩
  ·show bd B24 (if s.begun=true then s.start else Ay (itA items i).fr);split
   ·exact h.start
   ·exact FC hd.1.2.1
  ·intro m hm;simp only[bm,dm]at hm;rcases hm with hm|rfl
   ·exact h.aC m hm
   ·refine⟨by simp only;omega,by simp only;omega,?_⟩;simp only at hlen2⊢;unfold i64;omega
 ·rw[ab hm];refine⟨h.start,h.aE,?_⟩;intro m hm;simp only[bm,dm]at hm;rcases hm with hm|rfl
  ·exact h.aC m hm
  ·refine⟨by simp only;omega,by simp only;omega,?_⟩;simp only;unfold i64;omega
theorem Quu {items:List Itm} (hl:items.length<=15) (hright:∀j<items.length,¬Bu (itA items j)) (hch:∀j<items.length,AD (itA items j)->∀p∈Cd (itA items j),bd B24 p):∀i,i<=items.length->PIn items.length (Ao items i)
 |0,_=>by rw[Ao];exact⟨by unfold bd;simp,λg h=>(by cases h),λg h=>(by cases h)⟩
 |i+1,hi=>by rw[Ao];exact Zly (by omega) hl hright hch (Kq hright i (by omega)) (Quu hl hright hch i (by omega))
theorem Qrj {items:List Itm} (hl:items.length<=15) (hc:CF items=0) (hch:∀j<items.length,AD (itA items j)->∀p∈Cd (itA items j),bd B24 p):bd B24 (Az items).start/\(∀g∈(Az items).aE,Ss items.length g)/\(∀m∈(Az items).aC,0<=m.item/\m.item<items.length/\i64 m.at_)/\(Az items).aC.length=items.length:=by
 have hright:=(KI hc).2;have h1:=Quu hl hright hch items.length (bz _);exact⟨h1.start,h1.aE,h1.aC,(Kq hright items.length (bz _)).aC⟩
theorem Zxj {items:List Itm} (hl:items.length<=15) (hc:CF items=0):i64 (BE items):=by
 have hg:=SF hl hc;have hs:=Qmq (T1 hg.start hg.aE);have hcount:=hg.count;have hright:=(KI hc).2;have h0:i64 (Aw (Az items).aE):=by unfold i64;omega
 unfold BE;split
 ·rename_i i e;split
  ·rename_i c;obtain⟨hi,-,-⟩:=To e;have hm:AD (itA items i):=⟨by have:=c.1.1;omega,by have:=c.1.1;omega⟩;obtain⟨hd,-⟩:=KM (hright i hi) hm;have:=IC (AZ (Ly hd.1.2.1 hd.1.2.2.1) (by decide)) (AZ (FC hd.1.2.2.1) (by decide));unfold i64;omega
  ·exact h0
 ·exact h0
theorem RS (n lo hi:Int):GS [I n,I lo,I hi]=some [B (decide (lo<=n/\n<=hi))]:=by
 show Qc1 [I n,I lo,I hi]=_;rw[Zal];by_cases h1:lo<=n<;>by_cases h2:n<=hi<;>simp[h1,h2]
theorem Zdj {M:Fn} (hM:∀n lo hi:Int,M [I n,I lo,I hi]=some [B (decide (lo<=n/\n<=hi))]) {a:Axs} (h:AxOK a) (hne:a.pitch≠[]):
  ∃o,Am (Qhm M) (.view Aa (a.pitch.map Aq)::I a.pitch.length::I 0::Br a)=some o/\o.1=2:=by
 have hsp:=h.spacing hne;refine(?_:Out (λo:Nat×List AC=>o.1=2) _);refine CX (λi:Nat=> .view Aa (a.pitch.map Aq)::I a.pitch.length::I (i:Int)::Br a) (λi=>i<=a.pitch.length) (λi=>a.pitch.length-i) _ ?_ 0 (by simp);intro i hi;have hc:=h.count;rw[Zfx];dsimp only[jA,gA,bA,wA];have hv:∀j:Nat,j<a.pitch.length->Ag (nth .dead (nth [] (a.pitch.map Aq) j) 0)=a.pitch.getD j 0:=λj hj=>by
  have e:nth [] (a.pitch.map Aq) j=Aq a.pitch[j]:=by
   rw[Gz [] (a.pitch.map Aq) j (by rw[ag];exact hj),List.getElem_map]
  rw[e,List.getD,ai hj];rfl
 refine .cond (λk=> ?_) λ_=> .some (.inr ⟨by simp,rfl⟩);have k:(i:Int)<(a.pitch.length:Int):=Bt k;have hl:((a.pitch.map Aq).length:Int)=a.pitch.length:=by rw[ag]
 refine .cond (λ_=> ?_) λe=>(inB (by omega) (by rw[hl];exact k) e).elim;have hm: -4096<=a.pitch.getD i 0/\a.pitch.getD i 0<=4096:=by
  refine h.pitch.1 _ ?_;rw[List.getD,ai (by omega)];exact bn _
 rw[aj,hv i (by omega),hM];simp only[af,gA,wA,bA,jA,C1,C7];rw[an hm];refine .cond (λe=>by cases e) λ_=> ?_;have nx:∀{x:List AC},x= .view Aa (a.pitch.map Aq)::I a.pitch.length::I ((i:Int)+1)::Br a->Out (λo:Nat×List AC=>(o.1=0/\∃s':Nat,o.2= .view Aa (a.pitch.map Aq)::I a.pitch.length::I (s':Int)::Br a/\s'<=a.pitch.length/\a.pitch.length-s'<a.pitch.length-i)\/(o.1≠0/\o.1=2)) (some (0,x)):=λe=>
  .some (.inl ⟨rfl,i+1,by rw[e];rfl,by omega,by omega⟩)
 rw[Ae (x:=(i:Int)+1) (by omega)];refine .cond (λg=> ?_) λ_=>nx rfl;have g:(i:Int)>0:=Bt g;rw[Ae (x:=(i:Int)-1) (by omega)];refine .cond (λ_=> ?_) λe=>(inB (by omega) (by rw[hl];omega) e).elim;obtain⟨j,rfl⟩:∃j:Nat,i=j+1:=⟨i-1,by omega⟩;have hd:=h.pitch.2 j (by omega);have hmj: -4096<=a.pitch.getD j 0/\a.pitch.getD j 0<=4096:=by
  refine h.pitch.1 _ ?_;rw[List.getD,ai (by omega)];exact bn _
 have ej:(((j+1:Nat):Int)-1).toNat=j:=by omega
 rw[ej,hv j (by omega),hM];simp only[af,gA,wA,bA,jA,C1,C7];have q1:a.spacing.tdiv 4=a.spacing/4:=bj (by omega);rw[q1,Ae (x:=a.spacing/4) (by omega),Ae (x:=0-a.spacing/4) (by omega),Ae (x:=a.pitch.getD (j+1) 0-a.pitch.getD j 0) (by omega)];refine .cond (λe=> ?_) λ_=>nx rfl;rw[an (show 0-a.spacing/4<=a.pitch.getD (j+1) 0-a.pitch.getD j 0/\a.pitch.getD (j+1) 0-a.pitch.getD j 0<=a.spacing/4 by omega)]at e;cases e
theorem Z2e {M:Fn} {N:Lp} (hM:∀n lo hi:Int,M [I n,I lo,I hi]=some [B (decide (lo<=n/\n<=hi))]) {a:Axs} (h:AxOK a)
  (hN:a.pitch≠[]->∃o,N (.view Aa (a.pitch.map Aq)::I a.pitch.length::I 0::Br a)=some o/\o.1=2):Qkq M N (Br a)=some [B true]:=by
 have hs:=h.spacing;have ho:=h.origin;have hc:=h.count
 rw[Z4u];by_cases e:a.pitch=[]
 ·rw[e];rfl
 ·have hl:0<a.pitch.length:=List.length_pos_iff.2 e;obtain⟨o,h1,h2⟩:=hN e;have hs:=hs e;have h1':N [.view Aa (a.pitch.map Aq),I (a.pitch.map Aq).length,I 0,I a.step,I a.speed,I a.accel,I a.jerk,I a.low,I a.high,I a.back,I a.origin,I a.spacing, .view Aa (a.pitch.map Aq)]=some o:=by rw[ag];exact h1
  rw[Bk (by rw[ag];simp;omega),Bk (by rw[ag];simp;omega),hM,hM,h1'];simp only[af,gA,wA,bA,jA,C1,C7];rw[an (show-16777216<=a.origin/\a.origin<=16777216 by omega),an (show 4<=a.spacing/\a.spacing<=16777216 by omega),h2];rfl
theorem Z0m {a:Axs} (h:AxOK a):QA (Br a)=some [B true]:=Z2e RS h λhne=>Zdj RS h hne
theorem Zs6 {M N:Fn} (hN:∀n lo hi:Int,N [I n,I lo,I hi]=some [B (decide (lo<=n/\n<=hi))]) {a:Axs} (h:AxOK a) (hM:M (Br a)=some [B true]):VH M N (Br a)=some [B true]:=by
 have hs:=h.step;have hb:=h.back;obtain⟨l1,l2,l3,l4,l5,l6,l7,l8⟩:=h.lim
 rw[Zgy];simp only[hN,af,C1,C7];rw[an (show 4<=a.step/\a.step<=4096 by omega),an (show 1<=a.speed/\a.speed<=1048576 by omega),an (show 2<=a.accel/\a.accel<=1048576 by omega),an (show 4<=a.jerk/\a.jerk<=1048576 by omega),an (show a.low>= -16777216 by omega),an (show a.high<=16777216 by omega),an (show a.low<=a.high by omega),an (show 0<=a.back/\a.back<=64 by omega)];simp only[ah];rw[hM];rfl
theorem Zj1 {a:Axs} (h:AxOK a):Q4 (Br a)=some [B true]:=Zs6 RS h (Z0m h)
theorem Zy8 {N:Fn} (hN:∀n lo hi:Int,N [I n,I lo,I hi]=some [B (decide (lo<=n/\n<=hi))]) {a:Axs} (h:AxOK a) {q:Int} (hq:q.natAbs<=B24):Qdl N (Br a++[I q])=some [B true]:=by
 obtain⟨-,-,-,-,-,-,l7,l8⟩:=h.lim;refine Eq.trans (Z2g N ..) ?_;rw[hN,an (show a.low<=q/\q<=a.high by unfold B24 at hq;omega)];rfl
theorem Zic {a:Axs} (h:AxOK a) {q:Int} (hq:q.natAbs<=B24):HC (Br a++[I q])=some [B true]:=Zy8 RS h hq
theorem Z14 {M:Fn} {x:Ax3} {p:Pth} (hs:bd B24 p.start) (hg:∀g∈p.aE,bd B24 g.to) (hl:p.aE.length<=1000000):
  Out (λo:Nat×List AC=>o.1=1/\∃pts:List Pt,o.2= .view kPt (pts.map ptR)::AI x/\(∀q∈pts,bd B24 q)/\pts.length<=1000001) (Am (Qp M) (.view kPt [ptR p.start]:: .view Ai (p.aE.map AB)::I (p.aE.map AB).length::I 0::AI x)):=by
 refine CX (λs:Nat×List Pt=> .view kPt (s.2.map ptR):: .view Ai (p.aE.map AB)::I (p.aE.map AB).length::I (s.1:Int)::AI x) (λs=>s.1<=p.aE.length/\(∀q∈s.2,bd B24 q)/\s.2.length=s.1+1) (λs=>p.aE.length-s.1) _ ?_ (0,[p.start]) ⟨by simp,by simpa using hs,rfl⟩;rintro⟨i,pts⟩ ⟨h1,h2,h3⟩;dsimp only at h1 h2 h3;refine Out.eqv (Zkw M ..) ?_;have hsl:((p.aE.map AB).length:Int)=p.aE.length:=by rw[ag]
 refine .cond (λk=> ?_) λ_=> .some (.inr ⟨by simp,rfl,pts,rfl,h2,by omega⟩);have k:(i:Int)<((p.aE.map AB).length:Int):=Bt k;rw[hsl]at k;refine .cond (λ_=> ?_) λe=>(inB (by omega) (by rw[hsl];exact k) e).elim;have er:nth [] (p.aE.map AB) (i:Int).toNat=AB p.aE[i]:=by
  rw[aj,Gz [] _ i (by rw[ag];omega),List.getElem_map]
 rw[er];have hq:=hg _ (bn (show i<p.aE.length by omega));refine .cond (λ_=> ?_) λe=>by rw[B_ (by simp;omega)]at e;cases e
 refine .some (.inl ⟨rfl,(i+1,pts++[p.aE[i].to]),?_,⟨by dsimp only;omega,?_,by simp;omega⟩,by dsimp only;omega⟩)
 ·rw[Ae (x:=(i:Int)+1) (by omega),bt];rfl
 ·intro q hq';dsimp only at hq';simp only[bm,dm]at hq';rcases hq' with hq'|rfl
  ·exact h2 q hq'
  ·exact hq
theorem Z1m {M:Fn} {N3:Lp} (hM:∀{a:Axs} {q:Int},AxOK a->q.natAbs<=B24->M (Br a++[I q])=some [B true]) {x:Ax3} (hx:Ax3M x) {pts:List Pt} (hp:∀q∈pts,bd B24 q) (hl:pts.length<=1000001):
  Out (λo:Nat×List AC=>o.1=2) (Am (T3 M N3) (.view kPt (pts.map ptR)::I (pts.map ptR).length::I 0::AI x)):=by
 refine CX (λi:Nat=> .view kPt (pts.map ptR)::I (pts.map ptR).length::I (i:Int)::AI x) (λi=>i<=pts.length) (λi=>pts.length-i) _ ?_ 0 (by simp);intro i h1;refine Out.eqv (Z0t M N3 ..) ?_;have hsl:((pts.map ptR).length:Int)=pts.length:=by rw[ag]
 refine .cond (λk=> ?_) λ_=> .some (.inr ⟨by simp,rfl⟩);have k:(i:Int)<((pts.map ptR).length:Int):=Bt k;rw[hsl]at k;refine .cond (λ_=> ?_) λe=>(inB (by omega) (by rw[hsl];exact k) e).elim;have er:nth [] (pts.map ptR) (i:Int).toNat=ptR pts[i]:=by
  rw[aj,Gz [] _ i (by rw[ag];omega),List.getElem_map]
 rw[er];obtain⟨q1,q2,q3⟩:=hp _ (bn (show i<pts.length by omega));refine .bind (p:=λo=>o=[B true]) ⟨_,hM hx.a q1,rfl⟩ λo e=> ?_;subst e;refine .cond (λe=>by cases e) λ_=> ?_;refine .bind (p:=λo=>o=[B true]) ⟨_,hM hx.b q2,rfl⟩ λo e=> ?_;subst e;refine .cond (λe=>by cases e) λ_=> ?_;refine .bind (p:=λo=>o=[B true]) ⟨_,hM hx.c q3,rfl⟩ λo e=> ?_;subst e;refine .cond (λe=>by cases e) λ_=> ?_;exact .some (.inl ⟨rfl,i+1,by rw[Ae (x:=(i:Int)+1) (by omega)];rfl,by omega,by omega⟩)
theorem Zbx {M:Fn} {N3 N8:Lp} {x:Ax3} {p:Pth}
  (h3:Out (λo:Nat×List AC=>o.1=1/\∃pts:List Pt,o.2= .view kPt (pts.map ptR)::AI x/\(∀q∈pts,bd B24 q)/\pts.length<=1000001) (N3 (.view kPt [ptR p.start]:: .view Ai (p.aE.map AB)::I (p.aE.map AB).length::I 0::AI x)))
  (h8:∀{pts:List Pt},(∀q∈pts,bd B24 q)->pts.length<=1000001->Out (λo:Nat×List AC=>o.1=2) (N8 (.view kPt (pts.map ptR)::I (pts.map ptR).length::I 0::AI x))):
  Out (λo=>o=[B true]) (Z_ M N3 N8 (AI x++Bn p)):=by
 refine Out.eqv (Zqc M N3 N8 ..) ?_;refine .bind h3 λo q=> ?_;obtain⟨o1,o2⟩:=o;obtain⟨q1,pts,q2,q3,q4⟩:=q;dsimp only at q1 q2;subst q1 q2;refine .cond (λ_=> ?_) λe=>by cases e
 refine .bind (h8 q3 q4) λo q=> ?_;rw[q];exact .some rfl
theorem Q1y {x:Ax3} {p:Pth} (hx:Ax3M x) (hs:bd B24 p.start) (hg:∀g∈p.aE,bd B24 g.to) (hl:p.aE.length<=1000000):P2 (AI x++Bn p)=some [B true]:=by
 obtain⟨o,h,rfl⟩:=Zbx (M:=HC) (N3:=Am (Qp HC)) (N8:=Am (T3 HC (Am (Qp HC)))) (Z14 (x:=x) hs hg hl) (λh1 h2=>Z1m (λha hq=>Zic ha hq) hx h1 h2);exact h
theorem Zn2:∃v:Int,Fh [I 30000]=some [I v]/\60000<=v:=by
 have key:∀{M:Fn} {v:Int},M [I 30000,I 1048576,I 60000,I 2]=some [I v,B true]->S2 M [I 30000]=some [I v]:=λh=>by
  rw[Qxz,h];rfl
 refine⟨_,key (S3 (by unfold i64;omega) (by unfold i64;omega) (by omega) (by decide)),?_⟩;unfold Bo;omega
theorem Zvf {MR MP MV:Fn} {x:Ax3} (hx:Ax3M x) {pa pb pc ramp lag:Int} (hp:Plan3 pa pb pc) (hr:1<=ramp/\ramp<=60000) (hl:0<=lag/\lag<=40)
  (hV:∀{a:Axs},AxOK a->MV (Br a)=some [B true]) (hP:MP [I pa,I pb,I pc]=some [B true]) (hR:∃v:Int,MR [I 30000]=some [I v]/\60000<=v):Out (λo=>o=[B true]) (Xe MR MP MV (AI x++[I pa,I pb,I pc,I ramp,I lag])):=by
 refine Out.eqv (Z5j MR MP MV ..) ?_;refine .bind (p:=λo=>o=[B true]) ⟨_,hV hx.a,rfl⟩ λo e=> ?_;subst e;refine .cond (λe=>by cases e) λ_=> .bind (p:=λo=>o=[B true]) ⟨_,hV hx.b,rfl⟩ λo e=> ?_;subst e;refine .cond (λe=>by cases e) λ_=> .bind (p:=λo=>o=[B true]) ⟨_,hV hx.c,rfl⟩ λo e=> ?_;subst e;refine .cond (λe=>by cases e) λ_=> .bind (p:=λo=>o=[B true]) ⟨_,hP,rfl⟩ λo e=> ?_;subst e;obtain⟨v,h1,h2⟩:=hR;refine .cond (λ_=> .cond (λ_=> ?_) λe=>absurd hr.1 (Bq e)) λe=>by cases e
 refine .bind (p:=λo=>o=[I v]) ⟨_,h1,rfl⟩ λo e=> ?_;subst e;refine .cond (λ_=> .cond (λ_=> ?_) λe=>absurd hl.1 (Bq e)) λe=>absurd (show ramp<=v by omega) (Bq e);exact .some (by rw[an (show lag<=1048576 by omega)])
theorem Zpv {x:Ax3} (hx:Ax3M x) {pa pb pc ramp lag:Int} (hp:Plan3 pa pb pc) (hr:1<=ramp/\ramp<=60000) (hl:0<=lag/\lag<=40):QO (AI x++[I pa,I pb,I pc,I ramp,I lag])=some [B true]:=by
 have hP:Fe [I pa,I pb,I pc]=some [B true]:=by rw[Q3,an (show 1<=pa/\pa<=65536/\2<=pb/\pb<=65536/\1<=pc/\pc<=16777216 from⟨hp.a.1,hp.a.2,hp.b.1,hp.b.2,hp.c.1,hp.c.2⟩)]
 obtain⟨o,h,rfl⟩:=Zvf hx hp hr hl Zj1 hP Zn2;exact h
theorem Zo3 {x:Ax3} (hx:Ax3M x) (l0 l1 l2 l3 l4:Int):QD (AI x++[I l0,I l1,I l2,I l3,I l4])=some (AI x++[I l0,I l1,I l2,I l3,I l4]):=by
 have ha:=hx.a.count;have hb:=hx.b.count;have hc:=hx.c.count
 have key:Xv (AI x++[I l0,I l1,I l2,I l3,I l4])=some (AI x++[I l0,I l1,I l2,I l3,I l4]):=by
  refine Eq.trans (Z3k ..) ?_;rw[B_ (by rw[ag];omega),B_ (by rw[ag];omega),B_ (by rw[ag];omega)];rfl
 exact key
abbrev Q5s (K:Kf):Kf:=⟨K.x,K.pa,K.pb,K.pc,K.ramp,K.lag,[],false,⟨⟨0,0,0⟩,[],[]⟩,0,0,⟨[],0,0,⟨0,0,0⟩⟩⟩
abbrev Qo4 (K:Kf):Kf:=⟨K.x,K.pa,K.pb,K.pc,K.ramp,K.lag,K.items,K.closed,K.p,K.len,K.set,⟨[],0,0,⟨0,0,0⟩⟩⟩
abbrev Ch:Cv:=⟨0,0,0,0,0,0,100,100,false,false,false,0,0,-1,1,0,0,0,0,0,0,0,0,false,0,false,0,false,0,-1,0,0,0,0,0,0,0,false,false,false⟩
noncomputable abbrev kfP (x:Ax3) (pa pb pc ramp lag:Int) (items:List Itm) (closed:Bool):Kf:=⟨x,pa,pb,pc,ramp,lag,items,closed,Az items,Aw (Az items).aE,BE items,Bb (Az items) x ⟨1,1,1⟩ 0 (Aw (Az items).aE)⟩
theorem Q81 {MS ML MR MB:Fn} {K:Kf} (hl:K.items.length<=15) (i0:List Itm) (c0:Bool) (p0:Pth) (l0 s0:Int) (t0:Trk) (c:Cv)
  (hB:MB [.view Ah (K.items.map Af)]=some (Bn K.p++[I 0])) (hR:MR (AI K.x++Bn K.p)=some [B true]) (hL:ML (Bn K.p)=some [I K.len]) (hS:MS [.view Ah (K.items.map Af)]=some [I K.set]):
  QI MS ML MR MB (.view Ah (K.items.map Af)::B K.closed::Ac ⟨K.x,K.pa,K.pb,K.pc,K.ramp,K.lag,i0,c0,p0,l0,s0,t0⟩ c)=some (I 0::Ac ⟨K.x,K.pa,K.pb,K.pc,K.ramp,K.lag,K.items,K.closed,K.p,K.len,K.set,t0⟩ c):=by
 have key:Out (λo=>o=I 0::Ac ⟨K.x,K.pa,K.pb,K.pc,K.ramp,K.lag,K.items,K.closed,K.p,K.len,K.set,t0⟩ c) (QI MS ML MR MB (.view Ah (K.items.map Af)::B K.closed::Ac ⟨K.x,K.pa,K.pb,K.pc,K.ramp,K.lag,i0,c0,p0,l0,s0,t0⟩ c)):=by
  refine Out.eqv (Zt5 MS ML MR MB _ _ ⟨K.x,K.pa,K.pb,K.pc,K.ramp,K.lag,i0,c0,p0,l0,s0,t0⟩ c) ?_;refine .bind (p:=λo=>o=_) ⟨_,hB,rfl⟩ λo e=> ?_;subst e;refine .cond (λe=>by cases e) λ_=> ?_;refine .bind (p:=λo=>o=_) ⟨_,hR,rfl⟩ λo e=> ?_;subst e;refine .cond (λe=>by cases e) λ_=> .cond (λ_=> ?_) λe=>by rw[B_ (by rw[ag];omega)]at e;cases e
  refine .bind (p:=λo=>o=_) ⟨_,hL,rfl⟩ λo e=> ?_;subst e;refine .bind (p:=λo=>o=_) ⟨_,hS,rfl⟩ λo e=> ?_;subst e;exact .some rfl
 obtain⟨o,h,rfl⟩:=key;exact h
theorem Zqe {MS ML MR MB:Fn} {K:Kf} (hl:K.items.length<=15) (c:Cv)
  (hB:MB [.view Ah (K.items.map Af)]=some (Bn K.p++[I 0])) (hR:MR (AI K.x++Bn K.p)=some [B true]) (hL:ML (Bn K.p)=some [I K.len]) (hS:MS [.view Ah (K.items.map Af)]=some [I K.set]):
  QI MS ML MR MB (.view Ah (K.items.map Af)::B K.closed::Ac (Q5s K) c)=some (I 0::Ac (Qo4 K) c):=
 Q81 hl [] false ⟨⟨0,0,0⟩,[],[]⟩ 0 0 ⟨[],0,0,⟨0,0,0⟩⟩ c hB hR hL hS
theorem Zuz {MS ML ML' MG' MO MC MD:Fn} {K:Kf}
  (hD:MD (AI K.x++[I K.pa,I K.pb,I K.pc,I K.ramp,I K.lag])=some [B true]) (hC:MC (AI K.x++[I K.pa,I K.pb,I K.pc,I K.ramp,I K.lag])=some (AI K.x++[I K.pa,I K.pb,I K.pc,I K.ramp,I K.lag]))
  (hO:MO []=some [I 100,I 100,B false,B false,B false]) (hG:MG' []=some [I 0,I 0,I (-1)])
  (hL:ML' (.view Ah (K.items.map Af)::B K.closed::Ac (Q5s K) Ch)=some (I 0::Ac (Qo4 K) Ch))
  (hT:ML (Bn K.p++AI K.x++[I 1,I 1,I 1,I 0,I K.len])=some (A_ K.t)) (hS:MS [I 0]=some [I 0,I 0,I 0,I 0,I 0,I 0]):
  Rn MS ML ML' MG' MO MC MD (AI K.x++[I K.pa,I K.pb,I K.pc,I K.ramp,I K.lag]++[.view Ah (K.items.map Af),B K.closed])=some (I 0::Ac K Ch):=by
 have key:Out (λo=>o=I 0::Ac K Ch) (Rn MS ML ML' MG' MO MC MD (AI K.x++[I K.pa,I K.pb,I K.pc,I K.ramp,I K.lag]++[.view Ah (K.items.map Af),B K.closed])):=by
  refine Out.eqv (Zdl MS ML ML' MG' MO MC MD ..) ?_;refine .bind (p:=λo=>o=_) ⟨_,hD,rfl⟩ λo e=> ?_;subst e;refine .cond (λe=>by cases e) λ_=> ?_;refine .bind (p:=λo=>o=_) ⟨_,hC,rfl⟩ λo e=> ?_;subst e;refine .bind (p:=λo=>o=_) ⟨_,hO,rfl⟩ λo e=> ?_;subst e;refine .bind (p:=λo=>o=_) ⟨_,hG,rfl⟩ λo e=> ?_;subst e;refine .bind (p:=λo=>o=I 0::Ac (Qo4 K) Ch) ⟨_,hL,rfl⟩ λo e=> ?_;subst e;refine .cond (λe=>by cases e) λ_=> ?_;refine .bind (p:=λo=>o=_) ⟨_,hT,rfl⟩ λo e=> ?_;subst e;refine .bind (p:=λo=>o=_) ⟨_,hS,rfl⟩ λo e=> ?_;subst e;exact .some (by kernel_rfl)
 obtain⟨o,h,rfl⟩:=key;exact h
structure MachOK (x : Ax3) (pa pb pc ramp lag : Int) : Prop where
 x:Ax3M x
 plan:Plan3 pa pb pc
 ramp:1<=ramp/\ramp<=60000
 lag:0<=lag/\lag<=40
theorem Qvn {x:Ax3} {pa pb pc ramp lag:Int} (hm:MachOK x pa pb pc ramp lag) {items:List Itm} (hl:items.length<=15) (hc:CF items=0) (hch:∀j<items.length,AD (itA items j)->∀p∈Cd (itA items j),bd B24 p) (hsp:∀it∈items,it.kind=8->i64 it.speed) (closed:Bool):
  GO (AI x++[I pa,I pb,I pc,I ramp,I lag]++[.view Ah (items.map Af),B closed])=some (I 0::Ac (kfP x pa pb pc ramp lag items closed) Ch)/\KOK (kfP x pa pb pc ramp lag items closed):=by
 have hg:=SF hl hc;obtain⟨i1,i2,i3,i4⟩:=Qrj hl hc hch;have hs:=Qmq (T1 hg.start hg.aE);have hcount:=hg.count;refine⟨?_,?_⟩
 ·have hB:Lu [.view Ah (items.map Af)]=some (Bn (Az items)++[I 0]):=by rw[Quy hl,aa hc]
  have hS:G6 [.view Ah (items.map Af)]=some [I (BE items)]:=by rw[Qld hl,aa hc]
  have hR:=Q1y hm.x i1 (λg h=>(i2 g h).1) (by omega);have hT:=Qve (d:=⟨1,1,1⟩) (from_:=0) (to:=Aw (Az items).aE) hg hm.x.ok;have hload:=Zqe (K:=kfP x pa pb pc ramp lag items closed) hl Ch hB hR (Qcq hg.ok) hS;have hO:Pn []=some [I 100,I 100,B false,B false,B false]:=by show Qab []=_;rw[Zbg]
  have hG:J9 []=some [I 0,I 0,I (-1)]:=by show Tz []=_;rw[Qyw]
  have hst:IX [I 0]=some [I 0,I 0,I 0,I 0,I 0,I 0]:=Q98 0;exact Zuz (K:=kfP x pa pb pc ramp lag items closed) (Zpv hm.x hm.plan hm.ramp hm.lag) (Zo3 hm.x ..) hO hG hload hT hst
 ·refine⟨⟨hg,hm.x,Zpk _ _ _ hm.x.ok hg⟩,hm.plan,λg h=>(i2 g h).2,i3,?_,?_,?_,Zxj hl hc⟩
  ·show(Az items).aC.length<=1000000;omega
  ·exact hsp
  ·show i64 (Aw (Az items).aE);unfold i64;omega
theorem Qww {x:Ax3} {pa pb pc ramp lag:Int} (hm:MachOK x pa pb pc ramp lag) {items:List Itm} (hl:items.length<=15) {p0:Pt} (hi:Items 4084 p0 items) (closed:Bool):
  GO (AI x++[I pa,I pb,I pc,I ramp,I lag]++[.view Ah (items.map Af),B closed])=some (I 0::Ac (kfP x pa pb pc ramp lag items closed) Ch)/\KOK (kfP x pa pb pc ramp lag items closed):=
 Qvn hm hl (Qqh (by omega) hi (show items.length <= 20000 by omega)) (λj hj hm => by
  rcases hi.made _ (X9 hj)with⟨-,g2,-,g4,-⟩|g
  ·exact Q27 g2 g4
  ·exact absurd hm (Nj g)) (λit hit h8=>by
  rcases hi.made it hit with⟨-,-,g,-⟩|g
  ·rw[g.2.2.2.1];unfold i64;omega
  ·have:=g.spin h8;unfold i64;omega) closed
end Go.Bm
namespace Go.Bm
structure Evn where
 (cycle kind n:Int)
abbrev evR (e:Evn):List AC:=[I e.cycle,I e.kind,I e.n]
structure EvOK (e : Evn) : Prop where
 kind:1<=e.kind/\e.kind<=13
 n: -5<=e.n/\e.n<=4194304
theorem Qc9 (E:List Evn) {i:Nat} (h:i<E.length):nth [] (E.map evR) (i:Int).toNat=evR E[i]:=by
 rw[aj,Gz [] _ i (by rw[ag];exact h),List.getElem_map]
theorem Z0g {α:Type} (P:α->Bool) (E:List α) {i:Nat} (h:i<E.length):(E.take (i+1)).filter P=(E.take i).filter P++(if P E[i]=true then [E[i]]else []):=by
 rw[List.take_add_one,List.filter_append,ai h];congr 1;by_cases c:P E[i]=true
 ·rw[aa c];simp[c]
 ·rw[ab c];simp[c]
theorem Q8z {P:Evn->Bool} {E:List Evn} (hl:E.length<=1000000) {st:Lp} {enc:Rw->Nat->List AC}
  (hs:∀(l:Rw) (i:Nat),i<=E.length->l.length<=i->st (enc l i)=if h:i<E.length then some (0,enc (l++(if P E[i]=true then [evR E[i]]else [])) (i+1))else some (1,[.view kPt l])):
  Am st (enc [] 0)=some (1,[.view kPt ((E.filter P).map evR)]):=by
 have key:Out (λo=>o=(1,[.view kPt ((E.filter P).map evR)])) (Am st (enc [] 0)):=by
  refine CX (λi:Nat=>enc (((E.take i).filter P).map evR) i) (λi=>i<=E.length) (λi=>E.length-i) _ ?_ 0 (by simp);intro i hi;rw[hs _ _ hi (by rw[ag];exact cd (List.length_filter_le _ _) (by simp;omega))];by_cases h:i<E.length
  ·rw[dif_pos h];refine .some (.inl ⟨rfl,i+1,?_,by omega,by omega⟩);rw[Z0g P E h];by_cases c:P E[i]=true
   ·rw[aa c,aa c,bt];rfl
   ·rw[ab c,ab c,List.append_nil,List.append_nil]
  ·rw[dif_neg h];refine .some (.inr ⟨by simp,?_⟩);rw[List.take_of_length_le (by omega)]
 obtain⟨o,h,rfl⟩:=key;exact h
theorem Q84 {E:List Evn} (hl:E.length<=1000000) (k:Int):J0 [.view kPt (E.map evR),I k]=some [.view kPt ((E.filter λe=>e.cycle==k).map evR)]:=by
 have hL:Am Um [.view kPt [],I k, .view kPt (E.map evR),I E.length,I ((0:Nat):Int)]=some (1,[.view kPt ((E.filter λe=>e.cycle==k).map evR)]):=by
  refine Q8z (P:=λe=>e.cycle==k) hl (enc:=λl i=>[.view kPt l,I k, .view kPt (E.map evR),I E.length,I (i:Int)]) λl i hi hll=> ?_;rw[Zmk];by_cases h:i<E.length
  ·rw[dif_pos h,Bx (by simp;omega),Bx (by simp;omega),Qc9 E h,Ae (x:=(i:Int)+1) (by omega)];by_cases c:(E[i].cycle==k)=true
   ·rw[Bx (show(gA (evR E[i]) 0==k)=true from c),B_ (by simp;omega),aa c];rfl
   ·rw[Bk (show(gA (evR E[i]) 0==k)=false from Bool.eq_false_iff.2 c),ab c,List.append_nil];rfl
  ·rw[dif_neg h,Bk (by simp;omega)]
 show WZ (Am Um) [.view kPt (E.map evR),I k]=_;rw[Z4v,ag];rw[show(0:Int)=((0:Nat):Int)from rfl,hL];rfl
theorem Zi2 {E:List Evn} (hl:E.length<=1000000):KT [.view kPt (E.map evR)]=some [.view kPt ((E.filter λe=>decide (e.kind<=6)).map evR)]:=by
 have hL:Am Ue [.view kPt [], .view kPt (E.map evR),I E.length,I ((0:Nat):Int)]=some (1,[.view kPt ((E.filter λe=>decide (e.kind<=6)).map evR)]):=by
  refine Q8z (P:=λe=>decide (e.kind<=6)) hl (enc:=λl i=>[.view kPt l, .view kPt (E.map evR),I E.length,I (i:Int)]) λl i hi hll=> ?_;rw[Zua];by_cases h:i<E.length
  ·rw[dif_pos h,Bx (by simp;omega),Bx (by simp;omega),Qc9 E h,Ae (x:=(i:Int)+1) (by omega)];by_cases c:decide (E[i].kind<=6)=true
   ·rw[Bx (show decide (gA (evR E[i]) 1<=6)=true from c),B_ (by simp;omega),aa c];rfl
   ·rw[Bk (show decide (gA (evR E[i]) 1<=6)=false from Bool.eq_false_iff.2 c),ab c,List.append_nil];rfl
  ·rw[dif_neg h,Bk (by simp;omega)]
 show Qeb (Am Ue) [.view kPt (E.map evR)]=_;rw[Zys,ag];rw[show(0:Int)=((0:Nat):Int)from rfl,hL];rfl
theorem Z32 {M:Fn} {l:Rw} (hM:Hj l M) (cycle:Int) (k:Nat):
  ∃(e:Evn) (k':Nat),Qn6 M [I cycle, .view Aa l,I k]=some (evR e++[.view Aa l,I k'])/\EvOK e/\k<=k':=by
 obtain⟨v,k1,h1,v0,v1,hk,-⟩:=hM k (n:=15) (by omega);rw[Z4j,h1];simp only[af,Pa,gA,wA,bA,jA,C1,El,DF,BV];have all:∀(n:Nat),n<15->∃kind:Int,nth [] [[I 4],[I 1],[I 2],[I 3],[I 4],[I 5],[I 6],[I 7],[I 4],[I 8],[I 9],[I 11],[I 12],[I 13],[I 10]] n=[I kind]/\1<=kind/\kind<=13:=by
  intro n hn
  match n,hn with
  |0,_=>exact⟨4,rfl,by omega⟩
  |1,_=>exact⟨1,rfl,by omega⟩
  |2,_=>exact⟨2,rfl,by omega⟩
  |3,_=>exact⟨3,rfl,by omega⟩
  |4,_=>exact⟨4,rfl,by omega⟩
  |5,_=>exact⟨5,rfl,by omega⟩
  |6,_=>exact⟨6,rfl,by omega⟩
  |7,_=>exact⟨7,rfl,by omega⟩
  |8,_=>exact⟨4,rfl,by omega⟩
  |9,_=>exact⟨8,rfl,by omega⟩
  |10,_=>exact⟨9,rfl,by omega⟩
  |11,_=>exact⟨11,rfl,by omega⟩
  |12,_=>exact⟨12,rfl,by omega⟩
  |13,_=>exact⟨13,rfl,by omega⟩
  |14,_=>exact⟨10,rfl,by omega⟩
 obtain⟨kind,hkd,b1,b2⟩:=all v.toNat (by omega);have hlen:([[I 4],[I 1],[I 2],[I 3],[I 4],[I 5],[I 6],[I 7],[I 4],[I 8],[I 9],[I 11],[I 12],[I 13],[I 10]]:Rw).length=15:=rfl;clear all;generalize([[I 4],[I 1],[I 2],[I 3],[I 4],[I 5],[I 6],[I 7],[I 4],[I 8],[I 9],[I 11],[I 12],[I 13],[I 10]]:Rw)=T at*;have hv:v<(T.length:Int):=by omega
 simp only[v0,hv,decide_true,Bool.and_self,ah,hkd,C1,DF];have one:∀(n d:Int),0<n/\n<=1000->0<=d/\d<=5->∃(e:Evn) (k':Nat),((M [I n, .view Aa l,I k1]).bind λo=>some [I cycle,I kind,I (wrap .i64 (gA o 0-d)), .view Aa (wA o 1),jA o 2])=some (evR e++[.view Aa l,I k'])/\EvOK e/\k<=k':=λn d hn hd=>by
  obtain⟨w,k2,g1,w0,w1,g2,-⟩:=hM k1 (n:=n) (by omega);rw[g1];refine⟨⟨cycle,kind,w-d⟩,k2,?_,⟨⟨b1,b2⟩,by simp only;omega⟩,by omega⟩;simp only[af,gA,wA,jA,C1,El,DF,BV];rw[Ae (by omega)];rfl
 have two:∀(n:Int),0<n/\n<=1000->∃(e:Evn) (k':Nat),((M [I n, .view Aa l,I k1]).bind λo=>some [I cycle,I kind,jA o 0, .view Aa (wA o 1),jA o 2])=some (evR e++[.view Aa l,I k'])/\EvOK e/\k<=k':=λn hn=>by
  obtain⟨w,k2,g1,w0,w1,g2,-⟩:=hM k1 (n:=n) (by omega);rw[g1];exact⟨⟨cycle,kind,w⟩,k2,rfl,⟨⟨b1,b2⟩,by simp only;omega⟩,by omega⟩
 cases c1:(kind==1)
 ·cases c2:(kind==2)
  ·cases c3:(kind==5)
   ·cases c4:(kind==6)
    ·cases c5:(kind==7)
     ·cases c6:(kind==8)
      ·cases c7:(kind==13)
       ·exact⟨⟨cycle,kind,0⟩,k1,rfl,⟨⟨b1,b2⟩,by simp⟩,by omega⟩
       ·obtain⟨w,k2,g1,w0,w1,g2,-⟩:=hM k1 (n:=4) (by omega);obtain⟨y,k3,g3,y0,y1,g4,-⟩:=hM k2 (n:=60) (by omega);simp only[aq,ah];rw[g1];simp only[af,C1,El,DF];rw[g3];refine⟨⟨cycle,kind,w*1048576+y⟩,k3,?_,⟨⟨b1,b2⟩,by simp only;omega⟩,by omega⟩;simp only[af,C1,El,DF];rw[Ae (x:=w*1048576) (by omega),Ae (by omega)];rfl
      ·exact one 5 1 (by omega) (by omega)
     ·exact one 300 5 (by omega) (by omega)
    ·exact two 3 (by omega)
   ·exact two 3 (by omega)
  ·exact one 220 5 (by omega) (by omega)
 ·exact one 220 5 (by omega) (by omega)
theorem Zyh {ME MN ML MF:Fn} {l:Rw} (hl:l.length<=100000) (hN:Hj l MN) (hL:∀k:Nat,ML [.view Aa l,I k]=some [B (decide (k<l.length)), .view Aa l,I k])
  (hE:∀(cycle:Int) (k:Nat),∃(e:Evn) (k':Nat),ME [I cycle, .view Aa l,I k]=some (evR e++[.view Aa l,I k'])/\EvOK e/\k<=k'):
  Out (λo=>∃E:List Evn,o=(1,[.view kPt (E.map evR)])/\E.length<=l.length/\∀e∈E,EvOK e) (Am (Xt ME MN ML MF) [.view kPt [],I 0, .view Aa l,I 0]):=by
 refine CX (λs:List Evn×Int×Nat=>[.view kPt (s.1.map evR),I s.2.1, .view Aa l,I (s.2.2:Int)]) (λs=>(∀e∈s.1,EvOK e)/\s.1.length<=s.2.2/\s.1.length<=l.length) (λs=>l.length-s.2.2) _ ?_ ([],0,0) (by simp);rintro⟨E,cycle,k⟩ ⟨h1,h2,h3⟩;dsimp only at h1 h2 h3;rw[Zgm,hL];simp only[af,gA,wA,bA,jA,C1,El,DF,BV,C7];by_cases c:k<l.length
 ·rw[an c];obtain⟨v,k1,g1,v0,v1,-,g2,-⟩:=hN k (n:=40) (by omega);have g2:=g2 c;rw[ah,g1];simp only[af,C1,El,DF];obtain⟨e,k2,q1,q2,q3⟩:=hE (wrap .i64 (cycle+v)) k1;rw[q1];simp only[af,ax,az,C1,El,DF];rw[B_ (by simp;omega)];refine .some (.inl ⟨rfl,(E++[e],wrap .i64 (cycle+v),k2),?_,⟨?_,by simp;omega,by simp;omega⟩,by dsimp only;omega⟩)
  ·rw[bt];rfl
  ·intro x hx;dsimp only at hx;rcases bm.1 hx with hx|hx
   ·exact h1 x hx
   ·rw[dm]at hx;subst hx;exact q2
 ·rw[ap c];exact .some (.inr ⟨by simp,E,rfl,h3,h1⟩)
theorem Zmc {l:Rw} (hs:Src l) (hl:l.length<=60):∃E:List Evn,LY [.view Aa l]=some [.view kPt (E.map evR)]/\E.length<=60/\∀e∈E,EvOK e:=by
 obtain⟨o,h1,E,rfl,h2,h3⟩:=Zyh (ME:=L_) (MF:=CO) (by omega) (HV hs) (Q89 l) λcycle k=>Z32 (HV hs) cycle k;refine⟨E,?_,by omega,h3⟩;show Qf6 L_ BJ Gv CO (Am _) [.view Aa l]=_;rw[Zva,Q2];simp only[af,gA,wA,bA,jA,C1,El,DF,BV];rw[h1];rfl
theorem Zx3 {MN MF:Fn} {l:Rw} (hN:Hj l MN) (hF:MF [.view Aa l]=some [.view Aa l,I 0]):
  ∃a b c:Int,Zw MN MF [.view Aa l]=some [I a,I b,I c]/\(1<=a/\a<=900)/\(2<=b/\b<=201)/\(1<=c/\c<=16000):=by
 obtain⟨v,k1,g1,v0,v1,-⟩:=hN 0 (n:=900) (by omega);obtain⟨w,k2,g2,w0,w1,-⟩:=hN k1 (n:=200) (by omega);obtain⟨y,k3,g3,y0,y1,-⟩:=hN k2 (n:=16000) (by omega);have g1':MN [I 900, .view Aa l,I 0]=some [I v, .view Aa l,I k1]:=g1;refine⟨1+v,2+w,1+y,?_,by omega,by omega,by omega⟩;rw[Zph,hF];simp only[af,gA,wA,bA,jA,C1,El,DF,BV];rw[g1'];simp only[af,C1,El,DF];rw[g2];simp only[af,C1,El,DF];rw[g3];simp only[af,C1,El,DF];rw[Ae (x:=1+v) (by omega),Ae (x:=2+w) (by omega),Ae (x:=1+y) (by omega)]
theorem Z0l {MN MP MA MF:Fn} {l m:Rw} (hm:Hj m MN) (hF:MF [.view Aa m]=some [.view Aa m,I 0]) {x:Ax3} (hA:MA [.view Aa l]=some (AI x)) (hx:Ax3M x) {a b c:Int} (hP:MP [.view Aa m]=some [I a,I b,I c]) (h1:1<=a/\a<=900) (h2:2<=b/\b<=201) (h3:1<=c/\c<=16000) (hml:m.length<=100000):
  ∃ramp lag:Int,UK MN MP MA MF [.view Aa l, .view Aa m]=some (AI x++[I a,I b,I c,I ramp,I lag])/\MachOK x a b c ramp lag:=by
 obtain⟨k0,hk0⟩:∃k0:Nat,mn 3 (m.length:Int)=k0:=⟨(mn 3 (m.length:Int)).toNat,by unfold mn;split<;>omega⟩;obtain⟨v,k1,g1,v0,v1,-⟩:=hm k0 (n:=60000) (by omega);obtain⟨w,k2,g2,w0,w1,-⟩:=hm k1 (n:=40) (by omega);refine⟨1+v,w,?_,⟨hx,⟨by omega,by omega,by omega⟩,by omega,by omega⟩⟩;rw[Zt6,hF,hA,hP];simp only[af,gA,wA,bA,jA,C1,El,DF,BV];rw[hk0,g1];simp only[af,C1,El,DF];rw[g2];simp only[af,C1,El,DF];rw[Ae (x:=1+v) (by omega)];rfl
theorem Zsw {l m:Rw} (h1:Src l) (h2:Src m) (h3:m.length<=100000):∃(x:Ax3) (a b c ramp lag:Int),K9 [.view Aa l, .view Aa m]=some (AI x++[I a,I b,I c,I ramp,I lag])/\MachOK x a b c ramp lag:=by
 obtain⟨x,hA,hx⟩:=Z0a h1;obtain⟨a,b,c,hP,p1,p2,p3⟩:=Zx3 (MF:=CO) (HV h2) (Q2 m);obtain⟨ramp,lag,g1,g2⟩:=Z0l (MP:=PP) (MF:=CO) (HV h2) (Q2 m) hA hx hP p1 p2 p3 h3;exact⟨x,a,b,c,ramp,lag,g1,g2⟩
theorem Zq3 (L:List (Rw)) (hl:L.length<=1000):Out (λo=>o.1=1/\o.2=[B false]\/o.1=2/\∀l∈L,l.length<=60) (Am Ti [.view [Kd.sl Aa] (L.map λl=>[.view Aa l]),I L.length,I ((0:Nat):Int)]):=by
 refine CX (λi:Nat=>[.view [Kd.sl Aa] (L.map λl=>[.view Aa l]),I L.length,I (i:Int)]) (λi=>i<=L.length/\∀l∈L.take i,l.length<=60) (λi=>L.length-i) _ ?_ 0 (by simp);rintro i ⟨h1,h2⟩;rw[Zkk];refine .cond (λc=> ?_) λc=> .some (.inr ⟨by simp, .inr ⟨rfl,?_⟩⟩)
 ·have c:(i:Int)<(L.length:Int):=Bt c;have hi:i<L.length:=by omega
  refine .cond (λ_=> ?_) λe=>(inB (by omega) (by rw[ag];exact c) e).elim;rw[aj,Gz [] _ i (by rw[ag];exact hi),List.getElem_map];refine .cond (λ_=> .some (.inr ⟨by simp, .inl ⟨rfl,rfl⟩⟩)) λq=> ?_;have q: ¬(L[i].length:Int)>60:=Bq q;rw[Ae (x:=(i:Int)+1) (by omega)];refine .some (.inl ⟨rfl,i+1,rfl,⟨by omega,?_⟩,by omega⟩);intro l hl;rw[List.take_add_one,ai hi]at hl;rcases bm.1 hl with hl|hl
  ·exact h2 l hl
  ·simp at hl;subst hl;omega
 ·have c: ¬(i:Int)<(L.length:Int):=Bq c;rw[List.take_of_length_le (by omega)]at h2;exact h2
theorem Zfg {L:List (Rw)} (hl:L.length<=1000):∃b:Bool,JZ [.view [Kd.sl Aa] (L.map λl=>[.view Aa l])]=some [B b]/\(b=true->∀l∈L,l.length<=60):=by
 obtain⟨o,h1,h2⟩:=Zq3 L hl;have e:JZ [.view [Kd.sl Aa] (L.map λl=>[.view Aa l])]=Qdn (Am Ti) [.view [Kd.sl Aa] (L.map λl=>[.view Aa l])]:=rfl;rw[e,Zag,ag];rw[show(0:Int)=((0:Nat):Int)from rfl,h1];obtain⟨o1,o2⟩:=o;rcases h2 with⟨q1,q2⟩|⟨q1,q2⟩
 ·dsimp only at q1 q2;subst q1 q2;exact⟨false,rfl,λh=>by cases h⟩
 ·dsimp only at q1 q2;subst q1;exact⟨true,rfl,λ_=>q2⟩
theorem Z45 (a b c d:Rw):∃q:Bool,LI [.view Aa a, .view Aa b, .view Aa c, .view Aa d]=some [B q]/\(q=true->a.length<=60/\b.length<=60/\c.length<=60/\d.length<=60):=by
 obtain⟨q,h1,h2⟩:=Zfg (L:=[a,b,c,d]) (by simp);refine⟨q,?_,λh=>⟨h2 h a (by simp),h2 h b (by simp),h2 h c (by simp),h2 h d (by simp)⟩⟩;show YK JZ _=_;rw[Zkf];have h1':JZ [.view [Kd.sl Aa] [[.view Aa a],[.view Aa b],[.view Aa c],[.view Aa d]]]=some [B q]:=h1;rw[h1'];rfl
abbrev Zk3:Itm:=⟨0,0,⟨0,0,0⟩,⟨0,0,0⟩,0,⟨0,0,0⟩,0,false,0,false,0,0,0,0,0,false⟩
def itK (K:Kf) (i:Int):Itm:=K.items.getD i.toNat Zk3
def mkK (K:Kf) (i:Int):Mrk:=K.p.aC.getD i.toNat ⟨0,0,0⟩
theorem Jv {K:Kf} {i:Int} (h0:0<=i) (h1:i<K.items.length):nth [] (K.items.map Af) i.toNat=Af (itK K i):=by
 have h:i.toNat<K.items.length:=by omega
 rw[Qu2 K h];unfold itK;rw[List.getD,ai h];rfl
theorem Of {K:Kf} {i:Int} (h0:0<=i) (h1:i<K.p.aC.length):nth [] (K.p.aC.map Au) i.toNat=Au (mkK K i):=by
 have h:i.toNat<K.p.aC.length:=by omega
 rw[Zbt K h];unfold mkK;rw[List.getD,ai h];rfl
theorem PY {K:Kf} (h:KOK K) {i:Int} (h0:0<=i) (h1:i<K.p.aC.length):0<=(mkK K i).item/\(mkK K i).item<K.items.length/\i64 (mkK K i).at_:=by
 have hi:i.toNat<K.p.aC.length:=by omega
 unfold mkK;rw[List.getD,ai hi];exact h.aC _ (bn hi)
theorem inR {i:Int} {n:Nat} (h0:0<=i) (h1:i<(n:Int)):(decide (0<=i)&&decide (i<(n:Int)))=true:=by
 rw[an h0,an h1];rfl
theorem inM {β:Type} {f:β->List AC} {i:Int} {l:List β} (h0:0<=i) (h1:i<(l.length:Int)):(decide (0<=i)&&decide (i<((l.map f).length:Int)))=true:=inR h0 (by rw[ag];exact h1)
def FV (K:Kf) (c:Cv):Option Sgm:=K.p.aE[(Bl K.p.aE (max (Bp K c) 0)).1]?
def sgK (K:Kf) (c:Cv):Sgm:=(FV K c).getD sg0
theorem Q1r {K:Kf} {c:Cv} {g:Sgm} (h:FV K c=some g):g∈K.p.aE:=bq h
theorem Gt {K:Kf} (h:KOK K) {c:Cv} (hl:(sgK K c).lead≠0):0<=(sgK K c).item/\(sgK K c).item<K.items.length/\i64 (sgK K c).lead:=by
 unfold sgK at hl⊢;cases e:FV K c with
 |none=>rw[e]at hl;exact absurd rfl hl
 |some g=>exact h.aE g (Q1r e)
theorem Z5h {MF MP:Fn} {K:Kf} {c:Cv} (hP:MP (Ac K c)=some [I (Bp K c)])
  (hF:MF (Bn K.p++[I (Bp K c)])=if K.p.aE=[]then some [I (-1),I 0]else some [I (Bl K.p.aE (max (Bp K c) 0)).1,I (Bl K.p.aE (max (Bp K c) 0)).2]):
  Qg5 MF MP (Ac K c)=some (AB (sgK K c)++[B (FV K c).isSome]):=by
 rw[Zbk];refine eB hP (Eq.trans (congrArg (λz=>Option.bind z _) (show MF (Bn K.p++[I (Bp K c)])=_ from hF)) ?_);by_cases e:K.p.aE=[]
 ·have e2:FV K c=none:=by unfold FV;rw[e];rfl
  unfold sgK;rw[aa e,e2];rfl
 ·have hl:=UX K.p.aE (max (Bp K c) 0) e;have e2:FV K c=some K.p.aE[(Bl K.p.aE (max (Bp K c) 0)).1]:=ai hl;unfold sgK;rw[ab e,e2];refine eB rfl (eF (ap (show¬((Bl K.p.aE (max (Bp K c) 0)).1:Int)<0 by omega)) (eT (inM (f:=AB) (l:=K.p.aE) (i:=((Bl K.p.aE (max (Bp K c) 0)).1:Int)) (by omega) (by omega)) ?_));have er:nth [] (K.p.aE.map AB) ((Bl K.p.aE (max (Bp K c) 0)).1:Int).toNat=AB K.p.aE[(Bl K.p.aE (max (Bp K c) 0)).1]:=by
   rw[aj,Gz [] _ _ (by rw[ag];exact hl),List.getElem_map]
  show some (AN Ai (nth [] (K.p.aE.map AB) ((Bl K.p.aE (max (Bp K c) 0)).1:Int).toNat)++[B true])=_;rw[er];rfl
theorem Qwz {K:Kf} (h:KOK K) (c:Cv):HI (Ac K c)=some (AB (sgK K c)++[B (FV K c).isSome]):=
 Z5h (Te h c) (Qcj h.f.p.ok (Vy h.f _))
def Jl (K:Kf) (c:Cv):Bool:=(FV K c).isSome&&((itK K (sgK K c).item).kind==6&&c.y0==(sgK K c).item)
theorem Z0v {M:Fn} {K:Kf} {c:Cv} (h:KOK K) (hS:M (Ac K c)=some (AB (sgK K c)++[B (FV K c).isSome])):Qe0 M (Ac K c)=some [B (Jl K c)]:=by
 rw[Zas,hS];unfold Jl sgK;cases e:FV K c with
 |none=>rfl
 |some g=>
  obtain⟨q1,q2,-⟩:=h.aE g (Q1r e);refine eB rfl (eT rfl (eT (inM (f:=Af) q1 q2) ?_));show cond (gA (nth [] (K.items.map Af) g.item.toNat) 0==6) (some [B (c.y0==g.item)]) (some [B false])=some [B (true&&((itK K g.item).kind==6&&c.y0==g.item))];rw[Jv q1 q2];show cond ((itK K g.item).kind==6) (some [B (c.y0==g.item)]) (some [B false])=_;cases((itK K g.item).kind==6)<;>rfl
theorem Zh2 {K:Kf} (h:KOK K) (c:Cv):Lk (Ac K c)=some [B (Jl K c)]:=Z0v h (Qwz h c)
def spV (c:Cv) (ramp:Int):Int:=if c.s1<c.s2 then mn (wrap .i64 (c.s1+ramp)) c.s2 else mx (wrap .i64 (c.s1-ramp)) c.s2
def spS (c:Cv) (ramp:Int):Cv:={c with s1:=spV c ramp,s3:=wrap .i64 (c.s3+wrap .i64 (c.s0*spV c ramp))}
theorem Zm8 (c:Cv) (ramp:Int):LQ [I c.s0,I c.s1,I c.s2,I c.s3,I ramp]=some [I (spS c ramp).s0,I (spS c ramp).s1,I (spS c ramp).s2,I (spS c ramp).s3]:=by
 show VS _=_;rw[Zc0];show _=some [I c.s0,I (spV c ramp),I c.s2,I (wrap .i64 (c.s3+wrap .i64 (c.s0*spV c ramp)))];unfold spV;by_cases h:c.s1<c.s2
 ·rw[Bx (an h),aa h]
 ·rw[Bk (ap h),ab h]
def FZ (c:Cv):Bool:=c.m1==0&&(c.m2==0&&(c.m3==c.m0&&c.m4==c.m0))
theorem Zrv (c:Cv):KN [I c.m0,I c.m1,I c.m2,I c.m3,I c.m4,I c.m5]=some [B (FZ c)]:=by
 show Wj _=_;rw[Z3l];unfold FZ;cases(c.m1==0)<;>cases(c.m2==0)<;>cases(c.m3==c.m0)<;>rfl
def QX (b:Bool) (n:Int):Bool:=if n=0 then false else if n=1 then true else b
theorem Zec (b:Bool) (n:Int):O_ [B b,I n]=some [B (QX b n)]:=by
 show Qo9 _=_;rw[Zfa];unfold QX;by_cases h:n=0
 ·rw[aa h,Bx (by simpa using h)]
 ·rw[ab h,Bk (by simpa using h)];by_cases h:n=1
  ·rw[aa h,Bx (by simpa using h)]
  ·rw[ab h,Bk (by simpa using h)]
def HL (k n:Int):Bool:=k==9||(k==8&&(decide (0<=n)&&decide (n<=2)))
def evC (c:Cv) (k n:Int):Cv:={c with
 o0:=if k=1/\0<=n/\n<=200 then n else c.o0
 o1:=if k=2/\0<=n/\n<=100 then n else c.o1
 o2:=if k=3\/k=11 then true else if k=4 then false else c.o2
 o3:=if k=5 then QX c.o3 n else c.o3
 o4:=if k=6 then QX c.o4 n else c.o4
 g0:=if k=10 then 2 else if k=11 then 0 else if HL k n=true then(if c.g0=2 then 2 else 1)else c.g0
 g1:=if k=10 then 22 else if k=11 then 0 else if HL k n=true/\c.g0≠2/\c.g1=0 then(if k=9 then 21 else 20)else c.g1
 g2:=if k=10 then-1 else if k=11 then-1 else if HL k n=true/\c.g0≠2/\c.g1=0 then(if k=9 then-1 else n)else c.g2
 aI:=if k=4 then true else c.aI}
theorem Zrt {M:Fn} (hM:∀(b:Bool) (n:Int),M [B b,I n]=some [B (QX b n)]) (c:Cv) (x k n:Int) (hk:k≠11):
  SW M [I c.o0,I c.o1,B c.o2,B c.o3,B c.o4,I x,I k,I n]=some [I (evC c k n).o0,I (evC c k n).o1,B (evC c k n).o2,B (evC c k n).o3,B (evC c k n).o4]:=by
 rw[Q57];unfold evC;simp only[hM];by_cases h1:k=1
 ·subst h1;by_cases a:0<=n<;>by_cases b:n<=200<;>simp[a,b]
 ·by_cases h2:k=2
  ·subst h2;by_cases a:0<=n<;>by_cases b:n<=100<;>simp[a,b]
  ·by_cases h3:k=3
   ·subst h3;simp
   ·by_cases h4:k=4
    ·subst h4;simp
    ·by_cases h5:k=5
     ·subst h5;simp[gA,bA,nth,C7]
     ·by_cases h6:k=6
      ·subst h6;simp[gA,bA,nth,C7]
      ·simp only[beF h1,beF h2,beF h3,beF h4,beF h5,beF h6,aq];simp[h1,h2,h3,h4,h5,h6,hk]
theorem Z2c {M:Fn} (c:Cv) (x n:Int):
  SW M [I c.o0,I c.o1,B c.o2,B c.o3,B c.o4,I x,I 11,I n]=some [I c.o0,I c.o1,B c.o2,B c.o3,B c.o4]:=by
 rw[Q57];rfl
theorem Zd0 (a b d e f:Int):Qx [I a,I b,I d,I e,I f]=some (if a=2 then [I a,I b,I d]else if b=0 then [I 1,I e,I f]else [I 1,I b,I d]):=by
 show Qdf _=_;rw[Zv7];by_cases h:a=2
 ·rw[aa h,Bx (by simpa using h)]
 ·rw[ab h,Bk (by simpa using h)];by_cases h:b=0
  ·rw[aa h,Bx (by simpa using h)]
  ·rw[ab h,Bk (by simpa using h)]
theorem Zam {MS MT:Fn} (hS:MS []=some [I 0,I 0,I (-1)]) (hT:∀a b d e f:Int,MT [I a,I b,I d,I e,I f]=some (if a=2 then [I a,I b,I d]else if b=0 then [I 1,I e,I f]else [I 1,I b,I d])) (c:Cv) (x k n:Int):
  Qip MS MT [I c.g0,I c.g1,I c.g2,I x,I k,I n]=some [I (evC c k n).g0,I (evC c k n).g1,I (evC c k n).g2]:=by
 rw[Zz8];unfold evC;simp only[hT,hS];by_cases h1:k=10
 ·subst h1;rfl
 ·by_cases h2:k=9
  ·subst h2;by_cases a:c.g0=2<;>by_cases b:c.g1=0<;>simp[HL,a,b,gA,jA,nth,Ag]
  ·by_cases h3:k=8
   ·subst h3;by_cases u:0<=n<;>by_cases v:n<=2<;>by_cases a:c.g0=2<;>by_cases b:c.g1=0<;>simp[HL,a,b,u,v,gA,jA,nth,Ag]
   ·by_cases h4:k=11
    ·subst h4;rfl
    ·simp only[beF h1,beF h2,beF h3,beF h4,aq];simp[HL,h1,h2,h3,h4]
theorem Zqq {MR MT ML MG' MO:Fn} {K:Kf} (c:Cv) (x:Int) {k:Int} (n:Int) (hk:k≠7/\k≠12/\k≠13)
  (hO:k≠11->MO [I c.o0,I c.o1,B c.o2,B c.o3,B c.o4,I x,I k,I n]=some [I (evC c k n).o0,I (evC c k n).o1,B (evC c k n).o2,B (evC c k n).o3,B (evC c k n).o4])
  (hO2:k=11->MO [I c.o0,I c.o1,B c.o2,B c.o3,B c.o4,I x,I k,I n]=some [I c.o0,I c.o1,B c.o2,B c.o3,B c.o4])
  (hG:MG' [I c.g0,I c.g1,I c.g2,I x,I k,I n]=some [I (evC c k n).g0,I (evC c k n).g1,I (evC c k n).g2]):
  Qgo MR MT ML MG' MO (I x::I k::I n::Ac K c)=some (Ac K (evC c k n)):=by
 rw[Zu7];by_cases h:k=11
 ·rw[hO2 h,hG];subst h;rfl
 ·rw[hO h,hG];simp only[af];rw[Bk (by simpa using hk.2.2),Bk (by simpa using h),Bk (by simpa using hk.2.1),Bk (by simpa using hk.1)];by_cases h4:k=4
  ·subst h4;rfl
  ·rw[Bk (by simpa using h4)];have e:(evC c k n).aI=c.aI:=by unfold evC;simp[h4]
   rw[<-e];rfl
theorem Zu3 {K:Kf} (c:Cv) (x:Int) {k:Int} (n:Int) (hk:k≠7/\k≠12/\k≠13):Ml (I x::I k::I n::Ac K c)=some (Ac K (evC c k n)):=
 Zqq c x n hk (λh=>Zrt Zec c x k n h) (λh=>by subst h;exact Z2c c x n) (Zam (by show Tz []=_;rw[Qyw]) Zd0 c x k n)
def one (M:Fn) (l:List AC):Int:=gA ((M l).getD []) 0
theorem VD {M:Fn} {l:List AC} {v:Int} (h:M l=some [I v]):M l=some [I (one M l)]:=by
 unfold one;rw[h];rfl
def Ec (k:Int) (c:Cv):Bool:=k==1||(k==3||(k==6||(k==4&&(c.o4||c.o3)||k==2&&c.o3)))
theorem Q3t (at_ k it:Int) (c:Cv):In [I at_,I k,I it,I c.o0,I c.o1,B c.o2,B c.o3,B c.o4]=some [B (Ec k c)]:=by
 show Qau _=_;rw[Zb3];unfold Ec;by_cases h1:k=1
 ·subst h1;rfl
 by_cases h2:k=3
 ·subst h2;rfl
 by_cases h3:k=6
 ·subst h3;rfl
 by_cases h4:k=4
 ·subst h4;cases c.o4<;>cases c.o3<;>rfl
 by_cases h5:k=2
 ·subst h5;cases c.o3<;>rfl
 simp[beF h1,beF h2,beF h3,beF h4,beF h5]
def En (c:Cv) (known frm:Int):List Mrk->Nat->Int×Int
 |[],_=>(known,-1)
 |m::l,i=>if Ec m.kind c=true/\frm<=m.at_/\m.at_<=known then(m.at_,i)else En c known frm l (i+1)
def BH (K:Kf) (c:Cv) (known frm:Int):Int×Int:=En c known frm (K.p.aC.drop (max c.next 0).toNat) (max c.next 0).toNat
theorem Zdk {M:Fn} {K:Kf} (hl:K.p.aC.length<=1000000) (c:Cv) (hM:∀at_ k it:Int,M [I at_,I k,I it,I c.o0,I c.o1,B c.o2,B c.o3,B c.o4]=some [B (Ec k c)]) (known frm:Int):
  Qf3 M (Am (R9 M)) [.view kPt (K.p.aC.map Au),I c.next,I c.o0,I c.o1,B c.o2,B c.o3,B c.o4,I known,I frm]=some [I (BH K c known frm).1,I (BH K c known frm).2]:=by
 rw[Zwq];have hmx:mx c.next 0=max c.next 0:=by unfold mx;split<;>omega
 have key:Out (λo=>(if o.1=1 then o.2=[I (BH K c known frm).1,I (BH K c known frm).2]else o.1=2/\o.2=[I (BH K c known frm).1]/\(BH K c known frm).2= -1)) (Am (R9 M) [.view kPt (K.p.aC.map Au),I known,I frm,I (max c.next 0),I c.o0,I c.o1,B c.o2,B c.o3,B c.o4]):=by
  refine CX (λs:Int=>[.view kPt (K.p.aC.map Au),I known,I frm,I s,I c.o0,I c.o1,B c.o2,B c.o3,B c.o4]) (λs=>0<=s/\BH K c known frm=En c known frm (K.p.aC.drop s.toNat) s.toNat) (λs=>(K.p.aC.length-s).toNat) _ ?_ (max c.next 0) ⟨by omega,rfl⟩;rintro i ⟨g,hw⟩;rw[Z23];refine .cond (λk=> ?_) λk=> ?_
  ·have k:i<((K.p.aC.map Au).length:Int):=Bt k;rw[ag]at k;have hi:i.toNat<K.p.aC.length:=by omega
   rw[Ae (x:=i+1) (by have:=hl;omega)];have em:mkK K i=K.p.aC[i.toNat]:=by unfold mkK;rw[List.getD,ai hi];rfl
   rw[List.drop_eq_getElem_cons hi,<-em]at hw;unfold En at hw;refine .cond (λ_=> ?_) λe=>(inB g (by rw[ag];exact k) e).elim;rw[Of g k];refine .bind (p:=λo=>o=_) ⟨_,hM _ _ _,rfl⟩ λo e=> ?_;subst e;have next:BH K c known frm=En c known frm (K.p.aC.drop (i.toNat+1)) (i.toNat+1)->Out (λo:Nat×List AC=>(o.1=0/\∃s':Int,o.2=[.view kPt (K.p.aC.map Au),I known,I frm,I s',I c.o0,I c.o1,B c.o2,B c.o3,B c.o4]/\(0<=s'/\BH K c known frm=En c known frm (K.p.aC.drop s'.toNat) s'.toNat)/\(K.p.aC.length-s').toNat<(K.p.aC.length-i).toNat)\/(o.1≠0/\(if o.1=1 then o.2=[I (BH K c known frm).1,I (BH K c known frm).2]else o.1=2/\o.2=[I (BH K c known frm).1]/\(BH K c known frm).2= -1))) (some (0,[.view kPt (K.p.aC.map Au),I known,I frm,I (i+1),I c.o0,I c.o1,B c.o2,B c.o3,B c.o4])):=λe=>
    .some (.inl ⟨rfl,i+1,rfl,⟨by omega,by rw[e,show(i+1).toNat=i.toNat+1 by omega]⟩,by omega⟩)
   refine .cond (λa=> .cond (λb=> .cond (λd=> ?_) λd=> ?_) λb=> ?_) λa=> ?_
   ·have a:Ec (mkK K i).kind c=true:=a;have b:frm<=(mkK K i).at_:=Bt b;have d:(mkK K i).at_<=known:=Bt d;rw[aa ⟨a,b,d⟩]at hw;refine .some (.inr ⟨by simp,?_⟩);rw[aa rfl,hw];show [I (mkK K i).at_,I i]=[I (mkK K i).at_,I (i.toNat:Int)];rw[Int.toNat_of_nonneg g]
   ·have d: ¬(mkK K i).at_<=known:=Bq d;rw[ab (λh=>d h.2.2)]at hw;exact next hw
   ·have b: ¬frm<=(mkK K i).at_:=Bq b;rw[ab (λh=>b h.2.1)]at hw;exact next hw
   ·have a:Ec (mkK K i).kind c=false:=a;rw[ab (λh=>by rw[a]at h;cases h.1)]at hw;exact next hw
  ·have k: ¬i<((K.p.aC.map Au).length:Int):=Bq k;rw[ag]at k;rw[List.drop_of_length_le (by omega)]at hw;refine .some (.inr ⟨by simp,?_⟩);rw[ab (by simp),hw];exact⟨rfl,rfl,rfl⟩
 obtain⟨⟨o1,o2⟩,h1,h2⟩:=key;rw[hmx];refine eB h1 ?_;by_cases e:o1=1
 ·subst e;have h2:o2=_:=h2;subst h2;rfl
 ·rw[ab e]at h2;obtain⟨q1,q2,q3⟩:=h2;dsimp only at q1 q2;subst q1 q2;rw[q3];rfl
theorem Zfw {K:Kf} (h:KOK K) (c:Cv) (known frm:Int):O8 [.view kPt (K.p.aC.map Au),I c.next,I c.o0,I c.o1,B c.o2,B c.o3,B c.o4,I known,I frm]=some [I (BH K c known frm).1,I (BH K c known frm).2]:=
 Zdk h.count c (λat_ k it=>Q3t at_ k it c) known frm
theorem Q1x {c:Cv} {known frm:Int} (hk:i64 known):∀{l:List Mrk} {i:Nat},(∀m∈l,i64 m.at_)->i64 (En c known frm l i).1
 |[],_,_=>hk
 |m::l,i,h=>by
  unfold En;split
  ·exact h m (by simp)
  ·exact Q1x hk λq hq=>h q (by simp[hq])
theorem Q5p {c:Cv} {known frm:Int}:∀{l:List Mrk} {i:Nat},(En c known frm l i).2= -1\/((i:Int)<=(En c known frm l i).2/\(En c known frm l i).2<(i+l.length:Nat))
 |[],_=> .inl rfl
 |m::l,i=>by
  unfold En;split
  ·exact .inr ⟨cg _,by simp only[bf];omega⟩
  ·rcases Q5p (l:=l) (i:=i+1) (c:=c) (known:=known) (frm:=frm)with h|⟨h1,h2⟩
   ·exact .inl h
   ·exact .inr ⟨by omega,by simp only[bf];omega⟩
theorem Zie {K:Kf} {c:Cv} {known frm:Int}:(BH K c known frm).2= -1\/(0<=(BH K c known frm).2/\c.next<=(BH K c known frm).2/\(BH K c known frm).2<K.p.aC.length):=by
 unfold BH;rcases Q5p (c:=c) (known:=known) (frm:=frm) (l:=K.p.aC.drop (max c.next 0).toNat) (i:=(max c.next 0).toNat)with h|⟨h1,h2⟩
 ·exact .inl h
 ·rw[cy]at h2;exact .inr ⟨by omega,by omega,by omega⟩
def Lm (K:Kf) (c:Cv):Int:=one DY [I K.pa,I K.pb,I K.pc,I c.m0,I c.m1,I c.m2,I c.m3,I c.m4,I c.m5]
def EF (K:Kf):Int:=if K.closed=true then K.len else K.set
def C_ (r:Int):Int:=wrap .i64 ((wrap .i64 (wrap .i64 (r+256)-1)).tdiv 256)
def HJ (K:Kf) (r:Int):Int:=if A9 K.t (AK K.t (C_ r))≠C_ r then wrap .i64 (AK K.t (C_ r)+1)else AK K.t (C_ r)
def AR (K:Kf) (c:Cv):Int×Int:=(A9 K.t (BH K c (EF K) (HJ K (Lm K c))).1,(BH K c (EF K) (HJ K (Lm K c))).2)
theorem Qm3 (K:Kf) (c:Cv):(AR K c).2= -1\/(0<=(AR K c).2/\c.next<=(AR K c).2/\(AR K c).2<K.p.aC.length):=Zie
theorem Zqg {K:Kf} (h:KOK K):i64 (EF K):=by unfold EF;split;exact h.len;exact h.set
theorem Qqn {K:Kf} (h:KOK K) {c:Cv} {frm:Int}:i64 (BH K c (EF K) frm).1:=by
 unfold BH;exact Q1x (Zqg h) λm hm=>(h.aC m (df hm)).2.2
theorem Zgk {MN MW MP MR:Fn} {K:Kf} {c:Cv} {r:Int} {b:Bool} (h:KOK K)
  (hR:MR [I K.pa,I K.pb,I K.pc,I c.m0,I c.m1,I c.m2,I c.m3,I c.m4,I c.m5]=some [I r,B b])
  (hP:∀u,MP (A_ K.t++[I u])=some [I (AK K.t u)]) (hW:∀{z:Int},i64 z->MW (A_ K.t++[I z])=some [I (A9 K.t z)])
  (hN:∀known frm,MN [.view kPt (K.p.aC.map Au),I c.next,I c.o0,I c.o1,B c.o2,B c.o3,B c.o4,I known,I frm]=some [I (BH K c known frm).1,I (BH K c known frm).2]):
  Qlt MN MW MP MR (Ac K c)=some (I (A9 K.t (BH K c (EF K) (HJ K r)).1)::I (BH K c (EF K) (HJ K r)).2::Ac K c):=by
 have key:∀known:Int,known=EF K->RL MR K c MP MW MN (I known)=some (I (A9 K.t (BH K c (EF K) (HJ K r)).1)::I (BH K c (EF K) (HJ K r)).2::Ac K c):=λknown hk=>by
  subst hk;refine eB hR (eB (hP (C_ r)) (eB (hW (Vy h.f _)) ?_));have e1:HJ K r=if A9 K.t (AK K.t (C_ r))≠C_ r then wrap .i64 (AK K.t (C_ r)+1)else AK K.t (C_ r):=rfl;by_cases c1:A9 K.t (AK K.t (C_ r))=C_ r
  ·rw[ab (by simpa using c1)]at e1;refine eF (bnF c1) ?_;exact eB (hN (EF K) (AK K.t (C_ r))) (by rw[<-e1];exact eB (hW (Qqn h)) rfl)
  ·rw[aa c1]at e1;refine eT (bnT c1) ?_;exact eB (hN (EF K) (wrap .i64 (AK K.t (C_ r)+1))) (by rw[<-e1];exact eB (hW (Qqn h)) rfl)
 rw[Zk5];refine eC (λe=>key _ ?_) λe=>key _ ?_
 ·unfold EF;rw[aa e]
 ·unfold EF;rw[ab (by rw[e];simp)]
theorem Zid {M:Fn} {l:List AC} (h:Out (λo=>(wA o 0).length<=4096) (M l)) {x0 x1 x2 x3 x4 x5 x6 x7 x8:Int} (e:l=[I x0,I x1,I x2,I x3,I x4,I x5,I x6,I x7,I x8]):∃(r:Int) (b:Bool),Lw M l=some [I r,B b]:=by
 subst e;have key:Out (λo=>∃(r:Int) (b:Bool),o=[I r,B b]) (Lw M [I x0,I x1,I x2,I x3,I x4,I x5,I x6,I x7,I x8]):=by
  rw[TO];refine .bind h λo g=> .cond (λ_=> .some ⟨0,false,rfl⟩) λ_=> ?_;generalize wA o 0=sp at*;refine .cond (λ_=> .some ⟨x3,true,rfl⟩) λc=> .cond (λ_=> .some ⟨_,true,rfl⟩) λd=> ?_;have c: ¬((sp.length:Int)=0):=by simpa using c
  rw[Ae (by omega)]at d;simp at d;omega
 obtain⟨o,h1,r,b,rfl⟩:=key;exact⟨r,b,h1⟩
theorem Zyt (x0 x1 x2 x3 x4 x5 x6 x7 x8:Int):∃b:Bool,DY [I x0,I x1,I x2,I x3,I x4,I x5,I x6,I x7,I x8]=some [I (one DY [I x0,I x1,I x2,I x3,I x4,I x5,I x6,I x7,I x8]),B b]:=by
 obtain⟨r,b,h⟩:=Zid (M:=EW) (Qiu x0 x1 x2 x3 x4 x5 x6 x7 x8) rfl;have h:DY [I x0,I x1,I x2,I x3,I x4,I x5,I x6,I x7,I x8]=some [I r,B b]:=h;refine⟨b,?_⟩;unfold one;rw[h];rfl
theorem Zo7 {K:Kf} (h:KOK K) (c:Cv):Pm (Ac K c)=some (I (AR K c).1::I (AR K c).2::Ac K c):=by
 obtain⟨b,hb⟩:=Zyt K.pa K.pb K.pc c.m0 c.m1 c.m2 c.m3 c.m4 c.m5;exact Zgk h hb (OH h.f.t.q) (λhz=>Zyq h.f.t.q hz) (Zfw h c)
def SS (c:Cv) (v:Int):Cv:={c with m0:=wrap .i64 (c.m0+v),m1:=v,m2:=wrap .i64 (v-c.m1),m3:=c.m0,m4:=c.m3,m5:=c.m4}
def ET (K:Kf) (c:Cv) (l:Int):Cv:=SS c (nxV K c l)
theorem Qiz {K:Kf} {c:Cv} {n:Int} (h:KOK K) (g:Gd K n c) (l:Int):
  E8 (nxL K c l)=some (Eh c.m0 c.m1 c.m3 c.m4 (nxV K c l))/\((AG K.pa K.pb (nxV K c l) (wrap .i64 (nxV K c l-c.m1))).2=true\/∃r:Int,nxV K c l=wrap .i64 (c.m1+r)/\r=AF K.pa K.pb c.m1 c.m2):=by
 obtain⟨o,h1,v,rfl,h2⟩:=Qu5 h g.mo l c.o2;have h1:E8 (nxL K c l)=some (Eh c.m0 c.m1 c.m3 c.m4 v):=h1;have e:nxV K c l=v:=by unfold nxV;rw[h1];rfl
 rw[e];exact⟨h1,h2⟩
theorem Zog {M:Fn} {K:Kf} {c:Cv} {l v:Int} (h:M (nxL K c l)=some (Eh c.m0 c.m1 c.m3 c.m4 v)):Qlr M (I l::Ac K c)=some (Ac K (SS c v)):=by
 rw[Zvb];exact eB h rfl
theorem Qlj {K:Kf} {c:Cv} {n:Int} (h:KOK K) (g:Gd K n c) (l:Int):Ho (I l::Ac K c)=some (Ac K (ET K c l)):=Zog (Qiz h g l).1
theorem Q7r {K:Kf} {c:Cv} {n:Int} (h:KOK K) (g:Gd K n c) (hn:0<=n/\n<=10000) (l:Int):Gd K (n+1) (ET K c l):=g.move h hn (Qiz h g l).2
def H5 (c:Cv):Cv:={c with next:=wrap .i64 (c.idx+1),on:=false,idx:=0,aM:=false,cnt:=0}
def OJ (c:Cv) (n sp:Int):List AC:=(LU [I c.s0,I c.s1,I c.s2,I c.s3,I n,I sp]).getD []
def Ka (c:Cv) (n sp:Int):Cv:={c with s0:=gA (OJ c n sp) 0,s1:=gA (OJ c n sp) 1,s2:=gA (OJ c n sp) 2,s3:=gA (OJ c n sp) 3}
def Q9m (c:Cv) (n sp:Int):Bool:=bA ((Ne [I c.s0,I c.s1,I c.s2,I c.s3,I n,I sp]).getD []) 0
def Il (K:Kf) (c:Cv):Int×Cv:=
 if c.aM=true then(if c.cnt>1/\c.aI=true then(3,H5 c)else(2,c))
 else if(mkK K c.idx).kind≠3 then(3,H5 c)
 else if(itK K (mkK K c.idx).item).kind=7 then(if c.cnt<(itK K (mkK K c.idx).item).n then(3,c)else(3,H5 c))
 else if(itK K (mkK K c.idx).item).kind=8 then(if Q9m (Ka c (itK K (mkK K c.idx).item).n (itK K (mkK K c.idx).item).speed) (itK K (mkK K c.idx).item).n (itK K (mkK K c.idx).item).speed=true then(3,H5 (Ka c (itK K (mkK K c.idx).item).n (itK K (mkK K c.idx).item).speed))else(3,Ka c (itK K (mkK K c.idx).item).n (itK K (mkK K c.idx).item).speed))
 else if(itK K (mkK K c.idx).item).kind=14 then(7,{c with aH:=7})else(3,H5 c)
def C8 (c:Cv):Cv:={c with cnt:=wrap .i64 (c.cnt+1)}
def Cc (K:Kf) (c:Cv):Int×Cv:=Il K (C8 c)
theorem Zcl {MR MC MD:Fn} {K:Kf} {c:Cv} (h:KOK K) (h0:0<=c.idx) (h1:c.idx<K.p.aC.length)
  (hD:∀c:Cv,MD (Ac K c)=some (I 3::Ac K (H5 c)))
  (hC:∀(c:Cv) (x4 x5:Int),i64 x5->MC [I c.s0,I c.s1,I c.s2,I c.s3,I x4,I x5]=some (OJ c x4 x5)) (hR:∀(c:Cv) (x4 x5:Int),i64 x5->Out (λo=>bA o 0=Q9m c x4 x5) (MR [I c.s0,I c.s1,I c.s2,I c.s3,I x4,I x5])):
  Y0 MR MC MD (Ac K c)=some (I (Cc K c).1::Ac K (Cc K c).2):=by
 rw[Zxq];have hm:=PY h h0 h1;unfold Cc Il;refine eC (λa=> ?_) λa=> ?_
 ·rw[aa (show(C8 c).aM=true from a)];refine eC (λb=>eC (λe=> ?_) λe=> ?_) λb=> ?_
  ·rw[aa (show(C8 c).cnt>1/\(C8 c).aI=true from⟨Bt b,e⟩)];exact eB (hD (C8 c)) rfl
  ·rw[ab (show¬((C8 c).cnt>1/\(C8 c).aI=true)from λq=>by have:=q.2;rw[show(C8 c).aI=false from e]at this;cases this)];rfl
  ·rw[ab (show¬((C8 c).cnt>1/\(C8 c).aI=true)from λq=>Bq b q.1)];rfl
 ·rw[ab (show¬(C8 c).aM=true by rw[show(C8 c).aM=false from a];simp)];refine eT (inM (f:=Au) h0 h1) ?_;rw[Of h0 h1];rw[show(C8 c).idx=c.idx from rfl];refine eC (λb=> ?_) λb=> ?_
  ·have b:(mkK K c.idx).kind≠3:=by simpa [gA,nth,Ag]using b
   rw[aa b];exact eB (hD (C8 c)) rfl
  ·have b:(mkK K c.idx).kind=3:=by simpa [gA,nth,Ag]using b
   rw[ab (by rw[b];simp)];refine eT (inM (f:=Af) (l:=K.items) (i:=(mkK K c.idx).item) hm.1 hm.2.1) ?_;have er:nth [] (K.items.map Af) (gA (Au (mkK K c.idx)) 2).toNat=Af (itK K (mkK K c.idx).item):=Jv hm.1 hm.2.1;rw[er];have hsp:(itK K (mkK K c.idx).item).kind=8->i64 (itK K (mkK K c.idx).item).speed:=λk8=>by
    have:=Zuy h (mkK K c.idx).item.toNat;rw[Jv hm.1 hm.2.1]at this;exact this k8
   generalize itK K (mkK K c.idx).item=it at*;refine eC (λk=> ?_) λk=> ?_
   ·have k:it.kind=7:=eq_of_beq k;rw[aa k];refine eC (λq=> ?_) λq=> ?_
    ·rw[aa (show(C8 c).cnt<it.n from Bt q)];rfl
    ·rw[ab (show¬(C8 c).cnt<it.n from Bq q)];exact eB (hD (C8 c)) rfl
   ·have k:it.kind≠7:=by simpa [gA,nth,Ag]using k
    rw[ab k];refine eC (λk8=> ?_) λk8=> ?_
    ·have k8:it.kind=8:=eq_of_beq k8;rw[aa k8];refine eB (hC (C8 c) it.n it.speed (hsp k8)) ?_;obtain⟨o,h5,h6⟩:=hR (Ka (C8 c) it.n it.speed) it.n it.speed (hsp k8);refine eB h5 ?_;rw[<-h6];refine eC (λq=> ?_) λq=> ?_
     ·rw[ab (show¬bA o 0=true by simpa using q)];rfl
     ·rw[aa (show bA o 0=true by simpa using q)];exact eB (hD (Ka (C8 c) it.n it.speed)) rfl
    ·have k8:it.kind≠8:=by simpa [gA,nth,Ag]using k8
     rw[ab k8];refine eC (λk=> ?_) λk=> ?_
     ·rw[aa (show it.kind=14 from eq_of_beq k)];rfl
     ·rw[ab (show it.kind≠14 by simpa [gA,nth,Ag]using k)];exact eB (hD (C8 c)) rfl
theorem Qkk {l:Option (List AC)} (h:l.isSome=true):l=some (l.getD []):=by
 cases l with
 |none=>cases h
 |some o=>rfl
theorem Zut (c:Cv) (x4:Int) {x5:Int} (h:i64 x5):LU [I c.s0,I c.s1,I c.s2,I c.s3,I x4,I x5]=some (OJ c x4 x5):=Qkk (Zxv _ _ _ _ _ h)
theorem Zhm (K:Kf) (c:Cv):N_ (Ac K c)=some (I 3::Ac K (H5 c)):=Zd6 K c
theorem Qyf {K:Kf} {c:Cv} (h:KOK K) (h0:0<=c.idx) (h1:c.idx<K.p.aC.length):J8 (Ac K c)=some (I (Cc K c).1::Ac K (Cc K c).2):=
 Zcl h h0 h1 (Zhm K) (λc x4 _ h=>Zut c x4 h) λc x4 x5 h=>⟨_,Qkk (Z1o _ _ _ _ _ h),rfl⟩
def FI (K:Kf) (c:Cv) (i:Int):Bool:=
 if(mkK K i).kind=1\/(mkK K i).kind=2\/(mkK K i).kind=6 then c.o3 else if(mkK K i).kind=4 then true
 else if(mkK K i).kind=3 then((itK K (mkK K i).item).kind==11||(itK K (mkK K i).item).kind==12)else false
def Dc (K:Kf) (c:Cv) (i:Int):Int×Cv:=Cc K {c with on:=true,idx:=i,aM:=FI K c i,cnt:=0}
theorem Zvw {M:Fn} {K:Kf} {c:Cv} {i:Int} (h:KOK K) (h0:0<=i) (h1:i<K.p.aC.length)
  (hW:∀w:Bool,M (Ac K {c with on:=true,idx:=i,aM:=w,cnt:=0})=some (I (Cc K {c with on:=true,idx:=i,aM:=w,cnt:=0}).1::Ac K (Cc K {c with on:=true,idx:=i,aM:=w,cnt:=0}).2)):
  Qdt M (I i::Ac K c)=some (I (Dc K c i).1::Ac K (Dc K c i).2):=by
 rw[Zz2];have hm:=PY h h0 h1;unfold Dc;refine eT (inM (f:=Au) h0 h1) ?_;rw[Of h0 h1];have fin:∀{w:Bool} {f:List AC->List AC},w=FI K c i->(∀(m:Int) (c:Cv),f (I m::Ac K c)=I m::Ac K c)->((M (Ac K {c with on:=true,idx:=i,aM:=w,cnt:=0})).bind λo=>some (f o))=some (I (Cc K {c with on:=true,idx:=i,aM:=FI K c i,cnt:=0}).1::Ac K (Cc K {c with on:=true,idx:=i,aM:=FI K c i,cnt:=0}).2):=λhw hf=>by
  subst hw;refine eB (hW _) ?_;rw[hf]
 have ne:∀{n:Int},(gA (Au (mkK K i)) 1==n)=false->(mkK K i).kind≠n:=λe=>by simpa [gA,nth,Ag]using e
 have eq:∀{n:Int},(gA (Au (mkK K i)) 1==n)=true->(mkK K i).kind=n:=λe=>eq_of_beq e;refine eC (λe=>fin (by unfold FI;rw[aa (.inl (eq e))]) λ_ _=>rfl) λn1=> ?_;refine eC (λe=>fin (by unfold FI;rw[aa (.inr (.inl (eq e)))]) λ_ _=>rfl) λn2=> ?_;refine eC (λe=>fin (by unfold FI;rw[aa (.inr (.inr (eq e)))]) λ_ _=>rfl) λn6=> ?_;have no: ¬((mkK K i).kind=1\/(mkK K i).kind=2\/(mkK K i).kind=6):=by
  intro q;rcases q with q|q|q
  ·exact ne n1 q
  ·exact ne n2 q
  ·exact ne n6 q
 refine eC (λe=>fin (by unfold FI;rw[ab no,aa (eq e)]) λ_ _=>rfl) λn4=> ?_;refine eC (λe=> ?_) λn3=>fin (by unfold FI;rw[ab no,ab (ne n4),ab (ne n3)]) λ_ _=>rfl;refine eT (inM (f:=Af) (l:=K.items) (i:=(mkK K i).item) hm.1 hm.2.1) ?_;have er:nth [] (K.items.map Af) (gA (Au (mkK K i)) 2).toNat=Af (itK K (mkK K i).item):=Jv hm.1 hm.2.1;rw[er];have hw:FI K c i=((itK K (mkK K i).item).kind==11||(itK K (mkK K i).item).kind==12):=by unfold FI;rw[ab no,ab (ne n4),aa (eq e)]
 refine eC (λk=>fin (by rw[hw,show((itK K (mkK K i).item).kind==11)=true from k];rfl) λ_ _=>rfl) λk=>fin (by rw[hw,show((itK K (mkK K i).item).kind==11)=false from k];rfl) λ_ _=>rfl
theorem Zgb {K:Kf} {c:Cv} {i:Int} (h:KOK K) (h0:0<=i) (h1:i<K.p.aC.length):P6 (I i::Ac K c)=some (I (Dc K c i).1::Ac K (Dc K c i).2):=
 Zvw h h0 h1 λ_=>Qyf h h0 h1
def Cp (c:Cv):Cv:=if c.g0=0 then{c with o2:=true,g0:=1,g1:=18,g2:= -1}else c
theorem XZ (K:Kf) (c:Cv):GP (Ac K c)=some (Ac K (Cp c)):=Zn6 K c
def NH (c:Cv):Int:=one JS [I c.before,I c.s0]
theorem Zso (c:Cv):JS [I c.before,I c.s0]=some [I (NH c)]:=by
 have key:∃v,JS [I c.before,I c.s0]=some [I v]:=by
  have e:JS [I c.before,I c.s0]=ZN JL [I c.before,I c.s0]:=rfl;have h:∀a,(JL [I a,I 1048576]).isSome=true:=λa=>Zpw (by omega);rw[e,Z28];generalize JL=M at*;have h2:∀a,∃o,M [I a,I 1048576]=some o:=λa=>Option.isSome_iff_exists.1 (h a);cases(c.s0== -1)
  ·obtain⟨o,ho⟩:=h2 (wrap .i64 (0-c.before));exact⟨_,eB ho rfl⟩
  ·obtain⟨o,ho⟩:=h2 c.before;exact⟨_,eB ho rfl⟩
 obtain⟨v,h⟩:=key;exact VD h
def goC (K:Kf) (c:Cv) (g:Sgm):Cv:={c with y0:=g.item,y1:=Bp K c,y2:=c.s3,e0:=1,e1:=c.m0,e2:=NH c,e3:=0}
def EY (K:Kf) (c:Cv) (g:Sgm):Bool:=(itK K g.item).kind==6||(c.s1 !=0&& !decide (wrap .i64 (wrap .i64 (c.s3-NH c)*c.s0)<0))
theorem Zru {MP MI:Fn} {K:Kf} {c:Cv} {s:Sgm} (h0:0<=s.item) (h1:s.item<K.items.length) (hI:MI [I c.before,I c.s0]=some [I (NH c)]) (hP:MP (Ac K c)=some [I (Bp K c)]):
  ZK MP MI (I s.to.x::I s.to.y::I s.to.z::I s.len::I s.item::I s.feed::I s.lead::Ac K c)=some (B (EY K c s)::Ac K (if EY K c s=true then goC K c s else c)):=by
 rw[Zpd];refine eB hI (eT (inM (f:=Af) h0 h1) ?_);rw[Jv h0 h1];refine eC (λe=> ?_) λe=> ?_
 ·have e:(itK K s.item).kind≠6:=by simpa [gA,nth,Ag]using e
  refine eC (λa=> ?_) λa=>eC (λb=> ?_) λb=> ?_
  ·have hm:EY K c s=false:=by unfold EY;rw[beF e,bnF (eq_of_beq a)];rfl
   rw[hm];rfl
  ·have hm:EY K c s=false:=by unfold EY;rw[beF e,show decide (wrap .i64 (wrap .i64 (c.s3-NH c)*c.s0)<0)=true from b];simp
   rw[hm];rfl
  ·have hm:EY K c s=true:=by
    unfold EY;rw[show decide (wrap .i64 (wrap .i64 (c.s3-NH c)*c.s0)<0)=false from b];simp only[bne,a];simp
   rw[hm];exact eB hP rfl
 ·have e:(itK K s.item).kind=6:=by simpa [gA,nth,Ag]using e
  have hm:EY K c s=true:=by unfold EY;rw[beT e];rfl
  rw[hm];exact eB hP rfl
theorem Zku {K:Kf} {c:Cv} {s:Sgm} (h:KOK K) (h0:0<=s.item) (h1:s.item<K.items.length):
  PC (I s.to.x::I s.to.y::I s.to.z::I s.len::I s.item::I s.feed::I s.lead::Ac K c)=some (B (EY K c s)::Ac K (if EY K c s=true then goC K c s else c)):=
 Zru h0 h1 (Zso c) (Te h c)
def Vu (lead way:Int):Int:=one JU [I lead,I way]
theorem Zsa {a b:Int} (ha:i64 a) (hb:i64 b):JU [I a,I b]=some [I (Vu a b)]:=by
 have key:∃v,JU [I a,I b]=some [I v]:=by
  have e:JU [I a,I b]=Qpc Bz [I a,I b]:=rfl;have h:=Xf (show i64 4096 by unfold i64;omega) hb ha 0;rw[e,Z5c];generalize Bz=M at*;obtain⟨o,ho⟩:=Option.isSome_iff_exists.1 h;exact⟨_,eB ho rfl⟩
 obtain⟨v,h⟩:=key;exact VD h
def Qua (K:Kf) (d:Cv) (g:Sgm):Int:=wrap .i64 (d.y2+wrap .i64 (wrap .i64 ((if(itK K g.item).n=3 then 1 else-1)*Vu g.lead (wrap .i64 (Bp K d-d.y1)))*256))
def PI (K:Kf) (c:Cv) (l:Int) (g:Sgm):Cv:={ET K c l with s3:=Qua K (ET K c l) g}
theorem Zo0 {MA MP ML:Fn} {K:Kf} {c:Cv} {l:Int} {s:Sgm} (h0:0<=s.item) (h1:s.item<K.items.length)
  (hA:∀v,i64 v->MA [I s.lead,I v]=some [I (Vu s.lead v)]) (hP:∀c,MP (Ac K c)=some [I (Bp K c)]) (hL:ML (I l::Ac K c)=some (Ac K (ET K c l))):
  WC MA MP ML (I l::I s.to.x::I s.to.y::I s.to.z::I s.len::I s.item::I s.feed::I s.lead::Ac K c)=some (Ac K (PI K c l s)):=by
 rw[Zsr];unfold PI;generalize ET K c l=d at*;refine eB hL (eT (inM (f:=Af) h0 h1) ?_);show cond (gA (nth [] (K.items.map Af) s.item.toNat) 19==3) _ _=_;rw[Jv h0 h1];unfold Qua;refine eC (λe=> ?_) λe=> ?_
 ·rw[aa (show(itK K s.item).n=3 from eq_of_beq e)];exact eB (hP d) (eB (hA _ (Th _)) rfl)
 ·rw[ab (show(itK K s.item).n≠3 by simpa [gA,nth,Ag]using e)];exact eB (hP d) (eB (hA _ (Th _)) rfl)
theorem Q7n {K:Kf} {c:Cv} {n:Int} (h:KOK K) (g:Gd K n c) (hn:0<=n/\n<=10000) (l:Int) {s:Sgm} (hs:0<=s.item/\s.item<K.items.length/\i64 s.lead):
  Pq (I l::I s.to.x::I s.to.y::I s.to.z::I s.len::I s.item::I s.feed::I s.lead::Ac K c)=some (Ac K (PI K c l s)):=
 Zo0 hs.1 hs.2.1 (λv hv=>Zsa hs.2.2 hv) (Te h) (Qlj h g l)
def thL (K:Kf) (c:Cv) (l lead:Int):List AC:=pxt K.p K.x K.t [I K.pa,I K.pb,I K.pc,I c.o0,I c.o1,B c.o2,B c.o3,B c.o4,I c.m0,I c.m1,I c.m2,I c.m3,I c.m4,I c.m5,I l,I lead,I c.e0,I c.e1,I c.e2,I c.e3,I c.before,I c.s3]
def thO (K:Kf) (c:Cv) (l lead:Int):List AC:=(IA (thL K c l lead)).getD []
def Iq (c:Cv) (o:List AC):Cv:={SS c (gA o 1)with e0:=gA o 6,e1:=gA o 7,e2:=gA o 8,e3:=gA o 9}
def II (K:Kf) (c:Cv) (l lead:Int):Cv:=
 if c.g0≠0 then{ET K c l with e0:=3}else if gA (thO K c l lead) 10≠0 then Cp (Iq c (thO K c l lead))else Iq c (thO K c l lead)
theorem Y1 {K:Kf} {c:Cv} {n:Int} (h:KOK K) (g:Gd K n c) (l:Int) {lead:Int} (hl:i64 lead):
  IA (thL K c l lead)=some (thO K c l lead)/\∃v s b z y e:Int,thO K c l lead=Eh c.m0 c.m1 c.m3 c.m4 v++[I s,I b,I z,I y,I e]/\((AG K.pa K.pb v (wrap .i64 (v-c.m1))).2=true\/∃r:Int,v=wrap .i64 (c.m1+r)/\r=AF K.pa K.pb c.m1 c.m2):=by
 obtain⟨o,h1,v,s,b,z,y,e,rfl,h2⟩:=Zsh h g.mo l hl;have h1:IA (thL K c l lead)=some (Eh c.m0 c.m1 c.m3 c.m4 v++[I s,I b,I z,I y,I e]):=h1;have e2:thO K c l lead=Eh c.m0 c.m1 c.m3 c.m4 v++[I s,I b,I z,I y,I e]:=by unfold thO;rw[h1];rfl
 rw[e2];exact⟨h1,v,s,b,z,y,e,rfl,h2⟩
theorem Zo5 {MF MT ML:Fn} {K:Kf} {c:Cv} {l:Int} {s:Sgm} (hF:∀c,MF (Ac K c)=some (Ac K (Cp c)))
  (hT:MT (thL K c l s.lead)=some (thO K c l s.lead)) (hS:∃v s' b z y e:Int,thO K c l s.lead=Eh c.m0 c.m1 c.m3 c.m4 v++[I s',I b,I z,I y,I e]) (hL:ML (I l::Ac K c)=some (Ac K (ET K c l))):
  Qmf MF MT ML (I l::I s.to.x::I s.to.y::I s.to.z::I s.len::I s.item::I s.feed::I s.lead::Ac K c)=some (Ac K (II K c l s.lead)):=by
 rw[Zyo];unfold II;refine eC (λe=> ?_) λe=> ?_
 ·rw[aa (show c.g0≠0 by simpa using e)];generalize ET K c l=d at*;exact eB hL rfl
 ·rw[ab (show¬c.g0≠0 by simpa using e)];obtain⟨v,s',b,z,y,e',hs⟩:=hS;generalize thO K c l s.lead=o at*;subst hs;refine eB hT ?_;refine eC (λq=> ?_) λq=> ?_
  ·rw[aa (show gA (Eh c.m0 c.m1 c.m3 c.m4 v++[I s',I b,I z,I y,I e']) 10≠0 by simpa using q)];refine Eq.trans (congrArg (λz=>Option.bind z _) (hF (Iq c (Eh c.m0 c.m1 c.m3 c.m4 v++[I s',I b,I z,I y,I e'])))) rfl
  ·rw[ab (show¬gA (Eh c.m0 c.m1 c.m3 c.m4 v++[I s',I b,I z,I y,I e']) 10≠0 by simpa using q)];rfl
theorem Qr1 {K:Kf} {c:Cv} {n:Int} (h:KOK K) (g:Gd K n c) (hn:0<=n/\n<=10000) (l:Int) {s:Sgm} (hs:i64 s.lead):
  Pr (I l::I s.to.x::I s.to.y::I s.to.z::I s.len::I s.item::I s.feed::I s.lead::Ac K c)=some (Ac K (II K c l s.lead)):=by
 obtain⟨h1,v,s',b,z,y,e,h2,-⟩:=Y1 h g l hs;exact Zo5 (XZ K) h1 ⟨v,s',b,z,y,e,h2⟩ (Qlj h g l)
def Ft (K:Kf) (c:Cv) (l:Int) (g:Sgm):Cv:=if(itK K g.item).kind=6 then PI K c l g else II K c l g.lead
def E6 (K:Kf) (c:Cv) (l:Int):Cv:=
 if(sgK K c).lead=0\/(c.o2=true/\c.y0≠(sgK K c).item)then ET K c l
 else if c.y0=(sgK K c).item then Ft K c l (sgK K c)
 else if EY K c (sgK K c)=true then Ft K (goC K c (sgK K c)) l (sgK K c)
 else if c.s1=0 then Cp c else c
theorem Gd.go {K:Kf} {n:Int} {c:Cv} (g:Gd K n c) (s:Sgm):Gd K n (goC K c s):=⟨g.way,g.pass,g.task,g.mo,g.m0⟩
theorem Z3m {MH MT MF MS ML MG':Fn} {K:Kf} {c:Cv} {l:Int} (hok:(sgK K c).lead≠0->0<=(sgK K c).item/\(sgK K c).item<K.items.length)
  (hG:MG' (Ac K c)=some (AB (sgK K c)++[B (FV K c).isSome])) (hL:ML (I l::Ac K c)=some (Ac K (ET K c l)))
  (hS:(sgK K c).lead≠0->MS (I (sgK K c).to.x::I (sgK K c).to.y::I (sgK K c).to.z::I (sgK K c).len::I (sgK K c).item::I (sgK K c).feed::I (sgK K c).lead::Ac K c)=some (B (EY K c (sgK K c))::Ac K (if EY K c (sgK K c)=true then goC K c (sgK K c)else c)))
  (hF:MF (Ac K c)=some (Ac K (Cp c)))
  (hT:(sgK K c).lead≠0->∀d,d=c\/d=goC K c (sgK K c)->MT (I l::I (sgK K c).to.x::I (sgK K c).to.y::I (sgK K c).to.z::I (sgK K c).len::I (sgK K c).item::I (sgK K c).feed::I (sgK K c).lead::Ac K d)=some (Ac K (PI K d l (sgK K c))))
  (hH:(sgK K c).lead≠0->∀d,d=c\/d=goC K c (sgK K c)->MH (I l::I (sgK K c).to.x::I (sgK K c).to.y::I (sgK K c).to.z::I (sgK K c).len::I (sgK K c).item::I (sgK K c).feed::I (sgK K c).lead::Ac K d)=some (Ac K (II K d l (sgK K c).lead))):
  Qju MH MT MF MS ML MG' (I l::Ac K c)=some (Ac K (E6 K c l)):=by
 rw[Z1h];unfold E6;generalize sgK K c=s at*;refine eB hG ?_;refine eC (λe=> ?_) λe=> ?_
 ·rw[aa (.inl (show s.lead=0 from eq_of_beq e))];generalize ET K c l=d at*;exact eB hL rfl
 ·have e:s.lead≠0:=by simpa [gA,nth,Ag]using e
  obtain⟨q0,q1⟩:=hok e;have hS:=hS e;have hT:=hT e;have hH:=hH e
  have syn:∀{d:Cv} {f1 f2:List AC->List AC},d=c\/d=goC K c s->(∀c,f1 (Ac K c)=Ac K c)->(∀c,f2 (Ac K c)=Ac K c)->
    (bif decide (0<=s.item)&&decide (s.item<((K.items.map Af).length:Int))then(bif gA (nth [] (K.items.map Af) s.item.toNat) 0==6 then(MT (I l::I s.to.x::I s.to.y::I s.to.z::I s.len::I s.item::I s.feed::I s.lead::Ac K d)).bind λo=>some (f1 o)else(MH (I l::I s.to.x::I s.to.y::I s.to.z::I s.len::I s.item::I s.feed::I s.lead::Ac K d)).bind λo=>some (f2 o))else none)=some (Ac K (Ft K d l s)):=λhd h1 h2=>by
   refine eT (inM (f:=Af) q0 q1) ?_;rw[Jv q0 q1];unfold Ft;refine eC (λk=> ?_) λk=> ?_
   ·rw[aa (show(itK K s.item).kind=6 from eq_of_beq k)];exact eB (hT _ hd) (congrArg some (h1 _))
   ·rw[ab (show(itK K s.item).kind≠6 by simpa [gA,nth,Ag]using k)];exact eB (hH _ hd) (congrArg some (h2 _))
  have hg:ST c (AB s++[B (FV K c).isSome]) MS K MF MT l MH=some (Ac K (if c.y0=s.item then Ft K c l s else if EY K c s=true then Ft K (goC K c s) l s else if c.s1=0 then Cp c else c)):=by
   refine eC (λy=> ?_) λy=> ?_
   ·have y:c.y0≠s.item:=by simpa [gA,nth,Ag]using y
    rw[ab y];refine eB hS ?_;cases hm:EY K c s
    ·refine eT rfl ?_;rw[ab (by simp),ab (by simp)];refine eC (λz=> ?_) λz=> ?_
     ·rw[aa (show c.s1=0 from eq_of_beq z)];generalize Cp c=d at*;exact eB hF rfl
     ·rw[ab (show c.s1≠0 by simpa [gA,nth,Ag]using z)];rfl
    ·refine eF rfl ?_;rw[aa rfl,aa rfl];have h:=syn (d:=goC K c s) (f1:=λo=>cR 0 o) (f2:=λo=>cR 0 o) (.inr rfl) (λ_=>rfl) (λ_=>rfl);generalize goC K c s=d at*;exact h
   ·have y:c.y0=s.item:=by simpa [gA,nth,Ag]using y
    rw[aa y];exact syn (f1:=λo=>cR 0 o) (f2:=λo=>cR 0 o) (.inl rfl) (λ_=>rfl) (λ_=>rfl)
  refine eC (λa=>eC (λb=> ?_) λb=> ?_) λa=> ?_
  ·have b:c.y0≠s.item:=by simpa [gA,nth,Ag]using b
   rw[aa (.inr ⟨a,b⟩)];generalize ET K c l=d at*;exact eB hL rfl
  ·have b:c.y0=s.item:=by simpa [gA,nth,Ag]using b
   rw[ab (λq=>by rcases q with q|q;exact e q;exact q.2 b)];exact hg
  ·rw[ab (λq=>by rcases q with q|q;exact e q;rw[a]at q;cases q.1)];exact hg
theorem Zot {K:Kf} {c:Cv} {n:Int} (h:KOK K) (g:Gd K n c) (hn:0<=n/\n<=10000) (l:Int):PD (I l::Ac K c)=some (Ac K (E6 K c l)):=
 Z3m (λe=>⟨(Gt h e).1,(Gt h e).2.1⟩) (Qwz h c) (Qlj h g l) (λe=>Zku h (Gt h e).1 (Gt h e).2.1) (XZ K c)
  (λe d hd=>by rcases hd with rfl|rfl;exact Q7n h g hn l (Gt h e);exact Q7n h (g.go _) hn l (Gt h e))
  (λe d hd=>by rcases hd with rfl|rfl;exact Qr1 h g hn l (Gt h e).2.2;exact Qr1 h (g.go _) hn l (Gt h e).2.2)
def Do (K:Kf) (c:Cv):Int×Cv:=
 if c.aL=true/\c.m0=wrap .i64 ((AR K c).1*256)then
  (if 0 <= (AR K c).2 then
   (if(mkK K (AR K c).2).item=(Dc K c (AR K c).2).2.y0/\(itK K (mkK K (AR K c).2).item).kind=5/\(Dc K c (AR K c).2).2.e0=1 then((Dc K c (AR K c).2).1,Cp (Dc K c (AR K c).2).2)else Dc K c (AR K c).2)
  else if K.closed=true then(7,{c with aH:=7})else(1,c))
 else(if c.g0≠0/\c.aL=true then 6 else 1,E6 K c (AR K c).1)
theorem Zm1 {MM MF MB ML:Fn} {K:Kf} {c:Cv} (h:KOK K) (hi:(AR K c).2= -1\/0<=(AR K c).2/\c.next<=(AR K c).2/\(AR K c).2<K.p.aC.length)
  (hL:ML (Ac K c)=some (I (AR K c).1::I (AR K c).2::Ac K c)) (hB:0<=(AR K c).2->(AR K c).2<K.p.aC.length->MB (I (AR K c).2::Ac K c)=some (I (Dc K c (AR K c).2).1::Ac K (Dc K c (AR K c).2).2))
  (hF:∀c,MF (Ac K c)=some (Ac K (Cp c))) (hM:MM (I (AR K c).1::Ac K c)=some (Ac K (E6 K c (AR K c).1))):
  Qb7 MM MF MB ML (Ac K c)=some (I (Do K c).1::Ac K (Do K c).2):=by
 rw[Zp8];unfold Do;generalize E6 K c (AR K c).1=mv at*;have hbb:=hB;generalize hb:Dc K c (AR K c).2=bg at*;clear hb;generalize AR K c=li at*;refine eB hL ?_;have mov:∀{a:Prop} [Decidable a],¬(c.aL=true/\c.m0=wrap .i64 (li.1*256))->∀{x:Option (List AC)},x=some (I (if c.g0≠0/\c.aL=true then 6 else 1)::Ac K mv)->
   x=some (I (if c.aL=true/\c.m0=wrap .i64 (li.1*256)then(if 0<=li.2 then(if(mkK K li.2).item=bg.2.y0/\(itK K (mkK K li.2).item).kind=5/\bg.2.e0=1 then(bg.1,Cp bg.2)else bg)else if K.closed=true then(7,{c with aH:=7})else(1,c))else(if c.g0≠0/\c.aL=true then 6 else 1,mv)).1::Ac K (if c.aL=true/\c.m0=wrap .i64 (li.1*256)then(if 0<=li.2 then(if(mkK K li.2).item=bg.2.y0/\(itK K (mkK K li.2).item).kind=5/\bg.2.e0=1 then(bg.1,Cp bg.2)else bg)else if K.closed=true then(7,{c with aH:=7})else(1,c))else(if c.g0≠0/\c.aL=true then 6 else 1,mv)).2):=λhn _ hx=>by
  rw[ab hn];exact hx
 refine eC (λs=>eC (λe=> ?_) λe=> ?_) λs=> ?_
 ·have s:c.aL=true:=s;have e:c.m0=wrap .i64 (li.1*256):=eq_of_beq e;rw[aa ⟨s,e⟩];refine eC (λk=> ?_) λk=> ?_
  ·have k:0<=li.2:=Bt k;rw[aa k];have k2:li.2<K.p.aC.length:=by
    rcases hi with hi|hi
    ·omega
    ·exact hi.2.2
   have hm:=PY h k k2;refine eB (hB k k2) (eT (inM (f:=Au) k k2) ?_);have er:nth [] (K.p.aC.map Au) li.2.toNat=Au (mkK K li.2):=Of k k2;have er2:nth [] (K.items.map Af) (mkK K li.2).item.toNat=Af (itK K (mkK K li.2).item):=Jv hm.1 hm.2.1;refine eC (λy=> ?_) λy=> ?_
   ·have y:(mkK K li.2).item=bg.2.y0:=by
     have:=eq_of_beq (show(gA (nth [] (K.p.aC.map Au) li.2.toNat) 2==bg.2.y0)=true from y);rw[er]at this;exact this
    refine eT (show(decide (0<=gA (nth [] (K.p.aC.map Au) li.2.toNat) 2)&&decide (gA (nth [] (K.p.aC.map Au) li.2.toNat) 2<((K.items.map Af).length:Int)))=true by rw[er];exact inM (f:=Af) (l:=K.items) (i:=(mkK K li.2).item) hm.1 hm.2.1) ?_;have ek:gA (nth [] (K.items.map Af) (gA (nth [] (K.p.aC.map Au) li.2.toNat) 2).toNat) 0=(itK K (mkK K li.2).item).kind:=by
     rw[er];show gA (nth [] (K.items.map Af) (mkK K li.2).item.toNat) 0=_;rw[er2];rfl
    refine eC (λq=> ?_) λq=> ?_
    ·have q:(itK K (mkK K li.2).item).kind=5:=by rw[<-ek];exact eq_of_beq q
     refine eC (λz=> ?_) λz=> ?_
     ·have z:bg.2.e0=1:=eq_of_beq z;rw[aa ⟨y,q,z⟩];exact eB (hF bg.2) rfl
     ·have z:bg.2.e0≠1:=λe=>by have:(bg.2.e0==1)=false:=z;rw[beT e]at this;cases this
      rw[ab (λw=>z w.2.2)];rfl
    ·have q:(itK K (mkK K li.2).item).kind≠5:=λe=>by
      have:(gA (nth [] (K.items.map Af) (gA (nth [] (K.p.aC.map Au) li.2.toNat) 2).toNat) 0==5)=false:=q;rw[ek,beT e]at this;cases this
     rw[ab (λw=>q w.2.1)];rfl
   ·have y:(mkK K li.2).item≠bg.2.y0:=λe=>by
     have:(gA (nth [] (K.p.aC.map Au) li.2.toNat) 2==bg.2.y0)=false:=y;rw[er]at this;rw[show(gA (Au (mkK K li.2)) 2==bg.2.y0)=true from beT e]at this;cases this
    rw[ab (λw=>y w.1)];rfl
  ·have k: ¬0<=li.2:=Bq k;rw[ab k];refine eC (λq=> ?_) λq=> ?_
   ·rw[aa (show K.closed=true from q)];rfl
   ·rw[ab (show¬K.closed=true by rw[show K.closed=false from q];simp)];rfl
 ·have e:c.m0≠wrap .i64 (li.1*256):=λe'=>by
   have:(c.m0==wrap .i64 (li.1*256))=false:=e;rw[beT e']at this;cases this
  refine mov (a:=True) (λw=>e w.2) ?_;refine eC (λq=> ?_) λq=> ?_
  ·have q:c.g0≠0:=λe=>by
    have:(c.g0 !=0)=true:=q;rw[bnF e]at this;cases this
   refine eB hM (eT (show c.aL=true from s) ?_);rw[aa ⟨q,show c.aL=true from s⟩];rfl
  ·have q:c.g0=0:=Decidable.byContradiction λe=>by
    have:(c.g0 !=0)=false:=q;rw[bnT e]at this;cases this
   refine eB hM ?_;rw[ab (λw=>w.1 q)];rfl
 ·have s:c.aL=false:=s;refine mov (a:=True) (λw=>by rw[s]at w;cases w.1) ?_;refine eC (λq=> ?_) λq=> ?_
  ·refine eB hM (eF (show c.aL=false from s) ?_);rw[ab (λw=>by rw[s]at w;cases w.2)];rfl
  ·refine eB hM ?_;rw[ab (λw=>by rw[s]at w;cases w.2)];rfl
theorem Z3b {K:Kf} {c:Cv} {n:Int} (h:KOK K) (g:Gd K n c) (hn:0<=n/\n<=10000):LJ (Ac K c)=some (I (Do K c).1::Ac K (Do K c).2):=
 Zm1 h (Qm3 K c) (Zo7 h c) (λh0 h1=>Zgb h h0 h1) (XZ K) (Zot h g hn _)
def swI (s:Int) (it:Itm):Int:=one KB (I s::Af it)
theorem Zjg (s:Int) (it:Itm):KB (I s::Af it)=some [I (swI s it)]:=by
 have key:∃v,KB (I s::Af it)=some [I v]:=by
  show∃v,Qal (I s::Af it)=some [I v];rw[Zvg];by_cases h1:it.kind=10
  ·rw[Bk (bnF h1)];by_cases h2:it.n<0
   ·rw[Bx (an h2)];exact⟨_,rfl⟩
   ·rw[Bk (ap h2)];by_cases h3:it.n>=16
    ·rw[Bx (an h3)];exact⟨_,rfl⟩
    ·rw[Bk (ap h3),Bk (ap (by simp[IntKind.wrap,IntKind.signed,IntKind.bits];omega))];cases it.on<;>exact⟨_,rfl⟩
  ·rw[Bx (bnT h1)];exact⟨_,rfl⟩
 obtain⟨v,h⟩:=key;exact VD h
def EE (K:Kf) (s:Int):List Mrk->Cv->List Int×Cv
 |[],c=>([],c)
 |m::l,c=>if m.at_>s\/(m.at_=s/\c.next<=c.aJ/\Ec m.kind c=true)then([],c)
  else if m.kind=5 then(m.item::(EE K s l {c with outs:=swI c.outs (itK K m.item),aJ:=c.aJ+1}).1,(EE K s l {c with outs:=swI c.outs (itK K m.item),aJ:=c.aJ+1}).2)
  else EE K s l {c with aJ:=c.aJ+1}
def Ce (K:Kf) (c:Cv) (s:Int):List Int×Cv:=EE K s (K.p.aC.drop c.aJ.toNat) c
theorem Zfd {MS MA:Fn} {K:Kf} {c:Cv} (h:KOK K) (hp:0<=c.aJ/\c.aJ<=K.p.aC.length) (s:Int)
  (hA:∀(c:Cv) (at_ k it:Int),MA [I at_,I k,I it,I c.o0,I c.o1,B c.o2,B c.o3,B c.o4]=some [B (Ec k c)]) (hS:∀(s:Int) (it:Itm),MS (I s::Af it)=some [I (swI s it)]):
  Qe8 MS MA (Am (TU MS MA)) (I s::Ac K c)=some (.view Aa ((Ce K c s).1.map Aq)::Ac K (Ce K c s).2):=by
 rw[Zs0];have key:Out (λo=>o=(1, .view Aa ((Ce K c s).1.map Aq)::Ac K (Ce K c s).2)) (Am (TU MS MA) (.view Aa (([]:List Int).map Aq)::I s::Ac K c)):=by
  have hc:=h.count;refine CX (λz:List Int×Cv=> .view Aa (z.1.map Aq)::I s::Ac K z.2)
   (λz=>0<=z.2.aJ/\z.2.aJ<=K.p.aC.length/\(z.1.length:Int)<=z.2.aJ/\(Ce K c s).1=z.1++(EE K s (K.p.aC.drop z.2.aJ.toNat) z.2).1/\(Ce K c s).2=(EE K s (K.p.aC.drop z.2.aJ.toNat) z.2).2)
   (λz=>(K.p.aC.length-z.2.aJ).toNat) _ ?_ ([],c) ⟨hp.1,hp.2,by simp;omega,rfl,rfl⟩
  rintro⟨l,d⟩ ⟨g1,g2,g3,g4,g5⟩;dsimp only at g1 g2 g3 g4 g5;refine Out.eqv (Zp4 MS MA _ _ K d) ?_;refine .cond (λk=> ?_) λk=> ?_
  ·have k:d.aJ<((K.p.aC.map Au).length:Int):=Bt k;rw[ag]at k;have hi:d.aJ.toNat<K.p.aC.length:=by omega
   have em:mkK K d.aJ=K.p.aC[d.aJ.toNat]:=by unfold mkK;rw[List.getD,ai hi];rfl
   have hm:=PY h g1 k;rw[List.drop_eq_getElem_cons hi,<-em]at g4 g5;unfold EE at g4 g5;refine .cond (λ_=> ?_) λe=>(inB g1 (by rw[ag];exact k) e).elim;rw[Of g1 k];generalize hmk:mkK K d.aJ=m at*;have wp:wrap .i64 (d.aJ+1)=d.aJ+1:=Ae (by omega);have np:(d.aJ+1).toNat=d.aJ.toNat+1:=by omega
   have stop:(m.at_>s\/(m.at_=s/\d.next<=d.aJ/\Ec m.kind d=true))->∀{x:List AC},x= .view Aa (l.map Aq)::Ac K d->Out (λo:Nat×List AC=>(o.1=0/\∃s':List Int×Cv,o.2= .view Aa (s'.1.map Aq)::I s::Ac K s'.2/\(0<=s'.2.aJ/\s'.2.aJ<=K.p.aC.length/\(s'.1.length:Int)<=s'.2.aJ/\(Ce K c s).1=s'.1++(EE K s (K.p.aC.drop s'.2.aJ.toNat) s'.2).1/\(Ce K c s).2=(EE K s (K.p.aC.drop s'.2.aJ.toNat) s'.2).2)/\(K.p.aC.length-s'.2.aJ).toNat<(K.p.aC.length-d.aJ).toNat)\/(o.1≠0/\o=(1, .view Aa ((Ce K c s).1.map Aq)::Ac K (Ce K c s).2))) (some (1,x)):=λhs _ hx=>by
    rw[aa hs]at g4 g5;subst hx;refine .some (.inr ⟨by simp,?_⟩);rw[g4,g5,List.append_nil]
   have go: ¬(m.at_>s\/(m.at_=s/\d.next<=d.aJ/\Ec m.kind d=true))->Out (λo:Nat×List AC=>(o.1=0/\∃s':List Int×Cv,o.2= .view Aa (s'.1.map Aq)::I s::Ac K s'.2/\(0<=s'.2.aJ/\s'.2.aJ<=K.p.aC.length/\(s'.1.length:Int)<=s'.2.aJ/\(Ce K c s).1=s'.1++(EE K s (K.p.aC.drop s'.2.aJ.toNat) s'.2).1/\(Ce K c s).2=(EE K s (K.p.aC.drop s'.2.aJ.toNat) s'.2).2)/\(K.p.aC.length-s'.2.aJ).toNat<(K.p.aC.length-d.aJ).toNat)\/(o.1≠0/\o=(1, .view Aa ((Ce K c s).1.map Aq)::Ac K (Ce K c s).2))) (Nk K d (l.map Aq) MS s):=λhs=>by
    rw[ab hs]at g4 g5;unfold Nk;rw[Of g1 k,hmk,wp];refine .cond (λq=> ?_) λq=> ?_
    ·have q:m.kind=5:=eq_of_beq q;rw[aa q]at g4 g5;refine .cond (λ_=> ?_) λe=>by rw[B_ (by simp;omega)]at e;cases e
     refine .cond (λ_=> ?_) λe=>(inB (show 0<=gA (Au m) 2 from hm.1) (show gA (Au m) 2<((K.items.map Af).length:Int) by rw[ag];exact hm.2.1) e).elim;rw[show nth [] (K.items.map Af) (gA (Au m) 2).toNat=Af (itK K m.item)from Jv hm.1 hm.2.1];refine .bind (p:=λo=>o=_) ⟨_,hS d.outs (itK K m.item),rfl⟩ λo e=> ?_;subst e;refine .some (.inl ⟨rfl,(l++[m.item],{d with outs:=swI d.outs (itK K m.item),aJ:=d.aJ+1}),?_,⟨by dsimp only;omega,by dsimp only;omega,by simp;omega,?_,?_⟩,by dsimp only;omega⟩)
     ·rw[bt];rfl
     ·dsimp only;rw[g4,np];simp
     ·dsimp only;rw[g5,np]
    ·have q:m.kind≠5:=by simpa [gA,nth,Ag]using q
     rw[ab q]at g4 g5;refine .some (.inl ⟨rfl,(l,{d with aJ:=d.aJ+1}),rfl,⟨by dsimp only;omega,by dsimp only;omega,by dsimp only;omega,?_,?_⟩,by dsimp only;omega⟩)
     ·dsimp only;rw[g4,np]
     ·dsimp only;rw[g5,np]
   refine .cond (λa=>stop (.inl (Bt a)) rfl) λa=> ?_;have a: ¬m.at_>s:=Bq a;refine .cond (λb=> .cond (λe=> ?_) λe=>go λw=> ?_) λb=>go λw=> ?_
   ·refine .bind (p:=λo=>o=_) ⟨_,hA d _ _ _,rfl⟩ λo q=> ?_;subst q;refine .cond (λq=>stop (.inr ⟨eq_of_beq b,Bt e,q⟩) rfl) λq=>go λw=> ?_;have q:Ec m.kind d=false:=q;rcases w with w|w
    ·exact a w
    ·rw[q]at w;cases w.2.2
   ·rcases w with w|w
    ·exact a w
    ·exact Bq e w.2.1
   ·rcases w with w|w
    ·exact a w
    ·have:(m.at_==s)=false:=b;rw[beT w.1]at this;cases this
  ·have k: ¬d.aJ<((K.p.aC.map Au).length:Int):=Bq k;rw[ag]at k;rw[List.drop_of_length_le (by omega)]at g4 g5;refine .some (.inr ⟨by simp,?_⟩);rw[g4,g5];simp[EE]
 obtain⟨o,h1,rfl⟩:=key;exact eB h1 rfl
theorem Zeu {K:Kf} {c:Cv} (h:KOK K) (hp:0<=c.aJ/\c.aJ<=K.p.aC.length) (s:Int):QW (I s::Ac K c)=some (.view Aa ((Ce K c s).1.map Aq)::Ac K (Ce K c s).2):=
 Zfd h hp s (λc at_ k it=>Q3t at_ k it c) Zjg
end Go.Bm
