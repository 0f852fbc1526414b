/- laid together -/
import Derived.Test.YtommijghjlikkaaGreatPrKj
import Derived.Test.YtommijghjlikkaaGreatMx3
import Derived.Test.YtommijghjlikkaaGreatPrAtF
set_option linter.unusedVariables false
set_option linter.unusedSimpArgs false
set_option maxRecDepth 100000
open Go.IntKind (wrap)
namespace Go.Bm
def BE (k b:Int):Int:=if b<=0 then 0 else(b-1)/k*b-k*((b-1)/k*((b-1)/k+1)/2)
def Cy (j k v a:Int):Prop:= -j<=a/\a<=j/\BE k (-a)<=v/\v<=16777216-BE k a/\(v=0->a<=k)
instance (j k v a:Int):Decidable (Cy j k v a):=by unfold Cy;infer_instance
theorem Q3d {k b:Int} (hk:2<=k/\k<=65536) (hb:0<b/\b<=1048576):
  0<=(b-1)/k/\(b-1)/k<=524288/\k*((b-1)/k)<=b-1/\0<=(b-1)/k*b/\(b-1)/k*b<=549755813888/\0<=(b-1)/k*((b-1)/k+1)/\(b-1)/k*((b-1)/k+1)<=274878431232:=by
 have h0:0<=(b-1)/k:=Int.ediv_nonneg (by omega) (by omega);have h1:k*((b-1)/k)<=b-1:=Int.mul_ediv_self_le (by omega);have h2:2*((b-1)/k)<=k*((b-1)/k):=Int.mul_le_mul_of_nonneg_right hk.1 h0;have h3:(b-1)/k<=524288:=by omega
 have h4:(b-1)/k*b<=524288*1048576:=Int.mul_le_mul h3 hb.2 (by omega) (by omega);have h5:(b-1)/k*((b-1)/k+1)<=524288*524289:=Int.mul_le_mul h3 (by omega) (by omega) (by omega);exact⟨h0,h3,h1,Int.mul_nonneg h0 (by omega),by omega,Int.mul_nonneg h0 (by omega),by omega⟩
theorem J0 {k b:Int} (h:b<=0):BE k b=0:=by simp[BE,h]
theorem Q36 {k b:Int} (h:b<=k):BE k b=0:=by
 unfold BE;split
 ·rfl
 ·rw[Int.ediv_eq_zero_of_lt (by omega) (by omega)];simp
theorem Z0i (m:Int):m*(m+1)/2=(m-1)*m/2+m:=by
 have:m*(m+1)=(m-1)*m+m*2:=by
  rw[Int.sub_mul,Int.mul_add,Int.mul_one,Int.one_mul];omega
 rw[this,Int.add_mul_ediv_right _ _ (by omega)]
theorem U3 {k b:Int} (hk:0<k) (h:k<b):BE k b=(b-k)+BE k (b-k):=by
 have e1:(b-1)/k=(b-k-1)/k+1:=by
  have:b-1=(b-k-1)+k*1:=by omega
  rw[this,Int.add_mul_ediv_left _ _ (by omega)]
 unfold BE;rw[if_neg (by omega),if_neg (by omega),e1];generalize(b-k-1)/k=m;rw[Z0i (m+1)];have e2:m+1-1=m:=by omega
 rw[e2,Int.mul_add k,Int.add_mul m 1 b,Int.mul_sub m b k,Int.mul_add k m 1,Int.mul_comm k m];omega
theorem Qxe {k:Int} (hk:0<k):∀(n:Nat) (b:Int),b<=n->0<=BE k b
 |0,b,h=>by rw[J0 (by omega)];omega
 |n+1,b,h=>by
  by_cases hb:b<=k
  ·rw[Q36 hb];omega
  ·rw[U3 hk (by omega)];have:=Qxe hk n (b-k) (by omega);omega
theorem KL {k b:Int} (hk:0<k):0<=BE k b:=Qxe hk b.toNat b (by omega)
theorem Qv4 {k b:Int} (hk:2<=k/\k<=65536) (hb:b<=1048576):BE k b<=549755813888:=by
 unfold BE;split
 ·omega
 ·have p:=Q3d (k:=k) (b:=b) hk ⟨by omega,hb⟩;generalize(b-1)/k=m at p⊢;obtain⟨p1,p2,p3,p4,p5,p6,p7⟩:=p;have q1:0<=k*(m*(m+1)/2):=Int.mul_nonneg (by omega) (by omega);omega
def bs (k v:Int):Nat->Int->Int->Int
 |0,low,_=>low
 |n+1,low,high=>if low<high then
   if BE k (high-(high-low)/2)<=v-(high-(high-low)/2)then bs k v n (high-(high-low)/2) high else bs k v n low (high-(high-low)/2-1)
  else low
def AK (j k v a:Int):Int:= -(bs k v 20 (-a-k) (min (k-a) j))
theorem Qms (k v:Int):∀(n:Nat) (low high:Int),low<=bs k v n low high/\bs k v n low high<=max low high
 |0,low,high=>by simp only[bs];omega
 |n+1,low,high=>by
  unfold bs;split
  ·split
   ·have:=Qms k v n (high-(high-low)/2) high;omega
   ·have:=Qms k v n low (high-(high-low)/2-1);omega
  ·omega
theorem Qa1 (k v:Int):∀(n:Nat) (low high:Int),low<=high->high-low<2^n->BE k low<=v-low->
  BE k (bs k v n low high)<=v-bs k v n low high/\low<=bs k v n low high/\bs k v n low high<=high/\(bs k v n low high=high\/v-(bs k v n low high+1)<BE k (bs k v n low high+1))
 |0,low,high,h1,h2,h3=>by
  simp only[bs];have:high-low<1:=by simpa using h2
  exact⟨h3,by omega,h1, .inl (by omega)⟩
 |n+1,low,high,h1,h2,h3=>by
  have hp:(2:Int)^(n+1)=2*2^n:=by rw[Int.pow_succ];omega
  unfold bs;by_cases hlt:low<high
  ·rw[if_pos hlt];by_cases hc:BE k (high-(high-low)/2)<=v-(high-(high-low)/2)
   ·rw[if_pos hc];obtain⟨a,b,c,d⟩:=Qa1 k v n (high-(high-low)/2) high (by omega) (by omega) hc;exact⟨a,by omega,c,d⟩
   ·rw[if_neg hc];obtain⟨a,b,c,d⟩:=Qa1 k v n low (high-(high-low)/2-1) (by omega) (by omega) h3;refine⟨a,b,by omega, .inr ?_⟩;rcases d with d|d
    ·have e:bs k v n low (high-(high-low)/2-1)+1=high-(high-low)/2:=by omega
     rw[e];omega
    ·exact d
  ·rw[if_neg hlt];exact⟨h3,by omega,h1, .inl (by omega)⟩
theorem Q4t {j k r v a:Int} (hp:Plan3 j k r) (hr:Cy j k v a) {B:Int} (hB:B=bs k v 20 (-a-k) (min (k-a) j)):
  BE k B<=v-B/\ -a-k<=B/\B<=k-a/\B<=j/\(B=min (k-a) j\/v-(B+1)<BE k (B+1))/\0<=v:=by
 obtain⟨⟨p1,p2⟩,⟨p3,p4⟩,p5,p6⟩:=hp;obtain⟨h1,h2,h3,h4,h5⟩:=hr;have hk:0<k:=by omega
 have l0:=KL (b:= -a) hk;have hlow:BE k (-a-k)<=v-(-a-k):=by
  by_cases hc:k< -a
  ·rw[U3 hk hc]at h3;omega
  ·rw[J0 (by omega)];omega
 obtain⟨q1,q2,q3,q4⟩:=Qa1 k v 20 (-a-k) (min (k-a) j) (by omega) (by simp;omega) hlow;rw[<-hB]at q1 q2 q3 q4;exact⟨q1,q2,by omega,by omega,q4,by omega⟩
theorem closed {j k r v a:Int} (hp:Plan3 j k r) (hr:Cy j k v a):
  Cy j k (v+AK j k v a) (AK j k v a)/\AK j k v a-a<=k/\a-AK j k v a<=k/\(0<a\/(v=0/\AK j k v a=0)\/AK j k v a<0):=by
 obtain⟨B,hB⟩:∃B,B=bs k v 20 (-a-k) (min (k-a) j):=⟨_,rfl⟩;have hb:AK j k v a= -B:=by unfold AK;rw[hB]
 obtain⟨q1,q2,q3,q4,q5,q6⟩:=Q4t hp hr hB;rw[hb];obtain⟨⟨p1,p2⟩,⟨p3,p4⟩,p5,p6⟩:=hp;obtain⟨h1,h2,h3,h4,h5⟩:=hr;have hk:0<k:=by omega
 have top:B+1<=0->B=min (k-a) j:=by
  intro h;rcases q5 with q5|q5
  ·exact q5
  ·rw[J0 h]at q5;omega
 have hB0: -a<=B\/0<=B:=by
  by_cases hn:B+1<=0
  ·have:=top hn;omega
  ·right;omega
 have hneg:a<=0->0<=B:=fun ha=>by
  by_cases hn:B+1<=0
  ·have:=top hn;omega
  ·omega
 have la:=KL (b:=a) hk;have hjB: -j<=B:=by
  by_cases hn:B+1<=0
  ·have:=top hn;omega
  ·omega
 have e1: -(-B)=B:=by omega
 refine⟨⟨by omega,by omega,by rw[e1];omega,?_,?_⟩,by omega,by omega,?_⟩
 ·by_cases hn:0<=B
  ·rw[J0 (b:= -B) (by omega)];omega
  ·have ht:=top (by omega);have hka:B=k-a:=by omega
   have e2: -B=a-k:=by omega
   have hs:=U3 (k:=k) (b:=a) hk (by omega);rw[e2];omega
 ·intro hv;omega
 ·by_cases ha:0<a
  ·exact .inl ha
  ·right;have hB1:=hneg (by omega);by_cases hv:v=0
   ·left;have:=KL (b:=B) hk;exact⟨hv,by omega⟩
   ·right;by_cases hz:B=0
    ·rcases q5 with q5|q5
     ·omega
     ·rw[hz,Q36 (k:=k) (b:=0+1) (by omega)]at q5;omega
    ·omega
def Bu (j k:Int):Nat->Int->Int->List Int×Bool
 |0,v,_=>([],decide (v<=0))
 |n+1,v,a=>if v<=0 then([],true)else((v+AK j k v a)::(Bu j k n (v+AK j k v a) (AK j k v a)).1,(Bu j k n (v+AK j k v a) (AK j k v a)).2)
theorem Q8l (j k:Int):∀(n:Nat) (v a:Int),(Bu j k n v a).2=true->Bu j k (n+1) v a=Bu j k n v a
 |0,v,a,h=>by
  have h:v<=0:=of_decide_eq_true h;unfold Bu;rw[if_pos h];show([],true)=([],decide (v<=0));rw[decide_eq_true h]
 |n+1,v,a,h=>by
  unfold Bu at h⊢;by_cases c:v<=0
  ·rw[if_pos c,if_pos c]
  ·rw[if_neg c]at h;rw[if_neg c,if_neg c,Q8l j k n _ _ h]
theorem It {j k r v a:Int} (hp:Plan3 j k r) (hr:Cy j k v a): -65536<=a/\a<=65536/\0<=v/\v<=16777216:=by
 obtain⟨h1,h2,h3,h4,-⟩:=hr;have p1:=hp.a;have p2:=hp.b
 have q1:=KL (k:=k) (b:=a) (by omega);have q2:=KL (k:=k) (b:= -a) (by omega);omega
end Go.Bm
noncomputable section
namespace Go.Bm
theorem Q8p {a k c:Int} (hk:2<=k/\k<=65536) {d:Int} (hd:d<=1048576):GO [I a,I k,I c,I d]=some [I (BE k d)]:=by
  show R5 _=_;rw[Xi];by_cases h:d<=0
  · rw[Bi (decide_eq_true h),J0 h]
  · rw[A_ (decide_eq_false h),A_ (decide_eq_false (by omega)),A_ (decide_eq_false (by omega))]
    obtain⟨p1,p2,p3,p4,p5,p6,p7⟩:=Q3d hk (show 0<d/\d<=1048576 by omega);rw[Ae (x:=d-1) (by omega),Int.tdiv_eq_ediv_of_nonneg (show 0<=d-1 by omega)];unfold BE;rw[if_neg h];have hm:0<=k*((d-1)/k*((d-1)/k+1)/2):=Int.mul_nonneg (by omega) (by omega);have hm2:k*((d-1)/k*((d-1)/k+1)/2)<=65536*274878431232:=Int.mul_le_mul hk.2 (by omega) (by omega) (by omega);generalize hq:(d-1)/k=q at*;rw[Ae (x:=q) (by omega),Ae (x:=q*d) (by omega),Ae (x:=q+1) (by omega),Ae (x:=q*(q+1)) (by omega),Int.tdiv_eq_ediv_of_nonneg p6];generalize q*(q+1)=y at*;generalize q*d=z at*;rw[Ae (x:=y/2) (by omega),Ae (x:=k*(y/2)) (by omega),Ae (by omega)]
theorem Zx7 {M:Fn} {a k c:Int} (hp:Plan3 a k c) (hM:∀{d:Int},d<=1048576->M [I a,I k,I c,I d]=some [I (BE k d)]) (v x:Int):QP M [I a,I k,I c,I v,I x]=some [B (decide (Cy a k v x))]:=by
  have ha:=hp.a;have hk:=hp.b
  rw[Qjp,Ae (x:=0-a) (by omega)];refine eC (fun h=> ?_) fun h=> ?_
  · have h:x<0-a:=Bp h
    rw[decide_eq_false (fun q=>by have:=q.1;omega)]
  have h: ¬x<0-a:=Bt h;refine eC (fun h2=> ?_) fun h2=> ?_
  · have h2:x>a:=Bp h2
    rw[decide_eq_false (fun q=>by have:=q.2.1;omega)]
  have h2: ¬x>a:=Bt h2;have l1:=Qv4 (b:= -x) hk (by omega);have l2:=Qv4 (b:=x) hk (by omega);have l3:=KL (k:=k) (b:=x) (by omega);have fin: ¬(v=0/\x>k)->((M [I a,I k,I c,I (wrap .i64 (0-x))]).bind fun o=>bif decide (v>=gA o 0)then(M [I a,I k,I c,I x]).bind fun o2=>some [B (decide (v<=wrap .i64 (16777216-gA o2 0)))]else some [B false])=some [B (decide (Cy a k v x))]:=fun hz=>by
    rw[Ae (x:=0-x) (by omega),show(0:Int)-x= -x by omega];refine eB (hM (by omega)) (eC (fun q=> ?_) fun q=> ?_)
    · have q:v>=BE k (-x):=Bp q
      refine eB (hM (by omega)) ?_;show some [B (decide (v<=wrap .i64 (16777216-BE k x)))]=_;rw[Ae (by omega)];have e:(v<=16777216-BE k x)↔Cy a k v x:=⟨fun e=>⟨by omega,by omega,q,e,fun z=>by omega⟩,fun e=>e.2.2.2.1⟩;rw[decide_eq_decide.2 e]
    · have q: ¬v>=BE k (-x):=Bt q
      rw[decide_eq_false (fun w=>q w.2.2.1)]
  refine eC (fun h0=>eC (fun h1=> ?_) fun h1=> ?_) fun h0=> ?_
  · have h0:v=0:=eq_of_beq h0
    have h1:x>k:=Bp h1;rw[decide_eq_false (fun q=>by have:=q.2.2.2.2 h0;omega)]
  · exact fin fun w=>Bt h1 w.2
  · exact fin fun w=>by rw[beT w.1]at h0;cases h0
theorem Z3f {a k c:Int} (hp:Plan3 a k c) (v x:Int):Gu [I a,I k,I c,I v,I x]=some [B (decide (Cy a k v x))]:=Zx7 hp (fun hd=>Q8p hp.b hd) v x
theorem Zps {k v:Int}:∀(n:Nat) {low high:Int},¬low<high->bs k v n low high=low
  |0,_,_,_=>rfl
  |n+1,_,_,h=>by unfold bs;rw[if_neg h]
theorem Zs7 {M MV:Fn} {a k c v:Int} (hM:∀{d:Int},d<=1048576->M [I a,I k,I c,I d]=some [I (BE k d)]) (hv: -1099511627776<=v/\v<=1099511627776):∀(n:Nat) (low high:Int),high-low<2^n-> -262144<=low->high<=262144->low<=262144-> -262145<=high->
    An (K1 M MV) [I v,I low,I high,I a,I k,I c]=some (1,[I (bs k v n low high)]):=by
  have endd:∀(n:Nat) {low high:Int},¬low<high->An (K1 M MV) [I v,I low,I high,I a,I k,I c]=some (1,[I (bs k v n low high)]):=fun n low high h=>by
    rw[Zps n h];refine A3 ?_ (by simp);rw[Y2,A_ (decide_eq_false h)]
  intro n;induction n with
  | zero => intro low high h _ _ _ _; exact endd 0 (by have h : high - low < 1 := by simpa using h
                                                       omega)
  |succ n ih=>
    intro low high h h1 h2 h3 h4;have hp:(2:Int)^(n+1)=2*2^n:=by rw[Int.pow_succ];omega
    rw[hp]at h;by_cases cc:low<high
    · have e1:wrap .i64 (high-wrap .i64 ((wrap .i64 (high-low)).tdiv 2))=high-(high-low)/2:=by
        rw[Ae (x:=high-low) (by omega),Int.tdiv_eq_ediv_of_nonneg (show 0<=high-low by omega),Ae (x:=(high-low)/2) (by omega),Ae (by omega)]
      have e2:wrap .i64 (v-(high-(high-low)/2))=v-(high-(high-low)/2):=Ae (by omega);have e3:wrap .i64 (high-(high-low)/2-1)=high-(high-low)/2-1:=Ae (by omega);have hs:=Y2 M MV v low high a k c;rw[Bi (decide_eq_true cc),e1,e2,e3,hM (by omega)]at hs;unfold bs;rw[if_pos cc];by_cases q:BE k (high-(high-low)/2)<=v-(high-(high-low)/2)
      · rw[if_pos q]
        rw[Bj (hs.trans (eB rfl (eT (decide_eq_true (show v-(high-(high-low)/2)>=BE k (high-(high-low)/2)from q)) rfl)))];exact ih _ _ (by omega) (by omega) (by omega) (by omega) (by omega)
      · rw[if_neg q]
        rw[Bj (hs.trans (eB rfl (eF (decide_eq_false (show¬v-(high-(high-low)/2)>=BE k (high-(high-low)/2)from q)) rfl)))];exact ih _ _ (by omega) (by omega) (by omega) (by omega) (by omega)
    · exact endd (n+1) cc
theorem Zxf {M MV:Fn} {a k c v x:Int} (hp:Plan3 a k c) (hr:Cy a k v x) (hM:∀{d:Int},d<=1048576->M [I a,I k,I c,I d]=some [I (BE k d)]) (hV:MV [I a,I k,I c]=some [B true]):
    SB M MV (An (K1 M MV)) [I a,I k,I c,I v,I x]=some [I (AK a k v x)]:=by
  have hrg:=It hp hr;have ha:=hp.a;have hk:=hp.b
  rw[Q5c];have m1:mx x v=max x v:=by unfold mx;split<;>omega
  have m2:mn x v=min x v:=by unfold mn;split<;>omega
  rw[m1,m2];refine eB hV (eF rfl (eF (decide_eq_false (by omega)) (eF (decide_eq_false (by omega)) ?_)));have m3:mn (wrap .i64 (k-x)) a=min (k-x) a:=by rw[Ae (x:=k-x) (by omega)];unfold mn;split<;>omega
  rw[m3,Ae (x:=0-x) (by omega),Ae (x:=0-x-k) (by omega),show(0:Int)-x-k= -x-k by omega];refine eB (Zs7 (MV:=MV) hM (by omega) 20 (-x-k) (min (k-x) a) (by simp;omega) (by omega) (by omega) (by omega) (by omega)) (eT rfl ?_);have hb:=Qms k v 20 (-x-k) (min (k-x) a);show some [I (wrap .i64 (0-bs k v 20 (-x-k) (min (k-x) a)))]=_;unfold AK;rw[Ae (by omega),Int.zero_sub]
theorem Q3b {a k c:Int} (hp:Plan3 a k c):EL [I a,I k,I c]=some [B true]:=by
  rw[PB,decide_eq_true];exact⟨hp.a.1,hp.a.2,hp.b.1,hp.b.2,hp.c.1,hp.c.2⟩
theorem Q3m {a k c v x:Int} (hp:Plan3 a k c) (hr:Cy a k v x):EY [I a,I k,I c,I v,I x]=some [I (AK a k v x)]:=
  Zxf hp hr (fun hd=>Q8p hp.b hd) (Q3b hp)
end Go.Bm
noncomputable section
namespace Go.Bm
def Bg (a k v x:Int):List Int×Bool:=if Cy a k v x/\(Bu a k 4096 v x).2=true then((Bu a k 4096 v x).1,true)else([],false)
theorem Zbs {MB MR MV:Fn} {a k c:Int} (hp:Plan3 a k c) (hB:∀{v x:Int},Cy a k v x->MB [I a,I k,I c,I v,I x]=some [I (AK a k v x)]):∀(n:Nat) (pre:List Int) (v x:Int),pre.length+n=4096->Cy a k v x->
  An (Is MB MR MV) [.view Aa (pre.map As),I v,I x,I a,I k,I c]=if(Bu a k n v x).2=true then some (2,[.view Aa ((pre++(Bu a k n v x).1).map As)])else some (1,[B false]):=by
 have fin:∀(n:Nat) (pre:List Int) (v x:Int),v<=0->An (Is MB MR MV) [.view Aa (pre.map As),I v,I x,I a,I k,I c]=if(Bu a k n v x).2=true then some (2,[.view Aa ((pre++(Bu a k n v x).1).map As)])else some (1,[B false]):=fun n pre v x h=>by
  have e:Bu a k n v x=([],true):=by
   cases n with
   |zero=>show([],decide (v<=0))=([],true);rw[decide_eq_true h]
   |succ n=>unfold Bu;rw[if_pos h]
  rw[e,if_pos rfl];refine A3 ?_ (by simp);rw[Pz,A_ (decide_eq_false (by omega)),List.append_nil]
 intro n;induction n with
 |zero=>
  intro pre v x hl hr;by_cases h:v<=0
  ·exact fin 0 pre v x h
  ·have e:Bu a k 0 v x=([],false):=by show([],decide (v<=0))=([],false);rw[decide_eq_false h]
   rw[e,if_neg (by simp)];refine A3 ?_ (by simp);rw[Pz,Bi (decide_eq_true (by omega)),Bi (beT (by rw[List.length_map];omega))]
 |succ n ih=>
  intro pre v x hl hr;by_cases h:v<=0
  ·exact fin (n+1) pre v x h
  ·have hc:=closed hp hr;have hrg:=It hp hr;have hrg2:=It hp hc.1;have hs:=Pz MB MR MV (pre.map As) v x a k c;rw[Bi (decide_eq_true (by omega)),A_ (beF (by rw[List.length_map];omega)),hB hr]at hs;have hw:wrap .i64 (v+AK a k v x)=v+AK a k v x:=Ae (by omega);have hs2:Is MB MR MV [.view Aa (pre.map As),I v,I x,I a,I k,I c]=some (0,[.view Aa ((pre++[v+AK a k v x]).map As),I (v+AK a k v x),I (AK a k v x),I a,I k,I c]):=by
    refine hs.trans (eB rfl ?_);show cond ((List.length (pre.map As++[[I (wrap .i64 (v+AK a k v x))]])*8).ble 140737488355328) (some (0,[AC.view Aa (pre.map As++[[I (wrap .i64 (v+AK a k v x))]]),I (wrap .i64 (v+AK a k v x)),I (AK a k v x),I a,I k,I c])) none=_;rw[hw,B0 (by simp;omega),List.map_append];rfl
   rw[Bj hs2,ih (pre++[v+AK a k v x]) _ _ (by simp;omega) hc.1];have e:Bu a k (n+1) v x=((v+AK a k v x)::(Bu a k n (v+AK a k v x) (AK a k v x)).1,(Bu a k n (v+AK a k v x) (AK a k v x)).2):=by
    show(if v<=0 then _ else _)=_;rw[if_neg h]
   rw[e];simp only[List.append_assoc,List.cons_append,List.nil_append]
theorem Zci {MB MR MV:Fn} {a k c:Int} (hp:Plan3 a k c) (hB:∀{v x:Int},Cy a k v x->MB [I a,I k,I c,I v,I x]=some [I (AK a k v x)]) (hV:MV [I a,I k,I c]=some [B true])
  (hR:∀v x,MR [I a,I k,I c,I v,I x]=some [B (decide (Cy a k v x))]) (v x:Int):
  Qu MB MR MV (An (Is MB MR MV)) [I a,I k,I c,I v,I x]=some [.view Aa ((Bg a k v x).1.map As),B (Bg a k v x).2]:=by
 rw[Qnw];refine eB hV (eF rfl (eB (hR v x) ?_));unfold Bg;refine eC (fun h=> ?_) fun h=> ?_
 ·have h: ¬Cy a k v x:=by
   intro q;have h:(!decide (Cy a k v x))=true:=h;rw[decide_eq_true q]at h;cases h
  rw[if_neg (fun w=>h w.1)];rfl
 ·have h:Cy a k v x:=by
   have h:(!decide (Cy a k v x))=false:=h;by_cases q:Cy a k v x
   ·exact q
   ·rw[decide_eq_false q]at h;cases h
  have hl:=Zbs (MR:=MR) (MV:=MV) hp hB 4096 [] v x (by simp) h;by_cases q:(Bu a k 4096 v x).2=true
  ·rw[if_pos q]at hl;rw[if_pos ⟨h,q⟩];exact eB hl rfl
  ·rw[if_neg q]at hl;rw[if_neg (fun w=>q w.2)];exact eB hl rfl
theorem Zzb {a k c:Int} (hp:Plan3 a k c) (v x:Int):Kz [I a,I k,I c,I v,I x]=some [.view Aa ((Bg a k v x).1.map As),B (Bg a k v x).2]:=
 Zci hp (fun hr=>Q3m hp hr) (Q3b hp) (Z3f hp) v x
theorem Q4n {a k c:Int} (hp:Plan3 a k c):∀(n:Nat) (v x:Int),Cy a k v x->(Bu a k n v x).1.length<=n/\∀w∈(Bu a k n v x).1,0<=w/\w<=16777216
 |0,v,x,_=>⟨by simp[Bu],fun w h=>by simp[Bu]at h⟩
 |n+1,v,x,h=>by
  have hc:=closed hp h;have h2:=It hp hc.1;have ih:=Q4n hp n _ _ hc.1;unfold Bu;by_cases q:v<=0
  ·rw[if_pos q];exact⟨by simp,fun w h=>by cases h⟩
  ·rw[if_neg q];refine⟨by simp only[List.length_cons];omega,fun w hw=> ?_⟩;rcases List.mem_cons.1 hw with rfl|hw
   ·omega
   ·exact ih.2 w hw
theorem Zq2 {a k c:Int} (hp:Plan3 a k c) (v x:Int):(Bg a k v x).1.length<=4096/\∀w∈(Bg a k v x).1,0<=w/\w<=16777216:=by
 unfold Bg;split
 ·rename_i h;exact Q4n hp 4096 v x h.1
 ·exact⟨by simp,fun w h=>by cases h⟩
end Go.Bm
noncomputable section
namespace Go.Bm
def Jk (j:Int) (l:Rw):Prop:=∀r∈l,-j<=gA r 0/\gA r 0<=j
theorem Jk.snoc {j:Int} {l:Rw} {r:List AC} (h:Jk j l) (hr: -j<=gA r 0/\gA r 0<=j):Jk j (l++[r]):=fun x hx=>by
 rcases List.mem_append.1 hx with hx|hx
 ·exact h x hx
 ·rw[List.mem_singleton]at hx;subst hx;exact hr
theorem Zx5 {j:Int} (hj:0<=j/\j<=65536):Out (fun o=>o.1=1/\(wA o.2 0).length<=65536/\Jk j (wA o.2 0)) (An Qa [.view Aa [],I j]):=by
 refine CB (fun s:Rw×Int=>[.view Aa s.1,I s.2]) (fun s=>0<=s.2/\s.2<=j/\s.1.length+s.2<=65536/\Jk j s.1) (fun s=>s.2.toNat) _ ?_ ([],j) ⟨hj.1,Int.le_refl _,by simp;omega,fun r h=>by cases h⟩;rintro⟨v,k⟩ ⟨g1,g0,g2,g3⟩;dsimp only at g0 g1 g2 g3;rw[Z36,Int.tdiv_eq_ediv_of_nonneg g1,Ae (x:=k/2) (by omega)];refine .cond (fun c=> ?_) (fun c=> ?_)
 ·have c:=Bp c;refine .cond (fun _=> ?_) fun c=>by rw[B0 (by simp;omega)]at c;cases c
  exact .some (.inl ⟨rfl,(v++[[I k]],k/2),rfl,⟨by dsimp only;omega,by dsimp only;omega,by simp;omega,g3.snoc (by show-j<=k/\k<=j;omega)⟩,by dsimp only;omega⟩)
 ·exact .some (.inr ⟨by simp,rfl,by show v.length<=65536;omega,g3⟩)
theorem Zeb {j:Int} {N:Lp} {up out:Rw} (hj:0<=j/\j<=65536) (h1:up.length<=65536) (hu:Jk j up) (h2:out.length=up.length+1) (ho:Jk j out):Out (fun o=>o.1=1/\(wA o.2 0).length<=140000/\Jk j (wA o.2 0)) (An (Sc N) [.view Aa up, .view Aa out,I ((up.length:Int)-1)]):=by
 refine CB (fun s:Rw×Int=>[.view Aa up, .view Aa s.1,I s.2]) (fun s=> -1<=s.2/\s.2<up.length/\s.1.length+s.2<=2*up.length/\Jk j s.1) (fun s=>(s.2+1).toNat) _ ?_ (out,(up.length:Int)-1) ⟨by simp only;omega,by simp only;omega,by simp only;omega,ho⟩;rintro⟨v,k⟩ ⟨g1,g2,g3,g4⟩;dsimp only at g1 g2 g3 g4;rw[Zp0,Ae (x:=k-1) (by omega)];refine .cond (fun c=> ?_) (fun c=> ?_)
 ·have c:=Bp c;refine .cond (fun _=> ?_) fun c=>by simp at c;omega
  refine .cond (fun _=> ?_) fun c=>by rw[B0 (by simp;omega)]at c;cases c
  have hk: -j<=gA (nth [] up k.toNat) 0/\gA (nth [] up k.toNat) 0<=j:=by
   rw[HI [] up k.toNat (by omega)];exact hu _ (List.getElem_mem _)
  exact .some (.inl ⟨rfl,(_,k-1),rfl,⟨by dsimp only;omega,by dsimp only;omega,by simp;omega,g4.snoc (by show-j<=wrap .i64 (0-gA (nth [] up k.toNat) 0)/\wrap .i64 (0-gA (nth [] up k.toNat) 0)<=j;rw[Ae (by omega)];omega)⟩,by dsimp only;omega⟩)
 ·have c:=Bt c;exact .some (.inr ⟨by simp,rfl,by show v.length<=140000;omega,g4⟩)
theorem Z4d {j:Int} (hj:0<=j/\j<=65536):Out (fun o=>(wA o 0).length<=140000/\Jk j (wA o 0)) (Mr [I j]):=by
 show Out _ (Xr (An Qa) (An (Sc (An Qa))) [I j]);rw[Zt2];refine .bind (Zx5 hj) fun o g=> ?_;rw[g.1];obtain⟨-,g2,g3⟩:=g;generalize wA o.2 0=up at*;refine .cond (fun _=> ?_) fun c=>by simp at c
 refine .cond (fun _=> ?_) fun c=>by rw[B0 (by simp;omega)]at c;cases c
 refine .cond (fun _=> ?_) fun c=>by rw[B0 (by simp;omega)]at c;cases c
 rw[Ae (x:=(up.length:Int)-1) (by omega)];refine .bind (Zeb hj g2 g3 (by simp) (by rw[List.nil_append];exact g3.snoc (by show-j<=0/\0<=j;omega))) fun o g=> ?_;rw[g.1];exact .some g.2
def Qcc (m0 m1 m3 m4:Int) (Q R:Int->Prop) (o:List AC):Prop:=∃v:Int,o=En m0 m1 m3 m4 v/\(Q v\/∃r:Int,v=wrap .i64 (m1+r)/\R r)
theorem Zq8 {MB MS MF MM MR MC:Fn} {p:Pth} {x:Ax3} {t:Trk} {a b c o0 o1:Int} {b0 b1 b2:Bool} (hb:0<=b/\b<=65536) {m0 m1 m2 m3 m4 m5 l:Int} {Q R F:Int->Prop}
  (hB:Out (fun o=>∃r:Int,o=[I r]/\R r) (MB [I a,I b,I c,I m1,I m2]))
  (hS:∀v:Int,0<=v->F v->(∃k:Int,-b<=k/\k<=b/\v=wrap .i64 (m1+wrap .i64 (m2+k)))->Out (fun o=>bA o 0=true->Q v) (MS (pxt p x t [I a,I b,I c,I (wrap .i64 (m0+v)),I v,I (wrap .i64 (v-m1)),I m0,I m3,I m4,I l])))
  (hF:∀v:Int,Out (fun o=>bA o 0=true->F v) (MF (EF p t [I a,I b,I c,I o0,I o1,B b0,B b1,B b2,I (wrap .i64 (m0+v)),I v,I (wrap .i64 (v-m1)),I m0,I m3,I m4])))
  (hM:∀m0 m1 m2 m3 m4 m5 v,MM [I m0,I m1,I m2,I m3,I m4,I m5,I v]=some (En m0 m1 m3 m4 v))
  (hR:∀a b c v x,(MR [I a,I b,I c,I v,I x]).isSome=true)
  (hC:∀j,0<=j/\j<=65536->Out (fun o=>(wA o 0).length<=140000/\Jk j (wA o 0)) (MC [I j])):
  Out (Qcc m0 m1 m3 m4 Q R) (Qc8 MB MS MF MM MR MC (An (Qpx MB MS MF MM MR MC)) (pxt p x t [I a,I b,I c,I o0,I o1,B b0,B b1,B b2,I m0,I m1,I m2,I m3,I m4,I m5,I l])):=by
 rw[Zw1];refine .bind (hC b hb) fun q h1=> ?_;obtain⟨h1,hJ⟩:=h1;generalize wA q 0=ch at*;refine .bind (p:=fun o=>o.1=1/\((∃v:Int,∃g0 g1 g2 g3 g4 g5:Int,o.2=B true::I a::I b::I c::I m0::I m1::I m2::I m3::I m4::I m5::I g0::I g1::I g2::I g3::I g4::I g5::En m0 m1 m3 m4 v/\Q v)\/∃l:List AC,o.2=B false::I a::I b::I c::I m0::I m1::I m2::I m3::I m4::I m5::l)) ?_ fun o g=>by
  obtain⟨g,g2⟩:=g;rw[g];refine .cond (fun _=> ?_) fun c=>by simp at c
  rcases g2 with⟨v,g0,g1,g2,g3,g4,g5,e,hs⟩|⟨l',e⟩
  ·rw[e];refine .cond (fun _=> .some ⟨v,rfl, .inl hs⟩) fun c=>by simp[gA,wA,bA,jA,nth,Dp]at c
  ·rw[e];refine .cond (fun c=>by simp[gA,wA,bA,jA,nth,Dp]at c) fun _=> ?_;simp only[gA,wA,bA,jA,nth,Af];refine .bind hB fun o g=> ?_;obtain⟨r,rfl,hr⟩:=g;simp only[gA,wA,bA,jA,nth,Af];rw[hM];exact .some ⟨_,rfl, .inr ⟨r,rfl,hr⟩⟩
 refine CB (fun s:Nat×(Int×Int×Int×Int×Int×Int)=>I l::B false:: .view Aa ch::I (ch.length:Int)::I (s.1:Int)::pxt p x t [I a,I b,I c,I o0,I o1,B b0,B b1,B b2,I m0,I m1,I m2,I m3,I m4,I m5,I 0,I 0,I 0,I 0,I 0,I 0,I s.2.1,I s.2.2.1,I s.2.2.2.1,I s.2.2.2.2.1,I s.2.2.2.2.2.1,I s.2.2.2.2.2.2])
  (fun s=>s.1<=ch.length) (fun s=>ch.length-s.1) _ ?_ (0,(0,0,0,0,0,0)) (by simp)
 rintro⟨i,f0,f1,f2,f3,f4,f5⟩ g;dsimp only at g;rw[Zlg];rw[Ae (x:=(i:Int)+1) (by omega)];refine .cond (fun c=> ?_) (fun c=> ?_)
 ·have c:=Bp c;refine .cond (fun _=> ?_) fun c=>by simp at c;omega
  refine .cond (fun _=> ?_) fun pos=> ?_
  ·exact .some (.inl ⟨rfl,(i+1,f0,f1,f2,f3,f4,f5),rfl,by dsimp only;omega,by dsimp only;omega⟩)
  ·have pos:=Bt pos;refine .ibind (hR _ _ _ _ _) fun _ _=> .cond (fun _=> ?_) fun _=> ?_
   ·exact .some (.inl ⟨rfl,(i+1,f0,f1,f2,f3,f4,f5),rfl,by dsimp only;omega,by dsimp only;omega⟩)
   ·have hk:∃k:Int,-b<=k/\k<=b/\wrap .i64 (m1+wrap .i64 (m2+gA (nth [] ch (i:Int).toNat) 0))=wrap .i64 (m1+wrap .i64 (m2+k)):=by
     have:=hJ _ (List.getElem_mem (show i<ch.length by omega));rw[Int.toNat_natCast,HI [] ch i (by omega)];exact⟨_,this.1,this.2,rfl⟩
    generalize wrap .i64 (m1+wrap .i64 (m2+gA (nth [] ch (i:Int).toNat) 0))=v at*;rw[hM];simp only[Option.bind_some,gA,wA,bA,jA,nth,Af];refine .bind (hF v) fun of fit=> .cond (fun cf=> ?_) fun _=> ?_
    ·refine .bind (hS v (by omega) (fit cf) hk) fun o hs=> .cond (fun c=> ?_) fun _=> ?_
     ·exact .some (.inr ⟨by simp,rfl, .inl ⟨v,0,0,0,0,0,0,rfl,hs c⟩⟩)
     ·exact .some (.inl ⟨rfl,(i+1,_,_,_,_,_,_),rfl,by dsimp only;omega,by dsimp only;omega⟩)
    ·exact .some (.inl ⟨rfl,(i+1,_,_,_,_,_,_),rfl,by dsimp only;omega,by dsimp only;omega⟩)
 ·exact .some (.inr ⟨by simp,rfl, .inr ⟨_,rfl⟩⟩)
theorem Ze7 {MS MF:Fn} {p:Pth} {x:Ax3} {t:Trk} {Q:Prop} (hS:∀{way:Rw},way.length<=100000->(MS (pxt p x t [.view Aa way])).isSome=true)
  {a b c m0 m1 m2 m3 m4 m5 l:Int} (hF:Out (fun o=>(wA o 0).length<=4096/\(bA o 1=true->Q)) (MF [I a,I b,I c,I m0,I m1,I m2,I m3,I m4,I m5])):
  Out (fun o=>bA o 0=true->Q) (Qnv MS MF (pxt p x t [I a,I b,I c,I m0,I m1,I m2,I m3,I m4,I m5,I l])):=by
 rw[Z56];refine .bind hF fun o h=> ?_;obtain⟨h2,hs⟩:=h;generalize wA o 0=sp at*;refine .cond (fun _=> .some fun h=>by simp[gA,wA,bA,jA,nth,Dp]at h) fun c1=> ?_;have hs:=hs (by simpa using c1);refine .cond (fun c=> ?_) fun c=> ?_
 ·have c:=Bp c;rw[Ae (x:=(sp.length:Int)-1) (by omega)];refine .cond (fun _=> ?_) fun c=>by simp at c;omega
  generalize Af (nth .dead (nth [] sp ((sp.length:Int)-1).toNat) 0)=e;refine .cond (fun _=> .some fun _=>hs) fun _=> ?_;refine .cond (fun _=> ?_) fun c=>by rw[B0 (by simp;omega)]at c;cases c
  refine .cond (fun _=> ?_) fun c=>by rw[B0 (by simp;omega)]at c;cases c
  exact .ibind (hS (by simp;omega)) fun _ _=> .some fun _=>hs
 ·refine .cond (fun _=> .some fun _=>hs) fun _=> ?_;refine .cond (fun _=> ?_) fun c=>by rw[B0 (by simp;omega)]at c;cases c
  refine .cond (fun _=> ?_) fun c=>by rw[B0 (by simp;omega)]at c;cases c
  exact .ibind (hS (by simp;omega)) fun _ _=> .some fun _=>hs
theorem Zgl {a k c:Int} (hp:Plan3 a k c) (u v x x6 x7 x8:Int):Out (fun o=>(wA o 0).length<=4096/\(bA o 1=true->(Bg a k v x).2=true)) (E7 [I a,I k,I c,I u,I v,I x,I x6,I x7,I x8]):=by
 have key:∀{M:Fn},M [I a,I k,I c,I v,I x]=some [.view Aa ((Bg a k v x).1.map As),B (Bg a k v x).2]->Out (fun o=>(wA o 0).length<=4096/\(bA o 1=true->(Bg a k v x).2=true)) (PV M (An (Mc M)) [I a,I k,I c,I u,I v,I x,I x6,I x7,I x8]):=by
  intro M hM;have hb:=Zq2 hp v x;rw[Zx];refine .bind (p:=fun o=>o=_) ⟨_,hM,rfl⟩ fun o e=> ?_;subst e;refine .cond (fun _=> .some ⟨by simp[wA,nth,BI],fun h=>by simp[bA,nth,Dp]at h⟩) fun h=> ?_;have hz:(Bg a k v x).2=true:=by simpa [bA,nth,Dp]using h
  have hl:(wA [AC.view Aa ((Bg a k v x).1.map As),B (Bg a k v x).2] 0).length<=4096:=by
   show((Bg a k v x).1.map As).length<=4096;rw[List.length_map];exact hb.1
  generalize wA [AC.view Aa ((Bg a k v x).1.map As),B (Bg a k v x).2] 0=sp at*;refine .cond (fun _=> ?_) fun c=>by simp at c
  refine .cond (fun _=> ?_) fun c=>by simp at c;omega
  refine .bind (Q9x (by simp) hl) fun o g=> ?_;rw[g.1];exact .some ⟨by show(wA o.2 0).length<=4096;omega,fun _=>hz⟩
 exact key (Zzb hp v x)
theorem Qw6 {p:Pth} {x:Ax3} {t:Trk} (h:Fix p x t) {a b c:Int} (hp:Plan3 a b c) (m0 m1 m2 m3 m4 m5 l:Int):Out (fun o=>bA o 0=true->(Bg a b m1 m2).2=true) (I4 (pxt p x t [I a,I b,I c,I m0,I m1,I m2,I m3,I m4,I m5,I l])):=
 Ze7 (Zcl h) (Zgl hp _ _ _ _ _ _)
theorem IS {a k v x:Int}:(Bg a k v x).2=true↔Cy a k v x/\(Bu a k 4096 v x).2=true:=by
 unfold Bg;by_cases h:Cy a k v x/\(Bu a k 4096 v x).2=true
 ·rw[if_pos h];exact⟨fun _=>h,fun _=>rfl⟩
 ·rw[if_neg h];exact⟨fun q=>(by cases q),fun q=>absurd q h⟩
theorem Zli {a k c v x:Int} (hp:Plan3 a k c) (h:(Bg a k v x).2=true):(Bg a k (v+AK a k v x) (AK a k v x)).2=true/\
  (Bg a k v x).1=if v<=0 then []else(v+AK a k v x)::(Bg a k (v+AK a k v x) (AK a k v x)).1:=by
 obtain⟨hr,hs⟩:=IS.1 h;have hc:=closed hp hr;have hrg:=It hp hc.1;by_cases c0:v<=0
 ·have hv:v=0:=by have:=It hp hr;omega
  have hb:AK a k v x=0:=by
   obtain⟨B,hB⟩:∃B,B=bs k v 20 (-x-k) (min (k-x) a):=⟨_,rfl⟩;obtain⟨q1,q2,q3,q4,q5,q6⟩:=Q4t hp hr hB;have:=KL (k:=k) (b:=B) (by have:=hp.b;omega);have hx:=hr.2.2.2.2 hv;have ha:=hp.a;have e:AK a k v x= -B:=by unfold AK;rw[hB]
   rw[e];rcases q5 with q5|q5
   ·omega
   ·by_cases hn:B+1<=0
    ·rw[J0 hn]at q5;omega
    ·omega
  have e0:Bu a k 4096 0 0=([],true):=by unfold Bu;rw[if_pos (by omega)]
  refine⟨?_,?_⟩
  ·rw[hb,hv];refine IS.2 ⟨?_,by rw[show(0:Int)+0=0 from rfl,e0]⟩;have:=hc.1;rw[hb,hv]at this;exact this
  ·rw[if_pos c0];unfold Bg;rw[if_pos ⟨hr,hs⟩];unfold Bu;rw[if_pos c0]
 ·have e:Bu a k 4096 v x=((v+AK a k v x)::(Bu a k 4095 (v+AK a k v x) (AK a k v x)).1,(Bu a k 4095 (v+AK a k v x) (AK a k v x)).2):=by
   show(if v<=0 then _ else _)=_;rw[if_neg c0]
  rw[e]at hs;have hm:=Q8l a k 4095 _ _ hs;have hn:(Bg a k (v+AK a k v x) (AK a k v x)).2=true:=IS.2 ⟨hc.1,by rw[hm];exact hs⟩;refine⟨hn,?_⟩;rw[if_neg c0];have e2:(Bg a k v x).1=(Bu a k 4096 v x).1:=by unfold Bg;rw[if_pos (IS.1 h)]
  have e3:(Bg a k (v+AK a k v x) (AK a k v x)).1=(Bu a k 4096 (v+AK a k v x) (AK a k v x)).1:=by unfold Bg;rw[if_pos (IS.1 hn)]
  rw[e2,e3,hm,e]
end Go.Bm
namespace Go.Bm
structure KOK (K : Kf) : Prop where
 f:Fix K.p K.x K.t
 plan:Plan3 K.pa K.pb K.pc
 aF:∀g∈K.p.aF,0<=g.item/\g.item<K.aA.length/\i64 g.lead
 aD:∀m∈K.p.aD,0<=m.item/\m.item<K.aA.length/\i64 m.at_
 count:K.p.aD.length<=1000000
 speed:∀it∈K.aA,it.kind=8->i64 it.speed
 len:i64 K.len
 set:i64 K.set
theorem TX (K:Kf) (c:Cv):DX (Ad K c)=some [I (wrap .i64 (c.m0.tdiv 256))]:=by
 show Qf1 (Ad K c)=_;rw[Zyv]
abbrev AE (c:Cv):Int:=wrap .i64 (c.m0.tdiv 256)
theorem Zfc {MP MU:Fn} {K:Kf} {c:Cv} {s:Int} (hU:MU (Ad K c)=some [I (AE c)]) (hP:MP (AS K.t++[I (AE c)])=some [I s]):ZQ MP MU (Ad K c)=some [I s]:=by
 rw[Zbl,hU];simp only[Option.bind_some,gA,wA,bA,jA,CI,Dh];rw[hP];rfl
abbrev Bl (K:Kf) (c:Cv):Int:=Be K.t (AE c)
theorem Sh {K:Kf} (h:KOK K) (c:Cv):Ep (Ad K c)=some [I (Bl K c)]:=Zfc (TX K c) (S8 h.f.t.q (AE c))
theorem Z26 (K:Kf) (c:Cv):Ob (Ad K c)=some (I 3::Ad K {c with next:=wrap .i64 (c.idx+1),on:=false,idx:=0,aN:=false,cnt:=0}):=by
 show Ux (Ad K c)=_;rw[Znr]
theorem Zt6 (K:Kf) (c:Cv):GN (Ad K c)=some (Ad K (if c.g0=0 then{c with o2:=true,g0:=1,g1:=18,g2:= -1}else c)):=by
 show YH (Ad K c)=_;rw[Zbz];cases h:(c.g0==0)
 ·rw[if_neg (by simpa using h)];rfl
 ·rw[if_pos (by simpa using h)];rfl
end Go.Bm
noncomputable section
namespace Go.Bm
def nxL (K:Kf) (c:Cv) (l:Int):List AC:=pxt K.p K.x K.t [I K.pa,I K.pb,I K.pc,I c.o0,I c.o1,B c.o2,B c.o3,B c.o4,I c.m0,I c.m1,I c.m2,I c.m3,I c.m4,I c.m5,I l]
def nxV (K:Kf) (c:Cv) (l:Int):Int:=gA ((Fa (nxL K c l)).getD []) 1
def Mo (K:Kf) (c:Cv):Prop:=(Bg K.pa K.pb c.m1 c.m2).2=true
theorem Mo.ready {K:Kf} {c:Cv} (h:Mo K c):Cy K.pa K.pb c.m1 c.m2:=(IS.1 h).1
theorem Zb0 {K:Kf} {c:Cv} (hp:Plan3 K.pa K.pb K.pc) (hz:Mo K c) {v:Int} (hv:v=wrap .i64 (c.m1+AK K.pa K.pb c.m1 c.m2)):v=c.m1+AK K.pa K.pb c.m1 c.m2/\wrap .i64 (v-c.m1)=AK K.pa K.pb c.m1 c.m2/\(Bg K.pa K.pb v (wrap .i64 (v-c.m1))).2=true:=by
 have r1:=It hp hz.ready;have r2:=It hp (closed hp hz.ready).1;rw[Ae (by omega)]at hv;have e:wrap .i64 (v-c.m1)=AK K.pa K.pb c.m1 c.m2:=by rw[hv,Ae (by omega)];omega
 refine⟨hv,e,?_⟩;rw[e,hv];exact(Zli hp hz).1
theorem Qrl {K:Kf} {c:Cv} (hp:Plan3 K.pa K.pb K.pc) (hz:Mo K c):Out (fun o=>∃r:Int,o=[I r]/\r=AK K.pa K.pb c.m1 c.m2) (EY [I K.pa,I K.pb,I K.pc,I c.m1,I c.m2]):=
 ⟨_,Q3m hp hz.ready,_,rfl,rfl⟩
theorem Zfq {p:Pth} {x:Ax3} {t:Trk} (h:Fix p x t) (a b c o0 o1:Int) (b0 b1 b2:Bool) (m0 m1 m2 m3 m4 m5:Int):Out (fun o=>bA o 0=true->True) (LN (EF p t [I a,I b,I c,I o0,I o1,B b0,B b1,B b2,I m0,I m1,I m2,I m3,I m4,I m5])):=
 (Out.of (Zlv h a b c o0 o1 b0 b1 b2 m0 m1 m2 m3 m4 m5)).mono fun _ _ _=>trivial
theorem Qr4 {K:Kf} (h:KOK K) {c:Cv} (hz:Mo K c) (l:Int) (b0:Bool):Out (Qcc c.m0 c.m1 c.m3 c.m4 (fun v=>(Bg K.pa K.pb v (wrap .i64 (v-c.m1))).2=true) fun r=>r=AK K.pa K.pb c.m1 c.m2)
  (Fa (pxt K.p K.x K.t [I K.pa,I K.pb,I K.pc,I c.o0,I c.o1,B b0,B c.o3,B c.o4,I c.m0,I c.m1,I c.m2,I c.m3,I c.m4,I c.m5,I l])):=
 Zq8 (F:=fun _=>True) (by have:=h.plan.b;omega) (Qrl h.plan hz) (fun v _ _ _=>Qw6 h.f h.plan _ _ _ _ _ _ _) (fun v=>Zfq h.f ..) Q8u Q1q (fun _ hj=>Z4d hj)
def RI (m0 m1 m3 m4:Int) (Q R:Int->Prop) (o:List AC):Prop:=∃v s b z g e:Int,o=En m0 m1 m3 m4 v++[I s,I b,I z,I g,I e]/\(Q v\/∃r:Int,v=wrap .i64 (m1+r)/\R r)
theorem Zg5 {MN MB MR MS MM MF MD:Fn} {p:Pth} {x:Ax3} {t:Trk} {a b c:Int} {o0 o1:Int} {b0 b1 b2:Bool} {m0 m1 m2 m3 m4 m5 l lead g0 g1 g2 g3 z0 z1:Int} {Q R:Int->Prop}
  (hN:Out (Qcc m0 m1 m3 m4 Q R) (MN (pxt p x t [I a,I b,I c,I o0,I o1,B false,B b1,B b2,I m0,I m1,I m2,I m3,I m4,I m5,I l])))
  (hB:Out (fun o=>∃r:Int,o=[I r]/\R r) (MB [I a,I b,I c,I m1,I m2]))
  (hR:∀a b c x3 x4 x5 x6 x7 x8,(MR [I a,I b,I c,I x3,I x4,I x5,I x6,I x7,I x8]).isSome=true)
  (hS:∀v:Int,Out (fun o=>bA o 0=true->Q v) (MS (pxt p x t [I a,I b,I c,I (wrap .i64 (m0+v)),I v,I (wrap .i64 (v-m1)),I m0,I m3,I m4,I l])))
  (hM:∀m0 m1 m2 m3 m4 m5 v,MM [I m0,I m1,I m2,I m3,I m4,I m5,I v]=some (En m0 m1 m3 m4 v))
  (hF:∀v,i64 v->(MF [I lead,I v]).isSome=true) (hD:∀a b,∃v,MD [I a,I b]=some [I v]/\i64 v):
  Out (RI m0 m1 m3 m4 Q R) (Xj MN MB MR MS MM MF MD (pxt p x t [I a,I b,I c,I o0,I o1,B b0,B b1,B b2,I m0,I m1,I m2,I m3,I m4,I m5,I l,I lead,I g0,I g1,I g2,I g3,I z0,I z1])):=by
 rw[Zi1];obtain⟨v1,e1,w1⟩:=hD z1 g2;obtain⟨v2,e2,w2⟩:=hD z0 g2;rw[e1,e2];simp only[Option.bind_some,gA,wA,bA,jA,CI,D7,Dh];have next:∀s bb z g e:Int,Out (RI m0 m1 m3 m4 Q R) ((MN (pxt p x t [I a,I b,I c,I o0,I o1,B false,B b1,B b2,I m0,I m1,I m2,I m3,I m4,I m5,I l])).bind fun o=>some [I (gA o 0),I (gA o 1),I (gA o 2),I (gA o 3),I (gA o 4),I (gA o 5),I s,I bb,I z,I g,I e]):=fun s bb z g e=>by
  refine .bind hN fun o h=> ?_;obtain⟨v,rfl,h⟩:=h;exact .some ⟨v,s,bb,z,g,e,rfl,h⟩
 refine .ibind (hF _ w1) fun f1 _=> .cond (fun _=> ?_) fun _=> .cond (fun _=> ?_) fun _=>next _ _ _ _ _
 ·refine .ibind (hF _ w2) fun f2 _=> ?_;rw[hM];generalize wrap .i64 (Af (nth AC.dead f1 0)-Af (nth AC.dead f2 0))=v;simp only[Option.bind_some,gA,wA,bA,jA,CI,D7,Dh];refine .cond (fun _=> ?_) fun _=>next _ _ _ _ _
  refine .bind (hS v) fun o h=> .cond (fun c=> ?_) fun _=>next _ _ _ _ _
  exact .some ⟨v,_,_,_,_,_,rfl, .inl (h c)⟩
 ·rw[hM];generalize wrap .i64 (wrap .i64 (wrap .i64 (g1+Af (nth AC.dead f1 0))-g3)-m0)=v;simp only[Option.bind_some,gA,wA,bA,jA,CI,D7,Dh];have stop:∀s bb z g e:Int,Out (RI m0 m1 m3 m4 Q R) ((MB [I a,I b,I c,I m1,I m2]).bind fun o=>(MM [I m0,I m1,I m2,I m3,I m4,I m5,I (wrap .i64 (m1+gA o 0))]).bind fun q=>some [I (gA q 0),I (gA q 1),I (gA q 2),I (gA q 3),I (gA q 4),I (gA q 5),I s,I bb,I z,I g,I e]):=fun s bb z g e=>by
   refine .bind hB fun o h=> ?_;obtain⟨r,rfl,hr⟩:=h;rw[hM];exact .some ⟨_,s,bb,z,g,e,rfl, .inr ⟨r,rfl,hr⟩⟩
  refine .cond (fun _=> ?_) fun _=> ?_
  ·refine .bind (hS v) fun o h=> .cond (fun c=> ?_) fun _=> ?_
   ·exact .some ⟨v,_,_,_,_,_,rfl, .inl (h c)⟩
   ·refine .ibind (hR _ _ _ _ _ _ _ _ _) fun _ _=> .cond (fun _=> .cond (fun _=>stop _ _ _ _ _) fun _=>stop _ _ _ _ _) fun _=>stop _ _ _ _ _
  ·refine .ibind (hR _ _ _ _ _ _ _ _ _) fun _ _=> .cond (fun _=> .cond (fun _=>stop _ _ _ _ _) fun _=>stop _ _ _ _ _) fun _=>stop _ _ _ _ _
theorem Z7x {K:Kf} (h:KOK K) {c:Cv} (hz:Mo K c) (l:Int) {lead:Int} (hl:i64 lead):Out (RI c.m0 c.m1 c.m3 c.m4 (fun v=>(Bg K.pa K.pb v (wrap .i64 (v-c.m1))).2=true) fun r=>r=AK K.pa K.pb c.m1 c.m2)
  (JD (pxt K.p K.x K.t [I K.pa,I K.pb,I K.pc,I c.o0,I c.o1,B c.o2,B c.o3,B c.o4,I c.m0,I c.m1,I c.m2,I c.m3,I c.m4,I c.m5,I l,I lead,I c.e0,I c.e1,I c.e2,I c.e3,I c.before,I c.s3])):=
 Zg5 (Qr4 h hz l false) (Qrl h.plan hz) Zm2 (fun v=>Qw6 h.f h.plan _ _ _ _ _ _ _) Q8u (fun _ hv=>Zze hl hv) Zc6
theorem Q4e {K:Kf} (h:KOK K) {c:Cv} (hz:Mo K c) {v:Int} (hv:(Bg K.pa K.pb v (wrap .i64 (v-c.m1))).2=true\/∃r:Int,v=wrap .i64 (c.m1+r)/\r=AK K.pa K.pb c.m1 c.m2):(Bg K.pa K.pb v (wrap .i64 (v-c.m1))).2=true:=by
 rcases hv with h1|⟨r,h1,h2⟩
 ·exact h1
 ·subst h2;exact(Zb0 h.plan hz h1).2.2
theorem Yj {a k c:Int} (hp:Plan3 a k c):(Bg a k 0 0).2=true:=by
 refine IS.2 ⟨?_,by unfold Bu;rw[if_pos (by omega)]⟩;have ha:=hp.a;have hb:=hp.b
 refine⟨by omega,by omega,?_,?_,fun _=>by omega⟩
 ·rw[J0 (by omega)];omega
 ·rw[J0 (by omega)];omega
end Go.Bm
namespace Go.Bm
theorem Q0s (K:Kf) {i:Nat} (h:i<K.aA.length):nth [] (K.aA.map Ah) i=Ah K.aA[i]:=by
 rw[BR,List.getD,List.getElem?_map,List.getElem?_eq_getElem h];rfl
theorem Zzu (K:Kf) {i:Nat} (h:i<K.p.aD.length):nth [] (K.p.aD.map At) i=At K.p.aD[i]:=by
 rw[BR,List.getD,List.getElem?_map,List.getElem?_eq_getElem h];rfl
theorem Zme {K:Kf} (h:KOK K) (i:Nat) (hk:gA (nth [] (K.aA.map Ah) i) 0=8):i64 (gA (nth [] (K.aA.map Ah) i) 20):=by
 by_cases c:i<K.aA.length
 ·rw[Q0s K c]at hk⊢;exact h.speed _ (List.getElem_mem c) hk
 ·have e:nth [] (K.aA.map Ah) i=[]:=by
   rw[BR,List.getD,List.getElem?_eq_none (by rw[List.length_map];omega)];rfl
  rw[e];show i64 0;unfold i64;omega
structure Gd (K : Kf) (n : Int) (c : Cv) : Prop where
 way:c.way=0
 pass:0<=c.aK/\c.aK<=K.p.aD.length
 task:c.on=true->0<=c.idx/\c.idx<K.p.aD.length
 mo:Mo K c
 m0: -(16777216*n)<=c.m0/\c.m0<=16777216*n
theorem Gd.up {K:Kf} {n:Int} {c:Cv} (h:Gd K n c) (hn:0<=n):Gd K (n+1) c:=
 ⟨h.way,h.pass,h.task,h.mo,by have:=h.m0;omega⟩
theorem Gd.move {K:Kf} (h:KOK K) {n:Int} {c:Cv} (g:Gd K n c) (hn:0<=n/\n<=10000) {v:Int} (hv:(Bg K.pa K.pb v (wrap .i64 (v-c.m1))).2=true\/∃r:Int,v=wrap .i64 (c.m1+r)/\r=AK K.pa K.pb c.m1 c.m2):
  Gd K (n+1) {c with m0:=wrap .i64 (c.m0+v),m1:=v,m2:=wrap .i64 (v-c.m1),m3:=c.m0,m4:=c.m3,m5:=c.m4}:=by
 have h0:=g.m0;have hq:=Q4e h g.mo hv;have hr:=It h.plan (IS.1 hq).1;refine⟨g.way,g.pass,g.task,hq,?_⟩;show-(16777216*(n+1))<=wrap .i64 (c.m0+v)/\wrap .i64 (c.m0+v)<=16777216*(n+1);rw[Ae (by omega)];omega
end Go.Bm
namespace Go.Bm
theorem Gd.same {K:Kf} {n:Int} {c c':Cv} (g:Gd K n c) (h1:c'.way=c.way) (h2:c'.aK=c.aK) (h3:c'.on=c.on) (h4:c'.idx=c.idx) (h5:c'.m0=c.m0) (h6:c'.m1=c.m1) (h7:c'.m2=c.m2):Gd K n c':=
 ⟨h1▸g.way,h2▸g.pass,by rw[h3,h4];exact g.task,by have:=g.mo;unfold Mo at*;rw[h6,h7];exact this,h5▸g.m0⟩
theorem Znc {K:Kf} {c:Cv} (h:c.way=0):LC (Ad K c)=some (I 0::B false::Ad K c):=by
 have key:∀{A B':Fn},V4 A B' (Ad K c)=some (I 0::B false::Ad K c):=by
  intro A B';rw[Zcz,Bi (by simp[h])]
 exact key
abbrev stand (c:Cv):Cv:={c with m0:=wrap .i64 (AE c*256),m1:=0,m2:=0,m3:=wrap .i64 (AE c*256),m4:=wrap .i64 (AE c*256),m5:=wrap .i64 (AE c*256)}
theorem Qyq (u:Int):IZ [I u]=some [I (wrap .i64 (u*256)),I 0,I 0,I (wrap .i64 (u*256)),I (wrap .i64 (u*256)),I (wrap .i64 (u*256))]:=by
 show Qg8 [I u]=_;rw[Zoc]
theorem Zvs {MS MU:Fn} {K:Kf} {c:Cv} (hU:MU (Ad K c)=some [I (AE c)]) (hS:∀u:Int,MS [I u]=some [I (wrap .i64 (u*256)),I 0,I 0,I (wrap .i64 (u*256)),I (wrap .i64 (u*256)),I (wrap .i64 (u*256))]):
  Qof MS MU (Ad K c)=some (if c.g0=2 then I 6::B true::Ad K (stand c)else I 0::B false::Ad K c):=by
 rw[Zj9];by_cases h:c.g0=2
 ·rw[if_pos h,A_ (by simp[h]),hU];simp only[Option.bind_some,gA,wA,bA,jA,CI,Dh];rw[hS];rfl
 ·rw[if_neg h,Bi (by simpa using h)]
theorem Zm4 (K:Kf) (c:Cv):L4 (Ad K c)=some (if c.g0=2 then I 6::B true::Ad K (stand c)else I 0::B false::Ad K c):=Zvs (TX K c) Qyq
theorem Z7w (K:Kf) (c:Cv):LI (Ad K c)=some (I c.aI::B (c.aI !=0)::Ad K c):=by
 show WL (Ad K c)=_;rw[Zhx]
theorem Z30 (K:Kf) (c:Cv):LZ (Ad K c)=some (if c.aH=true/\c.aM=true then I 8::B true::Ad K {c with aI:=8}else I 0::B false::Ad K c):=by
 show ZV (Ad K c)=_;rw[Zjb];by_cases h:c.aH=true
 ·by_cases h2:c.aM=true
  ·rw[if_pos ⟨h,h2⟩,A_ (by simp[h]),A_ (by simp[h2]),h,h2]
  ·rw[if_neg (fun e=>h2 e.2),A_ (by simp[h]),Bi (by simpa using h2)]
 ·rw[if_neg (fun e=>h e.1),Bi (by simpa using h)]
theorem Q8s {a N:Int} (h: -N<=a/\a<=N): -N<=a.tdiv 256*256/\a.tdiv 256*256<=N:=by
 by_cases k:0<=a
 ·rw[Int.tdiv_eq_ediv_of_nonneg k];omega
 ·obtain⟨b,rfl⟩:∃b,a= -b:=⟨-a,by omega⟩;rw[Int.neg_tdiv,Int.tdiv_eq_ediv_of_nonneg (by omega)];omega
theorem Gd.stand {K:Kf} (h:KOK K) {n:Int} {c:Cv} (g:Gd K n c) (hn:0<=n/\n<=10000):Gd K n (stand c)/\AE (stand c)=AE c:=by
 have h0:=Q8s g.m0;have e:AE c=c.m0.tdiv 256:=Ae (by omega);have e2:(Go.Bm.stand c).m0=c.m0.tdiv 256*256:=by
  show wrap .i64 (AE c*256)=_;rw[e,Ae (by omega)]
 refine⟨⟨g.way,g.pass,g.task,Yj h.plan,?_⟩,?_⟩
 ·rw[e2];omega
 ·show wrap .i64 ((Go.Bm.stand c).m0.tdiv 256)=_;rw[e2,Int.mul_tdiv_cancel _ (by omega),e,Ae (by omega)]
end Go.Bm
namespace Go.Bm
theorem Out.eqv {α:Type} {p:α->Prop} {a b:Option α} (h:a=b) (g:Out p b):Out p a:=h▸g
abbrev O7 (pul outs:Rw) (mode s:Int) (m:Pt) (sp fault:Int):List AC:=[.view kPt pul, .view Aa outs,I mode,I s,I m.x,I m.y,I m.z,I sp,I fault]
abbrev Ej:List AC:=[.view kPt [], .view Aa [],I 0,I 0,I 0,I 0,I 0,I 0,I 0]
theorem Rg {K:Kf} {n:Int} {c:Cv} (g:Gd K n c) (hn:0<=n/\n<=10010): -300000000000<=AE c/\AE c<=300000000000:=by
 have h:=g.m0;have h1: -300000000000<=c.m0/\c.m0<=300000000000:=by omega
 have h2:=Q8s h1;have e:AE c=c.m0.tdiv 256:=Ae (by omega);omega
end Go.Bm
namespace Go.Bm
theorem Zj4 (r k:Int):(AW r k=r/\AV r k=0)\/(AW r k=0/\AV r k=r)\/(AW r k= -r/\AV r k=0)\/(AW r k=0/\AV r k= -r):=by
 have hc:k%4=0\/k%4=1\/k%4=2\/k%4=3:=by omega
 unfold AW AV;rcases hc with h|h|h|h<;>simp[h]
theorem Qur (r k:Int):sq2 (AW r k) (AV r k)=r*r:=by
 unfold sq2;rcases Zj4 r k with⟨h1,h2⟩|⟨h1,h2⟩|⟨h1,h2⟩|⟨h1,h2⟩<;>rw[h1,h2]<;>grind
theorem Zp5 {p q k t:Int} (ht:t=1\/t=2\/t=3) (hp:0<p) (hq:0<q):crs (AW p k) (AV p k) (AW q (k+t)) (AV q (k+t))≠0\/dt2 (AW p k) (AV p k) (AW q (k+t)) (AV q (k+t))<0:=by
 have hc:k%4=0\/k%4=1\/k%4=2\/k%4=3:=by omega
 have hpq:0<p*q:=Int.mul_pos hp hq;have hm: -p*q= -(p*q)/\p* -q= -(p*q)/\ -p* -q=p*q:=⟨Int.neg_mul ..,Int.mul_neg ..,Int.neg_mul_neg ..⟩;have e:∀j:Int,(k+t)%4=j->∀i:Int,k%4=i->crs (AW p k) (AV p k) (AW q (k+t)) (AV q (k+t))=(if i=0 then p else if i=2 then-p else 0)*(if j=1 then q else if j=3 then-q else 0)-(if i=1 then p else if i=3 then-p else 0)*(if j=0 then q else if j=2 then-q else 0)/\
   dt2 (AW p k) (AV p k) (AW q (k+t)) (AV q (k+t))=(if i=0 then p else if i=2 then-p else 0)*(if j=0 then q else if j=2 then-q else 0)+(if i=1 then p else if i=3 then-p else 0)*(if j=1 then q else if j=3 then-q else 0):=by
  intro j hj i hi;subst hj hi;exact⟨rfl,rfl⟩
 rcases ht with rfl|rfl|rfl<;>rcases hc with h1|h1|h1|h1
 ·obtain⟨e1,e2⟩:=e 1 (by omega) _ h1;simp at e1 e2;omega
 ·obtain⟨e1,e2⟩:=e 2 (by omega) _ h1;simp at e1 e2;omega
 ·obtain⟨e1,e2⟩:=e 3 (by omega) _ h1;simp at e1 e2;omega
 ·obtain⟨e1,e2⟩:=e 0 (by omega) _ h1;simp at e1 e2;omega
 ·obtain⟨e1,e2⟩:=e 2 (by omega) _ h1;simp at e1 e2;omega
 ·obtain⟨e1,e2⟩:=e 3 (by omega) _ h1;simp at e1 e2;omega
 ·obtain⟨e1,e2⟩:=e 0 (by omega) _ h1;simp at e1 e2;omega
 ·obtain⟨e1,e2⟩:=e 1 (by omega) _ h1;simp at e1 e2;omega
 ·obtain⟨e1,e2⟩:=e 3 (by omega) _ h1;simp at e1 e2;omega
 ·obtain⟨e1,e2⟩:=e 0 (by omega) _ h1;simp at e1 e2;omega
 ·obtain⟨e1,e2⟩:=e 1 (by omega) _ h1;simp at e1 e2;omega
 ·obtain⟨e1,e2⟩:=e 2 (by omega) _ h1;simp at e1 e2;omega
theorem Z2l {size:Int} {it:Itm} (h:ArcMade size it):Qkn it:=by
 obtain⟨r,k,t,g,x,h1,h2,h3,h4,h5,h6,h7,h8,h9,h10,h11,h12,h13⟩:=h.ends;have hp:=h.aG;have a1:dU it it.fr=AW r k:=by unfold dU;rw[h12,(Ok hp).1];omega
 have a2:dW it it.fr=AV r k:=by unfold dW;rw[h12,(Ok hp).2.1];omega
 have a3:dU it it.to=AW (r+g) (k+t):=by unfold dU;rw[h12,h13,(Ok hp).1,(Ok hp).1];omega
 have a4:dW it it.to=AV (r+g) (k+t):=by unfold dW;rw[h12,h13,(Ok hp).2.1,(Ok hp).2.1];omega
 have q1:qA it=r*r:=by unfold qA;rw[a1,a2,Qur]
 have q2:qB it=(r+g)*(r+g):=by unfold qB;rw[a3,a4,Qur]
 have m1:64<=r*r:=by
  have:=Int.mul_le_mul h1 h1 (by omega) (by omega);omega
 have m2:64<=(r+g)*(r+g):=by
  have:=Int.mul_le_mul (show(8:Int)<=r+g by omega) (show(8:Int)<=r+g by omega) (by omega) (by omega);omega
 unfold Qkn;refine⟨by omega,by omega,?_,?_,?_⟩
 ·rw[q1,q2];unfold HX;right;have hg:g*g<=16:=by
   have:=Int.mul_le_mul h8 h8 h7 (by omega);omega
  have e1:r*r+(r+g)*(r+g)-16=2*(r*(r+g))+(g*g-16):=by grind
  have hpos:0<=r*(r+g):=Int.mul_nonneg (by omega) (by omega);have hge:64<=r*(r+g):=by
   have:=Int.mul_le_mul h1 (show(8:Int)<=r+g by omega) (by omega) (by omega);omega
  have hgg:0<=g*g:=Int.mul_nonneg h7 h7;have e2:4*(r*r)*((r+g)*(r+g))=(2*(r*(r+g)))*(2*(r*(r+g))):=by grind
  rw[e1,e2];generalize 2*(r*(r+g))=m at*;exact Int.mul_self_le_mul_self (by omega) (by omega)
 ·intro hf;rw[h11]at hf;have ht:=of_decide_eq_true hf;rw[a1,a2,a3,a4,ht,h10 ht,Int.add_zero,Int.add_zero];exact⟨rfl,rfl⟩
 ·intro hf;rw[h11]at hf;have ht:=of_decide_eq_false hf;unfold cAB dAB;rw[a1,a2,a3,a4];exact Zp5 (by omega) (by omega) (by omega)
theorem Zy8 {it:Itm} (h:Made it) (h1:bd 1000000 it.fr) (h2:bd 1000000 it.to):Dg it:=by
 refine⟨h.kind,A0 h1 (by omega),A0 h2 (by omega),fun h3=> ?_⟩;have ha:=h.arc h3;exact⟨ha.aG,ha.dir,A0 (UZ ha (by omega) h1).2 (by omega),Z2l ha⟩
end Go.Bm
namespace Go.Bm
open Classical
structure Oth (it : Itm) : Prop where
 kind:7<=it.kind/\it.kind<=14
 spin:it.kind=8->3<=it.n/\it.n<=5/\0<=it.speed/\it.speed<=4000
 dwell:it.kind=7->0<=it.n/\it.n<=4
 out:it.kind=10->0<=it.n/\it.n<=15
def IOq:Pt->List Itm->Prop
 |_,[]=>True
 |p,it::l=>if AG it then it.fr=p/\IOq it.to l else IOq p l
def Ew:Pt->List Itm->Pt
 |p,[]=>p
 |p,it::l=>if AG it then Ew it.to l else Ew p l
theorem Qiz {it:Itm}:∀{l:List Itm} {p:Pt},IOq p l->(AG it->it.fr=Ew p l)->IOq p (l++[it])
 |[],p,_,h=>by
  simp only[List.nil_append,IOq];split
  ·rename_i c;exact⟨h c,trivial⟩
  ·trivial
 |a::l,p,h1,h=>by
  simp only[List.cons_append,IOq]at h1⊢;unfold Ew at h;by_cases c:AG a
  ·rw[if_pos c]at h1 h⊢;exact⟨h1.1,Qiz h1.2 h⟩
  ·rw[if_neg c]at h1 h⊢;exact Qiz h1 h
theorem IG {it:Itm}:∀{l:List Itm} {p:Pt},Ew p (l++[it])=if AG it then it.to else Ew p l
 |[],p=>by simp only[List.nil_append,Ew]
 |a::l,p=>by
  simp only[List.cons_append,Ew];by_cases c:AG a
  ·rw[if_pos c,if_pos c];exact IG
  ·rw[if_neg c,if_neg c];exact IG
structure Items (A : Nat) (p : Pt) (l : List Itm) : Prop where
 link:IOq p l
 made:∀it∈l,(AG it/\Made it/\Fq it/\bd A it.fr/\bd A it.to)\/Oth it
theorem O0 {A:Nat} {p:Pt} {l:List Itm} {it:Itm} (h:Items A p l) (h1:AG it->it.fr=Ew p l) (h2:(AG it/\Made it/\Fq it/\bd A it.fr/\bd A it.to)\/Oth it):Items A p (l++[it]):=by
 refine⟨Qiz h.link h1,fun i hi=> ?_⟩;simp only[List.mem_append,List.mem_singleton]at hi;rcases hi with hi|rfl
 ·exact h.made i hi
 ·exact h2
theorem Pj {it:Itm} (h:Oth it): ¬AG it:=fun g=>by have:=h.kind;have:=g.2;omega
theorem Z3k {MN:Fn} {l:Rw} (hN:GK l MN) (k:Nat):
  ∃(it:Itm) (k':Nat),Qd5 MN [.view Aa l,I k]=some (Ah it++[.view Aa l,I k'])/\k<=k'/\Oth it:=by
 rw[Zp9];obtain⟨v0,k0,e0,a0,b0,c0,-,-⟩:=hN k (n:=8) (by omega);obtain⟨v1,k1,e1,a1,b1,c1,-,-⟩:=hN k0 (n:=16) (by omega);obtain⟨v2,k2,e2,a2,b2,c2,-,-⟩:=hN k1 (n:=2) (by omega);obtain⟨v3,k3,e3,a3,b3,c3,-,-⟩:=hN k0 (n:=5) (by omega);obtain⟨v4,k4,e4,a4,b4,c4,-,-⟩:=hN k0 (n:=3) (by omega);obtain⟨v5,k5,e5,a5,b5,c5,-,-⟩:=hN k4 (n:=4000) (by omega);simp only[go_sem,e0,e1,e2,e3,e4,e5];rw[Ae (x:=3+v4) (by omega)];have fin:∀(kd n sp:Int) (on:Bool) (k':Nat),k<=k'->Oth ⟨kd,0,⟨0,0,0⟩,⟨0,0,0⟩,0,⟨0,0,0⟩,0,false,0,false,0,0,0,n,sp,on⟩->
   ∃(it:Itm) (k'':Nat),some [I kd,I 0,I 0,I 0,I 0,I 0,I 0,I 0,I 0,I 0,I 0,I 0,I 0,B false,I 0,B false,I 0,I 0,I 0,I n,I sp,B on, .view Aa l,I k']=some (Ah it++[.view Aa l,I k''])/\k<=k''/\Oth it:=by
  intro kd n sp on k' h1 h2;exact⟨_,k',rfl,h1,h2⟩
 by_cases c0:v0=0
 ·rw[if_pos c0];exact fin _ _ _ _ _ (by omega) ⟨by simp only;omega,by simp,by simp,fun _=>by simp only;omega⟩
 rw[if_neg c0];by_cases c1:v0=1
 ·rw[if_pos c1];exact fin _ _ _ _ _ (by omega) ⟨by simp only;omega,by simp,by simp,fun _=>by simp only;omega⟩
 rw[if_neg c1];by_cases c2:v0=2
 ·rw[if_pos c2];exact fin _ _ _ _ _ (by omega) ⟨by simp only;omega,by simp,fun _=>by simp only;omega,by simp⟩
 rw[if_neg c2];by_cases c3:v0=3
 ·rw[if_pos c3];exact fin _ _ _ _ _ (by omega) ⟨by simp only;omega,fun _=>by simp only;omega,by simp,by simp⟩
 rw[if_neg c3];by_cases c4:v0=4
 ·rw[if_pos c4];exact fin _ _ _ _ _ (by omega) ⟨by simp only;omega,by simp,by simp,by simp⟩
 rw[if_neg c4];by_cases c5:v0=5
 ·rw[if_pos c5];exact fin _ _ _ _ _ (by omega) ⟨by simp only;omega,by simp,by simp,by simp⟩
 rw[if_neg c5];by_cases c6:v0=6
 ·rw[if_pos c6];exact fin _ _ _ _ _ (by omega) ⟨by simp only;omega,by simp,by simp,by simp⟩
 rw[if_neg c6];exact fin _ _ _ _ _ (by omega) ⟨by simp only;omega,by simp,by simp,by simp⟩
theorem Z3b {l:Rw} (hl:Src l) (k:Nat):∃(it:Itm) (k':Nat),KT [.view Aa l,I k]=some (Ah it++[.view Aa l,I k'])/\k<=k'/\Oth it:=Z3k (Hv hl) k
theorem Z5d {v:Int} (h:0<=v/\v<8):∃x,Af (nth .dead (nth [] [[I 2],[I 2],[I 2],[I 3],[I 1],[I 6],[I 5],[I 4]] v.toNat) 0)=x/\1<=x/\x<=6:=by
 have hc:v=0\/v=1\/v=2\/v=3\/v=4\/v=5\/v=6\/v=7:=by omega
 rcases hc with rfl|rfl|rfl|rfl|rfl|rfl|rfl|rfl<;>exact⟨_,rfl,by decide⟩
theorem Zdr {MM MO ML MN MF:Fn} {l:Rw} (hN:GK l MN)
  (hM : ∀ {p : Pt}, bd 100000000 p -> ∀ {kind : Int}, (1 <= kind /\ kind <= 6) -> ∀ k : Nat,
   ∃(it:Itm) (k':Nat),MM [I p.x,I p.y,I p.z,I kind, .view Aa l,I k]=some (Ah it++[.view Aa l,I k'])/\k<=k'/\it.fr=p/\it.kind=kind/\Made it/\Fq it)
  (hO:∀k:Nat,∃(it:Itm) (k':Nat),MO [.view Aa l,I k]=some (Ah it++[.view Aa l,I k'])/\k<=k'/\Oth it)
  (hL:∀k:Nat,ML [.view Aa l,I k]=some [B (decide (k<l.length)), .view Aa l,I k]) {most:Int} {fin:Bool} (hm:most<=100) {p:Pt}:
  ∀s:List Itm×Nat,(Items (4+40*102) p s.1/\bd (4+40*s.1.length) (Ew p s.1)/\(s.1=[]\/s.1.length<=most+1))->
   ∃o,An (Qaw MM MO ML MN MF) [.view Al (s.1.map Ah),I most,B fin,I (Ew p s.1).x,I (Ew p s.1).y,I (Ew p s.1).z, .view Aa l,I s.2]=some o/\o.1≠0/\
    ∃aA,o=(1,[.view Al (aA.map Ah),B fin])/\Items (4+40*102) p aA/\(aA=[]\/aA.length<=most+1):=by
 refine Zaq (S:=List Itm×Nat) (fun s=>[.view Al (s.1.map Ah),I most,B fin,I (Ew p s.1).x,I (Ew p s.1).y,I (Ew p s.1).z, .view Aa l,I s.2]) _ (fun s=>l.length-s.2) _ ?_;rintro⟨aA,k⟩ ⟨h1,h2,h3⟩;simp only at h1 h2 h3;simp only;rw[Zzq];simp only[go_sem,hL,List.length_map];by_cases c1:(aA.length:Int)<most
 case neg=>
  rw[if_neg c1];exact .inr ⟨_,rfl,by simp,aA,rfl,h1,h3⟩
 rw[if_pos c1];by_cases c2:k<l.length
 case neg=>
  rw[if_neg (by simpa using c2)];exact .inr ⟨_,rfl,by simp,aA,rfl,h1,h3⟩
 rw[if_pos (by simpa using c2)];obtain⟨v,k1,e1,a1,b1,d1,d2,-⟩:=hN k (n:=12) (by omega);have d3:=d2 c2;subst d3;simp only[go_sem,e1];have hmost:aA.length<100:=by omega
 by_cases c3:v<4
 ·rw[if_pos c3];obtain⟨it,k2,e2,g1,g2⟩:=hO (k+1);have hnm:=Pj g2;simp only[go_sem,e2,Ah,List.cons_append,List.nil_append];rw[if_pos (by simp;omega)];left;refine⟨(aA++[it],k2),?_,⟨O0 h1 (fun h=>absurd h hnm) (.inr g2),?_, .inr ?_⟩,?_⟩
  ·simp only[IG,if_neg hnm,List.map_append,List.map_cons,List.map_nil,Ah]
  ·simp only[IG,if_neg hnm,List.length_append,List.length_singleton];exact A0 h2 (by omega)
  ·simp only[List.length_append,List.length_singleton];omega
  ·simp only;omega
 ·rw[if_neg c3,Ae (by omega)];obtain⟨x,hx,hx1,hx2⟩:=Z5d (v:=v-4) (by omega);have hpb:bd 100000000 (Ew p aA):=A0 h2 (by omega);obtain⟨it,k2,e2,g1,g2,g3,g4,g5⟩:=hM hpb (kind:=x) (by omega) (k+1);have hmo:AG it:=by unfold AG;omega
  have hb2:=Qxd g4 (by rw[g2];exact h2);rw[if_pos (by simp;omega)];simp only[go_sem,hx,e2,Ah,List.cons_append,List.nil_append];have hmade:(AG it/\Made it/\Fq it/\bd (4+40*102) it.fr/\bd (4+40*102) it.to)\/Oth it:= .inl ⟨hmo,g4,g5,by rw[g2];exact A0 h2 (by omega),A0 hb2 (by omega)⟩;by_cases c5:it.kind=5
  ·rw[if_pos c5];obtain⟨v3,k3,e3,a3,b3,d3,-,-⟩:=hN k2 (n:=2) (by omega);obtain⟨v4,k4,e4,a4,b4,d4,-,-⟩:=hN k3 (n:=3000) (by omega);simp only[go_sem,e3,e4];rw[Ae (x:=3+v3) (by omega),Ae (x:=200+v4) (by omega)];rw[if_pos (by simp;omega),if_pos (by simp;omega)];have hsp:Oth ⟨8,0,⟨0,0,0⟩,⟨0,0,0⟩,0,⟨0,0,0⟩,0,false,0,false,0,0,0,3+v3,200+v4,false⟩:=⟨by simp only;omega,fun _=>by simp only;omega,by simp,by simp⟩;have hnm:=Pj hsp;have i1:=O0 h1 (fun h=>absurd h hnm) (.inr hsp);left;refine⟨(aA++[⟨8,0,⟨0,0,0⟩,⟨0,0,0⟩,0,⟨0,0,0⟩,0,false,0,false,0,0,0,3+v3,200+v4,false⟩]++[it],k4),?_,⟨O0 i1 (fun _=>by rw[IG,if_neg hnm];exact g2) hmade,?_, .inr ?_⟩,?_⟩
   ·simp only[IG,if_pos hmo,List.map_append,List.map_cons,List.map_nil,Ah]
   ·simp only[IG,if_pos hmo,List.length_append,List.length_singleton];exact A0 hb2 (by omega)
   ·simp only[List.length_append,List.length_singleton];omega
   ·simp only;omega
  ·rw[if_neg c5,if_pos (by simp;omega)];left;refine⟨(aA++[it],k2),?_,⟨O0 h1 (fun _=>g2) hmade,?_, .inr ?_⟩,?_⟩
   ·simp only[IG,if_pos hmo,List.map_append,List.map_cons,List.map_nil,Ah]
   ·simp only[IG,if_pos hmo,List.length_append,List.length_singleton];exact A0 hb2 (by omega)
   ·simp only[List.length_append,List.length_singleton];omega
   ·simp only;omega
def LL:Itm:=⟨14,0,⟨0,0,0⟩,⟨0,0,0⟩,0,⟨0,0,0⟩,0,false,0,false,0,0,0,0,0,false⟩
theorem Q5n:Oth LL:=⟨by simp[LL],by simp[LL],by simp[LL],by simp[LL]⟩
theorem Zk3 {MM MO ML MN MF:Fn} {N:Lp} {l:Rw} (hN:GK l MN) (hF:MF [.view Aa l]=some [.view Aa l,I 0]) {most:Int} {fin:Bool} (hm:most<=100)
  (hL:∀(p:Pt) (k:Nat),bd 4 p->∃aA,N [.view Al [],I most,B fin,I p.x,I p.y,I p.z, .view Aa l,I k]=some (1,[.view Al (aA.map Ah),B fin])/\Items 4084 p aA/\(aA=[]\/aA.length<=most+1)):
  ∃(p:Pt) (aA:List Itm),Qb0 MM MO ML MN MF N [.view Aa l,I most,B fin]=some [.view Al ((aA++if fin=true then [LL]else []).map Ah)]/\Items 4084 p aA/\(aA=[]\/aA.length<=most+1):=by
 obtain⟨v1,k1,e1,a1,b1,c1,-,-⟩:=hN 0 (n:=9) (by omega);obtain⟨v2,k2,e2,a2,b2,c2,-,-⟩:=hN k1 (n:=9) (by omega);obtain⟨v3,k3,e3,a3,b3,c3,-,-⟩:=hN k2 (n:=9) (by omega);obtain⟨aA,h1,h2,h3⟩:=hL ⟨v1-4,v2-4,v3-4⟩ k3 ⟨by simp only;omega,by simp only;omega,by simp only;omega⟩;rw[Z3u];have e1':MN [I 9, .view Aa l,I 0]=some [I v1, .view Aa l,I k1]:=e1;simp only[go_sem,hF,e1',e2,e3];rw[Ae (x:=v1-4) (by omega),Ae (x:=v2-4) (by omega),Ae (x:=v3-4) (by omega)];simp only[h1,go_sem];refine⟨_,aA,?_,h2,h3⟩;have hlen:aA.length<=101:=by
  rcases h3 with h3|h3
  ·rw[h3];simp
  ·omega
 cases fin
 ·simp
 ·rw[if_pos rfl,if_pos (by simp;omega),if_pos rfl,List.map_append];rfl
theorem Zm0 {l:Rw} (hl:Src l) {most:Int} (hm:most<=100) (fin:Bool):
  ∃(p:Pt) (aA:List Itm),La [.view Aa l,I most,B fin]=some [.view Al (aA.map Ah)]/\Items 4084 p aA/\(aA.length:Int)<=max most (-1)+2/\(fin=true->∃l,aA=l++[LL]/\(l.length:Int)<=max most (-1)+1)/\(fin=false->(aA.length:Int)<=max most (-1)+1):=by
 obtain⟨p,aA,h1,h2,h3⟩:=Zk3 (MM:=L0) (MO:=KT) (ML:=FV) (N:=Qbp) (fin:=fin) (Hv hl) (Qv l) hm fun p k hp=>by
  obtain⟨o,h1,-,aA,rfl,h3,h4⟩:=Zdr (MF:=Co) (fin:=fin) (Hv hl) (fun hp _ hk k=>Z5m hl hp hk k) (fun k=>Z3b hl k) (Q5s l) hm (p:=p) ([],k) ⟨⟨trivial,by simp⟩,hp, .inl rfl⟩;exact⟨aA,h1,h3,h4⟩
 have hle:(aA.length:Int)<=max most (-1)+1:=by
  rcases h3 with h3|h3
  ·rw[h3];simp;omega
  ·omega
 refine⟨p,_,h1,?_,?_,fun hf=> ?_,fun hf=> ?_⟩
 ·cases fin
  ·simpa using h2
  ·simp only[if_true];exact O0 h2 (fun h=>absurd h (Pj Q5n)) (.inr Q5n)
 ·cases fin
  ·simp;omega
  ·simp;omega
 ·subst hf;exact⟨aA,by simp,hle⟩
 ·subst hf;simpa using hle
theorem Qar {A:Nat} {aA:List Itm} (hA:A<=1000000) (hm:∀it∈aA,(AG it/\Made it/\Fq it/\bd A it.fr/\bd A it.to)\/Oth it):∀(k i:Nat) (last:Int) (p:Pt),i+k=aA.length->IOq p (aA.drop i)->(0<=last->(itA aA last.toNat).to=p)->Gm aA k i last=0
 |0,_,_,_,_,_,_=>rfl
 |k+1,i,last,p,hi,h,hp=>by
  have hlt:i<aA.length:=by omega
  have hit:=hm _ (Q00 hlt);rw[Qli hlt]at h;unfold IOq at h;unfold Gm;have hw: ¬B8 (itA aA i):=by
   rcases hit with⟨h1,h2,h3,h4,h5⟩|ho
   ·have hv:=Zy8 h2 (A0 h4 hA) (A0 h5 hA);have hf:=h2.feed;have hb:=h2.blend;have hk:=h2.kind;rintro(g|g|⟨-,g|g|g|g⟩|⟨g,-⟩)
    ·omega
    ·omega
    ·exact g hv
    ·omega
    ·omega
    ·omega
    ·exact g h1
   ·have hk:=ho.kind;rintro(g|g|⟨g,-⟩|⟨-,g1,g2⟩)
    ·omega
    ·omega
    ·exact Pj ho g
    ·have:=ho.spin g1;omega
  rw[if_neg hw];by_cases c:AG (itA aA i)
  ·rw[if_pos c]at h⊢;rw[if_neg (fun g=>g.2 (by rw[hp g.1];exact h.1.symm))];exact Qar hA hm k (i+1) i _ (by omega) h.2 (fun _=>by rw[Int.toNat_natCast])
  ·rw[if_neg c]at h⊢;exact Qar hA hm k (i+1) last p (by omega) h hp
theorem Qtc {A:Nat} {p:Pt} {aA:List Itm} (hA:A<=1000000) (h:Items A p aA) (hl:aA.length<=20000):Db aA=0:=by
 unfold Db;rw[if_neg (by omega)];exact Qar hA h.made aA.length 0 (-1) p (by omega) (by rw[List.drop_zero];exact h.link) (fun h=>by omega)
end Go.Bm
namespace Go.Bm
theorem Zie {M:Fn} (hM:∀{hi lo y:Nat},hi<y->y<w64->lo<w64->M [U hi,U lo,U y]=some [U (((hi*w64+lo)/y:Nat):Int),U (((hi*w64+lo)%y:Nat):Int)])
  {hi lo y:Nat} (hhi:hi<w64) (hlo:lo<w64) (hy0:0<y) (hy:y<w64):
  ∃qh ql:Nat,Qfj M [U hi,U lo,U y]=some [U qh,U ql,B (decide (0<(hi*w64+lo)%y))]/\qh<w64/\ql<w64/\qh*w64+ql=(hi*w64+lo)/y:=by
 have h1:=hM (hi:=0) (lo:=hi) hy0 hy hhi;rw[Nat.zero_mul,Nat.zero_add,show((0:Nat):Int)=0 from rfl]at h1;have hm:=Nat.mod_lt hi hy0;have h2:=hM (hi:=hi%y) (lo:=lo) hm hy hlo;have e:=Nat.div_add_mod hi y;have e2:hi*w64+lo=hi%y*w64+lo+hi/y*w64*y:=by
  have:hi*w64=hi/y*w64*y+hi%y*w64:=by
   rw[<-e,Nat.mul_add_mod,Nat.mod_mod];rw[show(y*(hi/y)+hi%y)/y=hi/y from by rw[e]];rw[Nat.add_mul,Nat.mul_comm y,Nat.mul_assoc,Nat.mul_comm y,Nat.mul_assoc]
  omega
 have hq:(hi*w64+lo)/y=(hi%y*w64+lo)/y+hi/y*w64:=by rw[e2,Nat.add_mul_div_right _ _ hy0]
 have hr:(hi*w64+lo)%y=(hi%y*w64+lo)%y:=by rw[e2,Nat.add_mul_mod_self_right]
 have hlt:(hi%y*w64+lo)/y<w64:=by
  rw[Nat.div_lt_iff_lt_mul hy0];have:hi%y*w64+w64<=y*w64:=by rw[<-Nat.succ_mul];exact Nat.mul_le_mul_right _ hm
  rw[Nat.mul_comm w64];omega
 refine⟨hi/y,(hi%y*w64+lo)/y,?_,Nat.lt_of_le_of_lt (Nat.div_le_self _ _) hhi,hlt,by rw[hq];omega⟩;rw[Zw6];simp only[go_sem,h1,h2,hr];by_cases c:0<(hi%y*w64+lo)%y
 ·rw[decide_eq_true c,decide_eq_true (show(((hi%y*w64+lo)%y:Nat):Int)>0 by omega)]
 ·rw[decide_eq_false c,decide_eq_false (show¬(((hi%y*w64+lo)%y:Nat):Int)>0 by omega)]
theorem Z6q {A n t:Nat} (hn:0<n) (h1:t*t<=2*A*(2*A)/n) (h2:2*A*(2*A)/n<(t+1)*(t+1)) (down:Bool) {E:Prop} [Decidable E] (hE:E↔(2*A*(2*A)%n=0/\t*t=2*A*(2*A)/n)):
  Et A n down (if t%2=1/\(¬E\/down=false)then t/2+1 else t/2):=by
 have e4:2*A*(2*A)=4*(A*A):=by grind
 have k1:t*t*n<=2*A*(2*A):=(Nat.le_div_iff_mul_le hn).1 h1;have k2:2*A*(2*A)<(t+1)*(t+1)*n:=(Nat.div_lt_iff_lt_mul hn).1 h2;have k3:(2*A*(2*A)%n=0/\t*t=2*A*(2*A)/n)↔t*t*n=2*A*(2*A):=by
  have hd:=Nat.div_add_mod (2*A*(2*A)) n;constructor
  ·rintro⟨g1,g2⟩;rw[g2,Nat.mul_comm];omega
  ·intro g;rw[<-g];exact⟨Nat.mul_mod_left _ _,(Nat.mul_div_cancel _ hn).symm⟩
 have k4:=hE.trans k3;rw[e4]at k1 k2 k4;clear hE k3 h1 h2;generalize hQ:4*(A*A)=Q at*;unfold Et;rw[hQ];rcases Nat.mod_two_eq_zero_or_one t with ht|ht
 ·rw[if_neg (by omega)];obtain⟨m,rfl⟩:∃m,t=2*m:=⟨t/2,by omega⟩;rw[show 2*m/2=m by omega];have h5:(2*m+1)*(2*m+1)*n<=(2*m+1)*(2*m+1)*n:=Nat.le_refl _;refine⟨?_,?_⟩
  ·rcases Nat.eq_zero_or_pos m with hm|hm
   ·exact .inl hm
   ·right;have h6:(2*m-1)*(2*m-1)*n<2*m*(2*m)*n:=Nat.mul_lt_mul_of_pos_right (Nat.mul_self_lt_mul_self (by omega)) hn;split<;>omega
  ·split<;>omega
 ·obtain⟨m,rfl⟩:∃m,t=2*m+1:=⟨t/2,by omega⟩;rw[show(2*m+1)/2=m by omega];have h6:(2*m+1+1)*(2*m+1+1)*n<=(2*(m+1)+1)*(2*(m+1)+1)*n:=QT (by omega);have h7:(2*m-1)*(2*m-1)*n<(2*m+1)*(2*m+1)*n:=Nat.mul_lt_mul_of_pos_right (Nat.mul_self_lt_mul_self (by omega)) hn;have h8:2*(m+1)-1=2*m+1:=by omega
  by_cases c: ¬E\/down=false
  ·rw[if_pos ⟨ht,c⟩,h8];refine⟨.inr ?_,?_⟩
   ·cases down
    ·simp only[Bool.false_eq_true,if_false];exact k1
    ·simp only[if_true];rcases c with c|c
     ·exact Nat.lt_of_le_of_ne k1 fun h=>c (k4.2 h)
     ·cases c
   ·split<;>omega
  ·have c1:(2*m+1)*(2*m+1)*n=Q:=by
    by_cases g:E
    ·exact k4.1 g
    ·exact absurd (.inl g) c
   have c2:down=true:=by
    cases down
    ·exact absurd (.inr rfl) c
    ·rfl
   subst c2;rw[if_neg (fun h=>c h.2)];simp only[if_true];exact⟨.inr (by omega),by omega⟩
theorem Zfh {x d:Int}:sgn x d<0↔x*d<0:=by
 rcases Sq x d with⟨h,g⟩|⟨h,g⟩|⟨h,g⟩<;>omega
theorem Zpv {MSg MG MS MR MQ MP MK MZ:Fn} {x d:Int} {n X D h1 l1 qh ql t h2 l2:Nat} (hX:X<=2147483648) (hD:D<=2147483648) (hn:0<n/\n<=4611686018427387904)
  (z1:MZ [I x]=some [U X]) (z2:MZ [I d]=some [U D]) (hk:MK [I 2]=some [B true]) (hp1:MP [U ((2*(X*D):Nat):Int),U ((2*(X*D):Nat):Int)]=some [U h1,U l1])
  (hq1:MQ [U h1,U l1,U n]=some [U qh,U ql,B (decide (0<2*(X*D)*(2*(X*D))%n))]) (hq2:qh*w64+ql=2*(X*D)*(2*(X*D))/n) (hql:ql<w64) (hr1:MR [U qh,U ql]=some [U t]) (ht2:t<w64)
  (hp2:MP [U t,U t]=some [U h2,U l2]) (hp3:h2*w64+l2=t*t) (hl2:l2<w64) (hs:MS [I x,I d]=some [I (sgn x d)])
  (hg:∀(more:Int) (some_ neg:Bool),MG [I 2,I more,B some_,B neg]=some [B (if more>0 then true else if more=0 then !neg else false)])
  (g1:∀{n:Nat},n<9223372036854775808->MSg [U n,B false]=some [I n,B true]) (g2:∀{n:Nat},n<=9223372036854775808->MSg [U n,B true]=some [I (-(n:Int)),B true]) {J:Nat}
  (hJ1:t%2=1->(¬(2*(X*D)*(2*(X*D))%n=0/\t*t=2*(X*D)*(2*(X*D))/n)\/ ¬sgn x d<0)->J=t/2+1) (hJ3: ¬(t%2=1/\(¬(2*(X*D)*(2*(X*D))%n=0/\t*t=2*(X*D)*(2*(X*D))/n)\/ ¬sgn x d<0))->J=t/2) (hJ2:t<=9223372036854775808):
  Qhp MSg MG MS MR MQ MP MK MZ [I x,I d,I n,I 2]=some [I (if sgn x d<0 then-(J:Int)else J),B true]:=by
 have hXD:X*D<=2147483648*2147483648:=Nat.mul_le_mul hX hD;have w1:wrap .u64 (2*wrap .u64 ((X:Int)*(D:Int)))=((2*(X*D):Nat):Int):=by
  rw[<-Int.natCast_mul,wr (by omega),show(2:Int)*((X*D:Nat):Int)=((2*(X*D):Nat):Int) by omega,wr (by omega)]
 have w2:wrap .u64 (n:Int)=n:=wr (by omega);have w3:((t:Int)).tdiv 2=((t/2:Nat):Int):=U2 t 2;have w4:wrap .u64 ((t/2:Nat):Int)=((t/2:Nat):Int):=wr (by rw[BC]at ht2;omega);have w5:wrap .u64 (((t/2:Nat):Int)+1)=((t/2+1:Nat):Int):=by rw[show((t/2:Nat):Int)+1=((t/2+1:Nat):Int) by omega,wr (by rw[BC]at ht2;omega)]
 have w6:((t:Int).tmod 2=1)=(t%2=1):=by
  rw[Int.tmod_eq_emod_of_nonneg (by omega)];exact propext ⟨by omega,by omega⟩
 have hgt:∀(neg:Bool) (k:Nat),k<9223372036854775808->MSg [U k,B neg]=some [I (if neg=true then-(k:Int)else k),B true]:=by
  intro neg k hk;cases neg
  ·exact g1 hk
  ·exact g2 (by omega)
 have key:∀(neg:Bool) (k:Nat),decide (sgn x d<0)=neg->J=k->k<9223372036854775808->MSg [U k,B neg]=some [I (if sgn x d<0 then-(J:Int)else J),B true]:=by
  intro neg k h1 h2 h3;rw[hgt neg k h3,h2];congr 3;by_cases c:sgn x d<0
  ·rw[if_pos c,if_pos (by rw[<-h1];exact decide_eq_true c)]
  ·rw[if_neg c,if_neg (by rw[<-h1];simpa using c)]
 have eqq:(h2=qh/\l2=ql)↔t*t=2*(X*D)*(2*(X*D))/n:=by
  rw[<-hp3,<-hq2];constructor
  ·rintro⟨rfl,rfl⟩;rfl
  ·intro h;have a1:∀p q u v:Nat,u<w64->v<w64->p*w64+u=q*w64+v->p=q/\u=v:=by
    intro p q u v hu hv h;rcases Nat.lt_trichotomy p q with c|c|c
    ·have:=Nat.mul_le_mul_right w64 (show p+1<=q from c);rw[Nat.succ_mul]at this;omega
    ·subst c;exact⟨rfl,by omega⟩
    ·have:=Nat.mul_le_mul_right w64 (show q+1<=p from c);rw[Nat.succ_mul]at this;omega
   exact a1 _ _ _ _ hl2 hql h
 rw[Zfv];simp only[go_sem,z1,z2,hk,w1,w2,hp1,hq1,hr1,hs,hp2,w3,w4,w5,hg];rw[if_neg (by omega),if_neg (by omega),if_neg (by omega),if_neg (by omega),if_neg (by simp)];have ht63:t/2+1<9223372036854775808:=by omega
 have hT:∀k:Nat,J=k->k<9223372036854775808->((MSg [U (k:Int),B (decide (sgn x d<0))]).bind fun o=>some [I (Af (nth .dead o 0)),B (Dp (nth .dead o 1))])=some [I (if sgn x d<0 then-(J:Int)else J),B true]:=by
  intro k h1 h2;rw[key _ k rfl h1 h2];rfl
 have e3:((h2:Int)=qh/\(l2:Int)=ql/\True)=(t*t=2*(X*D)*(2*(X*D))/n):=by
  rw[<-propext eqq];exact propext ⟨fun h=>⟨by omega,by omega⟩,fun h=>⟨by omega,by omega,trivial⟩⟩
 simp only[e3,w6];have n1:((1:Int)>0)=True:=by simp
 have n2:((-1:Int)>0)=False:=by simp
 have n3:((-1:Int)=0)=False:=by simp
 have n4:((0:Int)>0)=False:=by simp
 by_cases cR:2*(X*D)*(2*(X*D))%n=0
 ·rw[if_neg (show¬0<2*(X*D)*(2*(X*D))%n by omega)];by_cases ct:t%2=1
  ·by_cases cE:t*t=2*(X*D)*(2*(X*D))/n
   ·by_cases cn:sgn x d<0
    ·have:=hJ3 (fun h=>h.2.elim (fun g=>g ⟨cR,cE⟩) fun g=>g cn);simp only[n1,n2,n3,n4,Bool.false_eq_true,ct,cE,not_true_eq_false,if_true,if_false];rw[if_neg (by simp[cn])];exact hT _ this (by omega)
    ·have:=hJ1 ct (.inr cn);simp only[n1,n2,n3,n4,Bool.false_eq_true,ct,cE,not_true_eq_false,if_true,if_false];rw[if_pos (by simp;omega)];exact hT _ this ht63
   ·have:=hJ1 ct (.inl fun g=>cE g.2);simp only[n1,n2,n3,n4,Bool.false_eq_true,ct,cE,not_true_eq_false,not_false_eq_true,if_true,if_false];exact hT _ this ht63
  ·have:=hJ3 (fun h=>ct h.1);simp only[n1,n2,n3,n4,Bool.false_eq_true,ct,if_false,ite_self];exact hT _ this (by omega)
 ·rw[if_pos (show 0<2*(X*D)*(2*(X*D))%n by omega)];by_cases ct:t%2=1
  ·have:=hJ1 ct (.inl fun g=>cR g.1);simp only[n1,n2,n3,n4,Bool.false_eq_true,ct,not_false_eq_true,if_true];exact hT _ this ht63
  ·have:=hJ3 (fun h=>ct h.1);simp only[n1,n2,n3,n4,Bool.false_eq_true,ct,not_false_eq_true,if_true,if_false];exact hT _ this (by omega)
theorem Zk0 {x d:Int} {n:Nat} {J:Nat} (hn:0<n) (hd:0<=d) (hi:Et (x.natAbs*d.natAbs) n (decide (x*d<0)) J):(if x*d<0 then-(J:Int)else J)=BX x d n:=by
 unfold BX;rw[Int.natAbs_natCast];by_cases hx:x<0
 ·rw[if_pos hx];by_cases hd0:d=0
  ·subst hd0;rw[Int.mul_zero,if_neg (by omega)];rw[show x.natAbs*(0:Int).natAbs=0 from by simp]at hi⊢;have e1:Et 0 n true 0:=⟨.inl rfl,by simp⟩;rw[Sg e1];obtain⟨h1,-⟩:=hi;rw[decide_eq_false (by simp)]at h1;simp only[Bool.false_eq_true,if_false]at h1;rcases h1 with h1|h1
   ·omega
   ·rcases Nat.eq_zero_or_pos J with hJ|hJ
    ·omega
    ·have h2:=Nat.mul_pos (Nat.mul_pos (show 0<2*J-1 by omega) (show 0<2*J-1 by omega)) hn;omega
  ·have hxd:x*d<0:=Int.mul_neg_of_neg_of_pos hx (by omega);rw[decide_eq_true hxd]at hi;rw[if_pos hxd,Sg hi]
 ·rw[if_neg hx];have hxd: ¬x*d<0:=by have:=Int.mul_nonneg (show 0<=x by omega) hd;omega
  rw[decide_eq_false hxd]at hi;rw[if_neg hxd,Sg hi]
theorem WK {x d n:Int} (hx:x.natAbs<=2147483648) (hd:0<=d/\d<=2147483648) (hn:0<n/\n<=4611686018427387904):If [I x,I d,I n,I 2]=some [I (BX x d n),B true]:=by
 obtain⟨N,rfl⟩:=Int.eq_ofNat_of_zero_le (show 0<=n by omega);have hD:d.natAbs<=2147483648:=by omega
 have hXD:x.natAbs*d.natAbs<=2147483648*2147483648:=Nat.mul_le_mul hx hD;have hN:0<N/\N<=4611686018427387904:=by omega
 have hp:2*(x.natAbs*d.natAbs)<w64:=by rw[BC];omega
 obtain⟨h1,l1,e1,e2,e3⟩:=NC hp hp;have hNw:N<w64:=by rw[BC];omega
 have hh1:h1<w64:=by
  have:=Nat.mul_lt_mul'' hp hp;rw[<-e2]at this;by_cases c:h1<w64
  ·exact c
  ·have:=Nat.mul_le_mul_right w64 (show w64<=h1 by omega);omega
 obtain⟨qh,ql,q1,q2,q3,q4⟩:=Zie (M:=G8) Q2l hh1 e3 hN.1 hNw;rw[e2]at q1 q4;obtain⟨t,r1,r2,r3,r4⟩:=Zaa q2 q3;rw[q4]at r2 r3;obtain⟨h2,l2,p1,p2,p3⟩:=NC r4 r4;have ht:t<=9223372036854775808:=by
  have k1:t*t<=2*(x.natAbs*d.natAbs)*(2*(x.natAbs*d.natAbs)):=Nat.le_trans r2 (Nat.div_le_self _ _);have k2:=Nat.mul_self_le_mul_self_iff.1 k1;omega
 have hi:=Z6q hN.1 r2 r3 (decide (x*d<0)) (E:=2*(x.natAbs*d.natAbs)*(2*(x.natAbs*d.natAbs))%N=0/\t*t=2*(x.natAbs*d.natAbs)*(2*(x.natAbs*d.natAbs))/N) Iff.rfl;have hres:=Zk0 hN.1 hd.1 hi;rw[<-hres];have:= @Zfh x d;have hif:∀a:Int,(if x*d<0 then-a else a)=if sgn x d<0 then-a else a:=by
  intro a;by_cases c:x*d<0
  ·rw[if_pos c,if_pos (this.2 c)]
  ·rw[if_neg c,if_neg (fun h=>c (this.1 h))]
 rw[hif];refine Zpv (X:=x.natAbs) (D:=d.natAbs) hx hD hN (HT (by unfold i64;omega)) (HT (by unfold i64;omega)) (UR (.inr (.inr rfl))) e1 q1 q4 q3 r1 r4 p1 p2 p3 (VA x d) Qx9 Qjl Qvy (fun h1 h2=> ?_) (fun h=> ?_) ht
 ·rw[if_pos ⟨h1,h2.imp id fun h=>decide_eq_false fun g=>h (this.2 g)⟩]
 ·rw[if_neg fun g=>h ⟨g.1,g.2.imp id fun k g2=>by rw[decide_eq_false_iff_not]at k;exact k (this.1 g2)⟩]
end Go.Bm
namespace Go.Bm
theorem Qy8 {a b:Pt} (ha:bd 67108864 a) (hb:bd 67108864 b):
    wrap .i64 (wrap .i64 (wrap .i64 (0+wrap .i64 (wrap .i64 (a.x-b.x)*wrap .i64 (a.x-b.x)))+wrap .i64 (wrap .i64 (a.y-b.y)*wrap .i64 (a.y-b.y)))+wrap .i64 (wrap .i64 (a.z-b.z)*wrap .i64 (a.z-b.z)))=sqD a b:=by
  have h:∀x y:Int,x.natAbs<=67108864->y.natAbs<=67108864->0<=(x-y)*(x-y)/\(x-y)*(x-y)<=18014398509481984:=by
    intro x y hx hy;exact DE (x:=x-y) (A:=134217728) (by omega)
  have h1:=h _ _ ha.1 hb.1;have h2:=h _ _ ha.2.1 hb.2.1;have h3:=h _ _ ha.2.2 hb.2.2;obtain⟨a1,a2,a3⟩:=ha;obtain⟨b1,b2,b3⟩:=hb;rw[Ae (x:=a.x-b.x) (by omega),Ae (x:=a.y-b.y) (by omega),Ae (x:=a.z-b.z) (by omega)];unfold sqD IU GF;simp only;generalize(a.x-b.x)*(a.x-b.x)=u at*;generalize(a.y-b.y)*(a.y-b.y)=v at*;generalize(a.z-b.z)*(a.z-b.z)=w at*;rw[Ae (x:=u) (by omega),Ae (x:=0+u) (by omega),Ae (x:=v) (by omega),Ae (x:=0+u+v) (by omega),Ae (x:=w) (by omega),Ae (by omega),Int.zero_add]
theorem Zzs {M:Fn} {a b:Pt} {n:Nat} (ha:bd 67108864 a) (hb:bd 67108864 b) (hn:sqD a b=n)
    (hM:∃r:Nat,M [I n,I 1]=some [I ((if((1:Int)=1/\r*r<n)\/((1:Int)=2/\r*r+r<n)then r+1 else r:Nat):Int),B true]/\r*r<=n/\n<(r+1)*(r+1)):
    Xk M [I a.x,I a.y,I a.z,I b.x,I b.y,I b.z]=some [I (AB a b)]:=by
  obtain⟨r,h1,h2,h3⟩:=hM;have hu:=Q7g h2 h3;rw[Zo0,Qy8 ha hb,hn];simp only[go_sem,h1];unfold AB;rw[hn,Qr2 hu];congr 3;by_cases c:r*r<n
  · rw[if_pos (.inl ⟨trivial,c⟩),if_pos c]
  · rw[if_neg (by simp[c]),if_neg c]
theorem WC {a b:Pt} (ha:bd 67108864 a) (hb:bd 67108864 b):Ix [I a.x,I a.y,I a.z,I b.x,I b.y,I b.z]=some [I (AB a b)]:=by
  have h0:=PF a b;have h1:=Pp ha hb (Nat.le_refl _);obtain⟨n,hn⟩:=Int.eq_ofNat_of_zero_le h0;exact Zzs ha hb hn (Zai (by omega) (.inl rfl))
theorem Zp4 {MO:Fn} {a b:Spk} {u w:Int} (ha:okS a) (hb:okS b) (hu:u.natAbs<=100000000) (hw:w.natAbs<=100000000)
    (hO: ¬(u=0/\w=0)->MO [I u,I (hf a.r b.r),I (sq2 u w),I 2]=some [I (BX u (hf a.r b.r) (sq2 u w)),B true]/\MO [I w,I (hf a.r b.r),I (sq2 u w),I 2]=some [I (BX w (hf a.r b.r) (sq2 u w)),B true]):
    (bif u == 0 then
      bif w==0 then some [AC.int IntKind.i64 0,AC.int IntKind.i64 0,AC.int IntKind.i64 0,AC.int IntKind.i64 0,AC.bool false]
      else(MO [AC.int IntKind.i64 u,AC.int IntKind.i64 ((wrap .i64 (wrap .i64 (a.r+b.r)+1)).fdiv (2^min (Int.toNat 1) IntKind.i64.bits)),AC.int IntKind.i64 (wrap .i64 (wrap .i64 (u*u)+wrap .i64 (w*w))),AC.int IntKind.i64 2]).bind fun o36=>
       (MO [AC.int IntKind.i64 w,AC.int IntKind.i64 ((wrap .i64 (wrap .i64 (a.r+b.r)+1)).fdiv (2^min (Int.toNat 1) IntKind.i64.bits)),AC.int IntKind.i64 (wrap .i64 (wrap .i64 (u*u)+wrap .i64 (w*w))),AC.int IntKind.i64 2]).bind fun o37=>
       some [AC.int IntKind.i64 (Af (nth AC.dead o36 0)),AC.int IntKind.i64 (Af (nth AC.dead o37 0)),AC.int IntKind.i64 ((wrap .i64 (wrap .i64 (a.r+b.r)+1)).fdiv (2^min (Int.toNat 1) IntKind.i64.bits)),AC.int IntKind.i64 ((wrap .i64 (wrap .i64 (a.h+b.h)+1)).fdiv (2^min (Int.toNat 1) IntKind.i64.bits)),AC.bool true]
     else(MO [AC.int IntKind.i64 u,AC.int IntKind.i64 ((wrap .i64 (wrap .i64 (a.r+b.r)+1)).fdiv (2^min (Int.toNat 1) IntKind.i64.bits)),AC.int IntKind.i64 (wrap .i64 (wrap .i64 (u*u)+wrap .i64 (w*w))),AC.int IntKind.i64 2]).bind fun o36=>
       (MO [AC.int IntKind.i64 w,AC.int IntKind.i64 ((wrap .i64 (wrap .i64 (a.r+b.r)+1)).fdiv (2^min (Int.toNat 1) IntKind.i64.bits)),AC.int IntKind.i64 (wrap .i64 (wrap .i64 (u*u)+wrap .i64 (w*w))),AC.int IntKind.i64 2]).bind fun o37=>
       some [AC.int IntKind.i64 (Af (nth AC.dead o36 0)),AC.int IntKind.i64 (Af (nth AC.dead o37 0)),AC.int IntKind.i64 ((wrap .i64 (wrap .i64 (a.r+b.r)+1)).fdiv (2^min (Int.toNat 1) IntKind.i64.bits)),AC.int IntKind.i64 ((wrap .i64 (wrap .i64 (a.h+b.h)+1)).fdiv (2^min (Int.toNat 1) IntKind.i64.bits)),AC.bool true])=
    some (CU (HK a b u w)++[B (decide (¬(u=0/\w=0)))]):=by
  have q1:=DE hu;have q2:=DE hw;have e:wrap .i64 (wrap .i64 (u*u)+wrap .i64 (w*w))=sq2 u w:=by
    unfold sq2;generalize u*u=x at*;generalize w*w=y at*;rw[Ae (x:=x) (by omega),Ae (x:=y) (by omega),Ae (by omega)]
  have er:(wrap .i64 (wrap .i64 (a.r+b.r)+1)).fdiv (2^min (Int.toNat 1) IntKind.i64.bits)=hf a.r b.r:=by
    have h1:=ha.2.2.1;have h2:=hb.2.2.1;rw[Ae (x:=a.r+b.r) (by omega),Ae (x:=a.r+b.r+1) (by omega),show(2^min (Int.toNat 1) IntKind.i64.bits:Int)=2 from rfl,Int.fdiv_eq_ediv_of_nonneg _ (by omega)];rfl
  have eh:(wrap .i64 (wrap .i64 (a.h+b.h)+1)).fdiv (2^min (Int.toNat 1) IntKind.i64.bits)=hf a.h b.h:=by
    have h1:=ha.2.2.2;have h2:=hb.2.2.2;rw[Ae (x:=a.h+b.h) (by omega),Ae (x:=a.h+b.h+1) (by omega),show(2^min (Int.toNat 1) IntKind.i64.bits:Int)=2 from rfl,Int.fdiv_eq_ediv_of_nonneg _ (by omega)];rfl
  simp only[er,eh,e];simp only[go_sem];unfold HK;by_cases h:u=0/\w=0
  · rw[if_pos h.1,if_pos h.2,if_pos h]
    simp[h]
  · obtain⟨n1,n2⟩:=hO h
    rw[if_neg h];simp only[n1,n2,go_sem];have hd:decide (¬(u=0/\w=0))=true:=decide_eq_true h;rw[hd];by_cases hu0:u=0
    · rw[if_pos hu0,if_neg (fun hw0=>h ⟨hu0,hw0⟩)];try rfl
    · rw[if_neg hu0];try rfl
theorem Z2r {MO MC MD:Fn} {a b:Spk} (ha:okS a) (hb:okS b) {dir:Int} (hd:dir=1\/dir= -1) (full:Bool)
    (hO:∀{u w:Int},u.natAbs<=100000000->w.natAbs<=100000000-> ¬(u=0/\w=0)->MO [I u,I (hf a.r b.r),I (sq2 u w),I 2]=some [I (BX u (hf a.r b.r) (sq2 u w)),B true]/\MO [I w,I (hf a.r b.r),I (sq2 u w),I 2]=some [I (BX w (hf a.r b.r) (sq2 u w)),B true])
    (hC:MC [I a.u,I a.w,I a.r,I a.h,I b.u,I b.w,I b.r,I b.h]=some [I (crs a.u a.w b.u b.w)]) (hD:MD [I a.u,I a.w,I a.r,I a.h,I b.u,I b.w,I b.r,I b.h]=some [I (dt2 a.u a.w b.u b.w)])
    (hcb:(crs a.u a.w b.u b.w).natAbs<=5000000000000000):
    VP MO MC MD [I a.u,I a.w,I a.r,I a.h,I b.u,I b.w,I b.r,I b.h,I dir,B full]=some (CU (Ei a b dir full)++[B (decide (¬((Do a b dir full).1=0/\(Do a b dir full).2=0)))]):=by
  have key:=fun{u w:Int} (hu:u.natAbs<=100000000) (hw:w.natAbs<=100000000)=>Zp4 (MO:=MO) (a:=a) (b:=b) ha hb hu hw (hO hu hw);have hbd:=O5 ha hb hd full;obtain⟨a1,a2,-⟩:=ha;obtain⟨b1,b2,-⟩:=hb;have w1:wrap .i64 (0-a.u)= -a.u:=by rw[Ae (by omega)];omega
  have w2:wrap .i64 (0-a.w)= -a.w:=by rw[Ae (by omega)];omega
  have w3:wrap .i64 (a.u+b.u)=a.u+b.u:=Ae (by omega);have w4:wrap .i64 (a.w+b.w)=a.w+b.w:=Ae (by omega);have w5:wrap .i64 (0-(a.u+b.u))= -(a.u+b.u):=by rw[Ae (by omega)];omega
  have w6:wrap .i64 (0-(a.w+b.w))= -(a.w+b.w):=by rw[Ae (by omega)];omega
  have w7:wrap .i64 (b.w-a.w)=b.w-a.w:=Ae (by omega);have w8:wrap .i64 (a.u-b.u)=a.u-b.u:=Ae (by omega);have w9:wrap .i64 (dir*(b.w-a.w))=dir*(b.w-a.w):=by rcases hd with rfl|rfl<;>exact Ae (by omega)
  have w10:wrap .i64 (dir*(a.u-b.u))=dir*(a.u-b.u):=by rcases hd with rfl|rfl<;>exact Ae (by omega)
  have w11:wrap .i64 (crs a.u a.w b.u b.w*dir)=crs a.u a.w b.u b.w*dir:=by rcases hd with rfl|rfl<;>exact Ae (by omega)
  rw[Z4l];try dsimp only[go_sem]
  unfold Ei;simp only[w1,w2,w3,w4,w5,w6,w7,w8,w9,w10,hC,hD,Option.bind_some,Hn,Hu,gA,jA,wA,bA,w11];have fin:∀{x:Option (List AC)},x=some (CU (HK a b (Do a b dir full).1 (Do a b dir full).2)++[B (decide (¬((Do a b dir full).1=0/\(Do a b dir full).2=0)))])->
      (bif dir !=1 then bif dir != -1 then some [AC.int IntKind.i64 0,AC.int IntKind.i64 0,AC.int IntKind.i64 0,AC.int IntKind.i64 0,AC.bool false]else x else x)=some (CU (HK a b (Do a b dir full).1 (Do a b dir full).2)++[B (decide (¬((Do a b dir full).1=0/\(Do a b dir full).2=0)))]):=by
    intro x hx;rcases hd with rfl|rfl
    · rw[A_ (by decide)];exact hx
    · rw[Bi (by decide),A_ (by decide)];exact hx
  refine fin ?_;have hk:=key hbd.1 hbd.2;unfold Do at*;cases full
  · simp only[cond_false,Bool.false_eq_true,if_false]at hk⊢
    by_cases c1:0<dt2 a.u a.w b.u b.w
    · rw[AM (show¬dt2 a.u a.w b.u b.w<=0 by omega)]
      by_cases c2:0<crs a.u a.w b.u b.w*dir
      · rw[AM (show¬crs a.u a.w b.u b.w*dir<=0 by omega)]
        rw[if_pos ⟨c1,c2⟩]at hk⊢;exact hk
      · rw[C8 (show crs a.u a.w b.u b.w*dir<=0 by omega)]
        rw[if_neg (fun h=>c2 h.2),if_pos c1]at hk⊢;exact hk
    · rw[C8 (show dt2 a.u a.w b.u b.w<=0 by omega)]
      rw[if_neg (fun h=>c1 h.1),if_neg c1]at hk⊢;exact hk
  · simp only[cond_true,if_true]at hk⊢
    exact hk
theorem Zkg {u w r:Int} (hu:u.natAbs<=100000000) (hw:w.natAbs<=100000000) (hr:0<=r/\r<=50000000) (h: ¬(u=0/\w=0)):
    If [I u,I r,I (sq2 u w),I 2]=some [I (BX u r (sq2 u w)),B true]/\If [I w,I r,I (sq2 u w),I 2]=some [I (BX w r (sq2 u w)),B true]:=by
  have hp:=Re h;have h1:=DE hu;have h2:=DE hw;have h3:sq2 u w<=20000000000000000:=by unfold sq2;omega
  exact⟨WK (by omega) (by omega) (by omega),WK (by omega) (by omega) (by omega)⟩
theorem Z06 {a b:Spk} (ha:okS a) (hb:okS b) {dir:Int} (hd:dir=1\/dir= -1) (full:Bool):
    KI [I a.u,I a.w,I a.r,I a.h,I b.u,I b.w,I b.r,I b.h,I dir,B full]=some (CU (Ei a b dir full)++[B (decide (¬((Do a b dir full).1=0/\(Do a b dir full).2=0)))]):=by
  have hc:=(Q2a ha.1 ha.2.1 hb.1 hb.2.1).2;exact Z2r ha hb hd full (fun hu hw h=>Zkg hu hw (Qs1 ha.2.2.1 hb.2.2.1) h)
    (Qe6 (G1 ha.1) (G1 ha.2.1) (G1 hb.1) (G1 hb.2.1)) (Zo (G1 ha.1) (G1 ha.2.1) (G1 hb.1) (G1 hb.2.1)) hc
def okT (s:Spk):Prop:=okS s/\ ¬(s.u=0/\s.w=0)/\1<=s.r
theorem Qte {a b:Spk} (ha: ¬(a.u=0/\a.w=0)) (hb: ¬(b.u=0/\b.w=0)) {dir:Int} (hd:dir=1\/dir= -1) (full:Bool): ¬((Do a b dir full).1=0/\(Do a b dir full).2=0):=by
  have hp:=Re ha;unfold sq2 at hp;unfold Do;split
  · simp only;omega
  · rename_i hf
    have key:0<dt2 a.u a.w b.u b.w-> ¬(a.u+b.u=0/\a.w+b.w=0):=by
      intro h1 ⟨h2,h3⟩;have e1:b.u= -a.u:=by omega
      have e2:b.w= -a.w:=by omega
      unfold dt2 at h1;rw[e1,e2,Int.mul_neg,Int.mul_neg]at h1;omega
    split
    · rename_i c;exact key c.1
    · split
      · rename_i c1 c2
        have:=key c2;simp only;omega
      · rename_i c1 c2
        simp only;rintro⟨h2,h3⟩;have e1:b.w=a.w/\a.u=b.u:=by rcases hd with rfl|rfl<;>omega
        unfold dt2 at c2;rw[e1.1,<-e1.2]at c2;omega
theorem Zbk {u w r:Int} (hu:u.natAbs<=100000000) (hw:w.natAbs<=100000000) (hr:1<=r/\r<=50000000) (h: ¬(u=0/\w=0)): ¬(BX u r (sq2 u w)=0/\BX w r (sq2 u w)=0):=by
  have hp:=Re h;have h1:=DE hu;have h2:=DE hw;have h3:sq2 u w<=20000000000000000:=by unfold sq2;omega
  obtain⟨q1,q2⟩:=Q9j u w;have key:∀x:Int,x.natAbs<=100000000->x*x<=sq2 u w->BX x r (sq2 u w)=0->4*(x*x)<=sq2 u w:=by
    intro x hx hq h0;obtain⟨-,-,g3⟩:=SV (x:=x) (r:=r) (n:=sq2 u w) (Nat.le_trans hx (by decide)) (by omega) (by omega) hq;rw[h0]at g3;obtain⟨-,g3⟩:=g3;have g4:4*(x.natAbs*r.natAbs*(x.natAbs*r.natAbs))<=(sq2 u w).natAbs:=by
      rw[show(0:Int).natAbs=0 from rfl]at g3;split at g3<;>omega
    have e1:x.natAbs*r.natAbs*(x.natAbs*r.natAbs)=x.natAbs*x.natAbs*(r.natAbs*r.natAbs):=by grind
    have g5:x.natAbs*x.natAbs*1<=x.natAbs*x.natAbs*(r.natAbs*r.natAbs):=Nat.mul_le_mul_left _ (Nat.mul_le_mul (show 1<=r.natAbs by omega) (show 1<=r.natAbs by omega));have e2:((x.natAbs*x.natAbs:Nat):Int)=x*x:=Int.natAbs_mul_self;omega
  rintro⟨g1,g2⟩;have k1:=key u hu q1 g1;have k2:=key w hw q2 g2;unfold sq2 at*;omega
theorem Zf3 {a b:Spk} (ha:okT a) (hb:okT b) {dir:Int} (hd:dir=1\/dir= -1) (full:Bool):okT (Ei a b dir full):=by
  have hn:=Qte ha.2.1 hb.2.1 hd full;have hbd:=O5 ha.1 hb.1 hd full;have h1:=ha.1.2.2.1;have h2:=hb.1.2.2.1;have h3:=ha.2.2;have h4:=hb.2.2;have hh:1<=hf a.r b.r/\hf a.r b.r<=50000000:=by unfold hf;omega
  refine⟨Q49 ha.1 hb.1 hd full,?_,?_⟩
  · unfold Ei HK
    rw[if_neg hn];exact Zbk hbd.1 hbd.2 hh hn
  · unfold Ei HK
    rw[if_neg hn];exact hh.1
theorem Z08 {r n:Int} (hr:0<=r/\r<=50000000):Ml [I r,I n]=some [B (decide (n<=32*r-64))]:=by
  unfold Ml;rw[Zid,Ae (x:=8*r) (by omega),Ae (x:=8*r*4) (by omega),Ae (x:=8*r*4-64) (by omega),show 8*r*4-64=32*r-64 by omega]
theorem Zj5 {MF MC:Fn} {out:Rw} {a b:Spk} (ha:okS a) (hb:okS b) {dir:Int} (hd:dir=1\/dir= -1) (full:Bool)
    (hF:∀{r n:Int},(0<=r/\r<=50000000)->MF [I r,I n]=some [B (decide (n<=32*r-64))])
    (hC:MC [I a.u,I a.w,I a.r,I a.h,I b.u,I b.w,I b.r,I b.h]=some [I (crs a.u a.w b.u b.w)]) (hcb:(crs a.u a.w b.u b.w).natAbs<=5000000000000000):
    Qet MF MC [.view DO out,I a.u,I a.w,I a.r,I a.h,I b.u,I b.w,I b.r,I b.h,B full,I dir]=some [.view DO out,B (decide (Ir a b dir full)),I dir]:=by
  have hr:0<=mn a.r b.r/\mn a.r b.r<=50000000:=by
    have h1:=ha.2.2.1;have h2:=hb.2.2.1;unfold mn;split<;>omega
  obtain⟨a1,a2,-⟩:=ha;obtain⟨b1,b2,-⟩:=hb;have x1:=Hj a1 b1;have x2:=Hj a2 b2;have q1:=DE x1;have q2:=DE x2;have e:wrap .i64 (wrap .i64 ((a.u-b.u)*(a.u-b.u))+wrap .i64 ((a.w-b.w)*(a.w-b.w)))=sq2 (a.u-b.u) (a.w-b.w):=by
    unfold sq2;generalize(a.u-b.u)*(a.u-b.u)=x at*;generalize(a.w-b.w)*(a.w-b.w)=y at*;rw[Ae (x:=x) (by omega),Ae (x:=y) (by omega),Ae (by omega)]
  have w11:wrap .i64 (crs a.u a.w b.u b.w*dir)=crs a.u a.w b.u b.w*dir:=by rcases hd with rfl|rfl<;>exact Ae (by omega)
  rw[Zg4,FO x1 (by decide),FO x2 (by decide),e];cases full
  · simp only[Bool.not_false,cond_true,hC,Option.bind_some,Hn,Hu,gA,jA,wA,bA,w11,hF hr,Qkg]
    by_cases c:0<crs a.u a.w b.u b.w*dir
    · rw[C8 (show crs a.u a.w b.u b.w*dir>0 from c)]
      by_cases c2:sq2 (a.u-b.u) (a.w-b.w)<=32*mn a.r b.r-64
      · rw[decide_eq_true c2,decide_eq_true (show Ir a b dir false from⟨rfl,c,c2⟩)]
      · rw[decide_eq_false c2,decide_eq_false (fun h:Ir a b dir false=>c2 h.2.2)]
    · rw[AM (show¬crs a.u a.w b.u b.w*dir>0 from c),decide_eq_false (fun h:Ir a b dir false=>c h.2.1)]
  · simp only[Bool.not_true,cond_false]
    rw[decide_eq_false (fun h:Ir a b dir true=>by cases h.1)]
theorem Zct {out:Rw} {a b:Spk} (ha:okS a) (hb:okS b) {dir:Int} (hd:dir=1\/dir= -1) (full:Bool):
    Lo [.view DO out,I a.u,I a.w,I a.r,I a.h,I b.u,I b.w,I b.r,I b.h,B full,I dir]=some [.view DO out,B (decide (Ir a b dir full)),I dir]:=
  Zj5 ha hb hd full Z08 (Qe6 (G1 ha.1) (G1 ha.2.1) (G1 hb.1) (G1 hb.2.1)) (Q2a ha.1 ha.2.1 hb.1 hb.2.1).2
theorem Qih {dir:Int} (hd:dir=1\/dir= -1):∀(n k:Nat) (full:Bool) (a b:Spk) (out:List Spk),k<=16->k<n->okT a->okT b->out.length+2^k<=1000000->
    O1 n [.view DO (out.map CU),I a.u,I a.w,I a.r,I a.h,I b.u,I b.w,I b.r,I b.h,B full,I (16-k:Int),I dir]=some [.view DO ((out++DD dir k full a b).map CU),I dir]
  |0,k,_,_,_,_,_,hk,_,_,_=>by omega
  |n+1,0,full,a,b,out,_,_,ha,hb,ho=>by
    show Rk _ _ _ _=_;rw[Zar,AM (by omega),Bi]
    · unfold DD
      rw[List.map_append];rfl
    · exact Nat.ble_eq_true_of_le (by simp only[List.length_append,List.length_map,List.length_cons,List.length_nil];omega)
  |n+1,k+1,full,a,b,out,hk,hn,ha,hb,ho=>by
    have hm:=Zf3 ha hb hd full;have hz:=Qte ha.2.1 hb.2.1 hd full;have e3:2^(k+1)=2^k+2^k:=by rw[Nat.pow_succ];omega
    have hp:0<2^k:=Nat.two_pow_pos _;have l1:=(Ua k false a (Ei a b dir full) (dir:=dir)).2;have i1:=Qih hd n k false a (Ei a b dir full) out (by omega) (by omega) ha hm (by omega);have i2:=Qih hd n k false (Ei a b dir full) b (out++DD dir k false a (Ei a b dir full)) (by omega) (by omega) hm hb (by rw[List.length_append];omega);have e1:=Zct (out:=out.map CU) ha.1 hb.1 hd full;have e2:=Z06 ha.1 hb.1 hd full;rw[decide_eq_true hz]at e2;show Rk (O1 n) KI Lo _=_;generalize O1 n=MP at*;generalize KI=MM at*;generalize Lo=MS at*;rw[Zar,C8 (by omega),Ae (by omega),show(16-((k+1:Nat):Int)+1)=16-(k:Int) by omega];unfold DD;generalize Ei a b dir full=m at*;generalize DD dir k false a m=p1 at*;generalize DD dir k false m b=p2 at*;simp only[List.cons_append,List.nil_append,CU]at e2;simp only[e1,e2,Option.bind_some,Hn,L7,Lt,PA,Qk,Hu,gA,jA,wA,bA,Qkg,i1,i2,Qin];by_cases c:Ir a b dir full
    · rw[if_pos c,A_ (by simp[c]),Bi]
      · rw[List.map_append];rfl
      · exact Nat.ble_eq_true_of_le (by simp only[List.length_append,List.length_map,List.length_cons,List.length_nil];omega)
    · rw[if_neg c,Bi (by simp[c]),cond_true,List.append_assoc]
end Go.Bm
namespace Go.Bm
theorem Qr0 {it:Itm} {p:Pt} (hc:bd 1048576 it.ce) (hp:bd 1048576 p) (hq:64<=sq2 (dU it p) (dW it p)):okT (D9 it p):=by
 obtain⟨h1,h2,h3,h4⟩:=Qo hc hp;have e:sq2 (dU it p*16) (dW it p*16)=256*sq2 (dU it p) (dW it p):=by unfold sq2;grind
 refine⟨SY hc hp,?_,?_⟩
 ·show¬(dU it p*16=0/\dW it p*16=0);rintro⟨g1,g2⟩;rw[show dU it p=0 by omega,show dW it p=0 by omega]at hq;simp[sq2]at hq
 ·show 1<=Fu _;obtain⟨n,hn⟩:=Int.eq_ofNat_of_zero_le h3;rw[hn]at h4⊢;obtain⟨r,-,r2,r3,-⟩:=Tt (n:=n) (by omega);rw[RN (Ul r2 r3)];have:1<=r:=by
   rcases Nat.eq_zero_or_pos r with h|h
   ·subst h;omega
   ·exact h
  split<;>omega
theorem Zyb {n:Nat} (hn:n<=2251799813685248):IX [I n,I 2]=some [I (Fu n),B true]:=by
 obtain⟨r,h1,h2,h3⟩:=Zai (n:=n) (mode:=2) (by omega) (.inr rfl);rw[h1,RN (Ul h2 h3)];congr 3;by_cases c:r*r+r<n
 ·rw[if_pos (.inr ⟨rfl,c⟩),if_pos c]
 ·rw[if_neg (by simp;omega),if_neg c]
theorem Zge {MP MQ MD ME MV:Fn} {it:Itm} (hV:∃v,MV (Ah it)=some [B v]/\(v=true↔Dg it)) (h:Dg it)
  (hE:it.kind=3->ME (Ah it)=some [I (dU it it.fr*16),I (dW it it.fr*16),I 0,I (plH it.aG it.fr*16),I (dU it it.to*16),I (dW it it.to*16),I 0,I (plH it.aG it.to*16)])
  (hD:∀p:Pt,it.kind=3->(p=it.fr\/p=it.to)->MD [I (dU it p*16),I (dW it p*16),I 0,I (plH it.aG p*16),I (dU it p*16),I (dW it p*16),I 0,I (plH it.aG p*16)]=some [I (sq2 (dU it p*16) (dW it p*16))])
  (hQ:∀p:Pt,it.kind=3->(p=it.fr\/p=it.to)->MQ [I (sq2 (dU it p*16) (dW it p*16)),I 2]=some [I (Fu (sq2 (dU it p*16) (dW it p*16))),B true])
  (hP:it.kind=3->MP (.view DO [CU (D9 it it.fr)]::CU (D9 it it.fr)++CU (D9 it it.to)++[B it.full,I 0,I it.dir])=some [.view DO ((DH it).map CU),I it.dir]):
  UD MP MQ MD ME MV (Ah it)=if it.kind=3 then some [.view DO ((DH it).map CU),B true]else some [.view DO [],B false]:=by
 obtain⟨v,hv,hvv⟩:=hV;rw[Zvw];by_cases h3:it.kind=3
 ·have e:=hE h3;have p:=hP h3;have d1:=hD it.fr h3 (.inl rfl);have d2:=hD it.to h3 (.inr rfl);have q1:=hQ it.fr h3 (.inl rfl);have q2:=hQ it.to h3 (.inr rfl);simp only[List.cons_append,List.nil_append,D9,CU]at p;simp only[go_sem,hv,e,d1,d2,q1,q2,p];rw[if_neg (by simp[h3]),if_neg (by simp[hvv.2 h]),if_pos h3]
 ·simp only[go_sem];rw[if_pos h3,if_neg h3]
theorem Z48 {it:Itm} (h:Dg it):Pa (Ah it)=if it.kind=3 then some [.view DO ((DH it).map CU),B true]else some [.view DO [],B false]:=by
 have hb:it.kind=3->∀p:Pt,(p=it.fr\/p=it.to)->bd 1048576 it.ce/\bd 1048576 p:=by
  intro h3 p hp;obtain⟨-,h1,h2,ha⟩:=h;obtain⟨-,-,hc,-⟩:=ha h3;rcases hp with rfl|rfl
  ·exact⟨hc,h1⟩
  ·exact⟨hc,h2⟩
 refine Zge (Qj7 it) h (fun h3=> ?_) (fun p h3 hp=> ?_) (fun p h3 hp=> ?_) fun h3=> ?_
 ·obtain⟨-,h1,h2,ha⟩:=h;obtain⟨hp,-,hc,-⟩:=ha h3;exact Qzl hp h1 h2 hc
 ·obtain⟨hc,hp2⟩:=hb h3 p hp;obtain⟨g1,g2,-⟩:=Qo hc hp2;exact Zo (Nat.le_trans g1 (by decide)) (Nat.le_trans g2 (by decide)) (Nat.le_trans g1 (by decide)) (Nat.le_trans g2 (by decide))
 ·obtain⟨hc,hp2⟩:=hb h3 p hp;obtain⟨-,-,g3,g4⟩:=Qo hc hp2;obtain⟨n,hn⟩:=Int.eq_ofNat_of_zero_le g3;rw[hn]at g4⊢;exact Zyb (by omega)
 ·obtain⟨-,h1,h2,ha⟩:=h;obtain⟨hp,hd,hc,t1,t2,-⟩:=ha h3;have:=Qih hd 20 16 it.full (D9 it it.fr) (D9 it it.to) [D9 it it.fr] (by omega) (by omega) (Qr0 hc h1 t1) (Qr0 hc h2 t2) (show 1+2^16<=1000000 by decide);exact this
theorem Zz0 {u w h pl:Int} (hp:C2 pl):Ov [I u,I w,I h,I pl]=some (ptR (spP pl u w h)):=by
 show Qo6 Ff _=_;have h1:=Qfw pl;generalize Ff=M at*;rw[Z3l];rcases hp with rfl|rfl|rfl
 ·have e:axI 17=(0,1,2):=rfl;rw[e]at h1;rw[h1];rfl
 ·have e:axI 18=(2,0,1):=rfl;rw[e]at h1;rw[h1];rfl
 ·have e:axI 19=(1,2,0):=rfl;rw[e]at h1;rw[h1];rfl
theorem Zc7 {α:Type} (pre rest:List α) (x z:α):(pre++x::rest).set pre.length z=(pre++[z])++rest:=by
 rw[List.set_append_right _ _ (Nat.le_refl _),Nat.sub_self];simp
def Ef {α:Type} (f:Nat->α) (z:α) (n i:Nat):List α:=(List.range i).map f++List.replicate (n-i) z
theorem Q40 {α:Type} (f:Nat->α) (z:α) {n i:Nat} (h:i<=n):(Ef f z n i).length=n:=by unfold Ef;simp;omega
theorem Qtz {α:Type} (f:Nat->α) (z:α) {n i:Nat} (h:i<n):(Ef f z n i).set i (f i)=Ef f z n (i+1):=by
 unfold Ef;have e:n-i=(n-(i+1))+1:=by omega
 rw[e,List.replicate_succ];have:=Zc7 ((List.range i).map f) (List.replicate (n-(i+1)) z) z (f i);rw[List.length_map,List.length_range]at this;rw[this,List.range_succ,List.map_append];rfl
theorem Qvt {α:Type} (f:Nat->α) (z:α) (n:Nat):Ef f z n n=(List.range n).map f:=by unfold Ef;simp
theorem Ziw {α:Type} (l:List α) (d:α):(List.range l.length).map (fun i=>l.getD i d)=l:=by
 apply List.ext_getElem
 ·simp
 ·intro i h1 h2;simp[h2]
def JY:Spk:=⟨0,0,0,0⟩
theorem Qxr {MS MP MF MK MV:Fn} {it:Itm} {l:List Spk} {cu cw:Int} (hl:l.length<=65537) (hcu:cu.natAbs<=16777216) (hcw:cw.natAbs<=16777216) (hok:∀s∈l,okS s)
  (hS:∀{u w h:Int},MS [I u,I w,I h,I it.aG]=some (ptR (spP it.aG u w h))) {f:Nat->List AC} (hf:∀i,f i=ptR (spP it.aG (cu+(l.getD i JY).u) (cw+(l.getD i JY).w) (l.getD i JY).h)):
  ∀(k i:Nat),i+k=l.length->An (NZ MS MP MF MK MV) (.view kPt (Ef f [I 0,I 0,I 0] l.length i)::I cu::I cw:: .view DO (l.map CU)::I l.length::I i::Ah it)=
   some (1,[.view kPt ((List.range l.length).map f)])
 |0,i,hi=>by
  refine A3 ?_ (by simp);rw[Qyo];simp only[go_sem];rw[if_neg (by omega),show i=l.length by omega,Qvt]
 |k+1,i,hi=>by
  have hlt:i<l.length:=by omega
  have hs:NZ MS MP MF MK MV (.view kPt (Ef f [I 0,I 0,I 0] l.length i)::I cu::I cw:: .view DO (l.map CU)::I l.length::I i::Ah it)=
    some (0, .view kPt (Ef f [I 0,I 0,I 0] l.length (i+1))::I cu::I cw:: .view DO (l.map CU)::I l.length::I (i+1:Nat)::Ah it):=by
   rw[Qyo];have hr:nth [] (l.map CU) i=CU l[i]:=I5 _ _ _ _ hlt;have ho:=hok _ (List.getElem_mem hlt);have hfl:=Q40 f [I 0,I 0,I 0] (show i<=l.length by omega);have hfi:=hf i;rw[show l.getD i JY=l[i] by simp[hlt]]at hfi;have hset:=Qtz f [I 0,I 0,I 0] hlt;rw[hfi]at hset;generalize l[i]=s at*;obtain⟨s1,s2,-⟩:=ho;simp only[go_sem,Int.toNat_natCast,List.length_map,hr];rw[if_pos (by omega),if_pos (by omega),Ae (x:=cu+s.u) (by omega),Ae (x:=cw+s.w) (by omega),Ae (x:=(i:Int)+1) (by omega)];simp only[hS,go_sem,hfl];rw[if_pos (by omega),hset];rfl
  rw[Bj hs];exact Qxr hl hcu hcw hok hS hf k (i+1) (by omega)
theorem Z4r {MS MP MF MK MV:Fn} {N:Lp} {it:Itm} {S:List Spk} {C:Rw} {f:Pt} {u w h:Int} (hv:MV (Ah it)=some [B true])
  (hK:MK (Ah it)=some [.view DO (S.map CU),B true]) (hf:MF [I it.ce.x,I it.ce.y,I it.ce.z]=some (ptR f)) (hpp:MP [I f.x,I f.y,I f.z,I it.aG]=some [I u,I w,I h]) (hS:S.length<=65537)
  (hN:N [.view kPt (List.replicate S.length [I 0,I 0,I 0]),I u,I w, .view DO (S.map CU),I S.length,I 0,I it.kind,I it.block,I it.fr.x,I it.fr.y,I it.fr.z,I it.to.x,I it.to.y,I it.to.z,I it.aG,I it.ce.x,I it.ce.y,I it.ce.z,I it.dir,B it.full,I it.feed,B it.perRev,I it.side,I it.radius,I it.blend,I it.n,I it.speed,B it.on]=some (1,[.view kPt C])):
  Rf MS MP MF MK MV N (Ah it)=some [.view kPt C,B true]:=by
 rw[Qgm];simp only[go_sem,hv,hK,hf,hpp,List.length_map,Int.toNat_natCast,hN];rw[if_neg (by simp),if_neg (by simp),if_pos (by omega)]
theorem Zhd {MS MP MF MK MV:Fn} {it:Itm} (hV:∃v,MV (Ah it)=some [B v]/\(v=true↔Dg it)) (h:Dg it)
  (hK:MK (Ah it)=if it.kind=3 then some [.view DO ((DH it).map CU),B true]else some [.view DO [],B false])
  (hF:∀{p:Pt},bd 100000000 p->MF [I p.x,I p.y,I p.z]=some (ptR (Ay p))) (hP:C2 it.aG->∀{p:Pt},MP [I p.x,I p.y,I p.z,I it.aG]=some [I (plU it.aG p),I (plW it.aG p),I (plH it.aG p)])
  (hS:C2 it.aG->∀{u w h:Int},MS [I u,I w,I h,I it.aG]=some (ptR (spP it.aG u w h))):
  Rf MS MP MF MK MV (An (NZ MS MP MF MK MV)) (Ah it)=some [.view kPt ((CJ it).map ptR),B true]:=by
 obtain⟨v,hv,hvv⟩:=hV;rw[Qgm];have hv1:=hvv.2 h;subst hv1;obtain⟨-,h1,h2,ha⟩:=id h;by_cases h3:it.kind=3
 ·obtain⟨hp,hd,hc,-⟩:=ha h3;rw[if_pos h3]at hK;obtain⟨c1,c2,c3⟩:=Hz (pl:=it.aG) (E0 hc);have hsl:=(Q4d it).2;have hl:=Qxr (MS:=MS) (MP:=MP) (MF:=MF) (MK:=MK) (MV:=MV) (it:=it) (l:=DH it) (cu:=plU it.aG (Ay it.ce)) (cw:=plW it.aG (Ay it.ce)) hsl c1 c2 (Qyj h h3) (hS hp)
   (f:=fun i=>ptR (IF it ((DH it).getD i JY))) (fun _=>rfl) (DH it).length 0 (by omega)
  have hres:(List.range (DH it).length).map (fun i=>ptR (IF it ((DH it).getD i JY)))=((DH it).map (IF it)).map ptR:=by
   rw[List.map_map]
   conv=>rhs;rw[<-Ziw (DH it) JY]
   rw[List.map_map];rfl
  rw[hres]at hl;have hf0:Ef (fun i=>ptR (IF it ((DH it).getD i JY))) [I 0,I 0,I 0] (DH it).length 0=List.replicate (DH it).length [I 0,I 0,I 0]:=by unfold Ef;simp
  rw[hf0]at hl;have hf:=hF (A0 hc (by decide));have hpp:= @hP hp (Ay it.ce);have:=Z4r (MS:=MS) (N:=An (NZ MS MP MF MK MV)) hv hK hf hpp hsl hl;rw[Qgm]at this;unfold CJ;rw[if_pos h3];exact this
 ·rw[if_neg h3]at hK;have f1:=hF (A0 h1 (by decide));have f2:=hF (A0 h2 (by decide));unfold CJ;rw[if_neg h3];simp only[go_sem,hv,hK,f1,f2];simp
theorem Zxp {it:Itm} (h:Dg it):Qw (Ah it)=some [.view kPt ((CJ it).map ptR),B true]:=
 Zhd (Qj7 it) h (Z48 h) Qwd (fun hp=>Quo hp) (fun hp=>Zz0 hp)
end Go.Bm
namespace Go.Bm
theorem Zwd {MO:Fn} {c a:Pt} {d:Int} (hc:bd B24 c) (ha:bd B24 a) (hne:a≠c) (hd:0<=d/\d<=33554432)
  (hN:∀{x:Int},x.natAbs<=33554432*4->x*x<=sqD a c->MO [I x,I d,I (sqD a c),I 2]=some [I (BX x d (sqD a c)),B true]/\(BX x d (sqD a c)).natAbs<=268435456):
  Qhu MO [I c.x,I c.y,I c.z,I a.x,I a.y,I a.z,I d]=some (ptR (BG c a d)++[B true]):=by
 obtain⟨q1,q2,q3⟩:=Qsx a c;have x1:=Hj ha.1 hc.1;have x2:=Hj ha.2.1 hc.2.1;have x3:=Hj ha.2.2 hc.2.2;obtain⟨n1,b1⟩:=hN (x:=a.x-c.x) (Nat.le_trans x1 (by decide)) q1;obtain⟨n2,b2⟩:=hN (x:=a.y-c.y) (Nat.le_trans x2 (by decide)) q2;obtain⟨n3,b3⟩:=hN (x:=a.z-c.z) (Nat.le_trans x3 (by decide)) q3;have h6: ¬d<0:=Int.not_lt.2 hd.1;have h7: ¬d>33554432:=Int.not_lt.2 hd.2;rw[Zot,Qy8 (A0 ha (by decide)) (A0 hc (by decide)),FO x1 (by decide),FO x2 (by decide),FO x3 (by decide)];simp only[go_sem,n1,n2,n3];rw[if_neg (fun h=>hne (DS.2 ⟨h.1,h.2.1,h.2.2.1⟩)),if_neg h6,if_neg h7];rw[FO (QB hc.1 b1) (by decide),FO (QB hc.2.1 b2) (by decide),FO (QB hc.2.2 b3) (by decide)];rfl
theorem Yt {c a:Pt} {d:Int} (hc:bd B24 c) (ha:bd B24 a) (hne:a≠c) (hd:0<=d/\d<=33554432):
  GA [I c.x,I c.y,I c.z,I a.x,I a.y,I a.z,I d]=some (ptR (BG c a d)++[B true]):=by
 have h0:sqD a c≠0:=fun h=>hne (Qhw.1 h);have h1:=PF a c;have h2:=Pp (A0 ha (by decide)) (A0 hc (by decide)) (show 67108864<=67108864 by omega);refine Zwd hc ha hne hd fun{x} hx hq=> ?_;obtain⟨-,g2,-⟩:=SV hx (r:=d) (by omega) (n:=sqD a c) (by omega) hq;exact⟨WK (Nat.le_trans hx (by decide)) (by omega) (by omega),g2⟩
theorem Qwg {p c q:Pt} (hp:bd B24 p) (hc:bd B24 c) (hq:bd B24 q):Gr [I p.x,I p.y,I p.z,I c.x,I c.y,I c.z,I q.x,I q.y,I q.z]=some [I (Hm p c q)]:=by
 have hb:=Zhs hp hc hq;have g1:=DE hb.1;have g2:=DE hb.2.1;have g3:=DE hb.2.2;unfold Gr;unfold bd B24 at hp hc hq;have w:∀u v c:Int,u.natAbs<=16777216->v.natAbs<=16777216->c.natAbs<=16777216->wrap .i64 (wrap .i64 (u+v)-wrap .i64 (2*c))=u-c+(v-c):=by
  intro u v c h1 h2 h3;rw[Ae (x:=u+v) (by omega),Ae (x:=2*c) (by omega),Ae (by omega)];omega
 rw[Zoz,w _ _ _ hp.1 hq.1 hc.1,w _ _ _ hp.2.1 hq.2.1 hc.2.1,w _ _ _ hp.2.2 hq.2.2 hc.2.2];have e1:p.x-c.x+(q.x-c.x)=(FC p c q).x:=rfl;have e2:p.y-c.y+(q.y-c.y)=(FC p c q).y:=rfl;have e3:p.z-c.z+(q.z-c.z)=(FC p c q).z:=rfl;rw[e1,e2,e3];unfold Hm IU;generalize(FC p c q).x*(FC p c q).x=u at*;generalize(FC p c q).y*(FC p c q).y=v at*;generalize(FC p c q).z*(FC p c q).z=w at*;rw[Ae (x:=u) (by omega),Ae (x:=0+u) (by omega),Ae (x:=v) (by omega),Ae (x:=0+u+v) (by omega),Ae (x:=w) (by omega),Ae (by omega),Int.zero_add]
open Classical in
theorem Z2q {MB MT ML:Fn} {a c b:Pt} {tol d e bit:Int} (ha:bd B24 a) (hc:bd B24 c) (hb:bd B24 b) (hac:a≠c) (hbc:b≠c) (ht:0<=tol/\tol<=16000) (hd:0<=d/\d+e<=33554432) (he:0<e) (hbit:e.fdiv (2^min (Int.toNat 1) IntKind.i64.bits)=bit)
  (l3:0<=AB a c/\AB a c<=268435456) (l4:0<=AB c b/\AB c b<=268435456)
  (hT:∀{a:Pt} {d:Int},bd B24 a->a≠c->0<=d/\d<=33554432->MT [I c.x,I c.y,I c.z,I a.x,I a.y,I a.z,I d]=some (ptR (BG c a d)++[B true]))
  (hB:∀{p q:Pt},bd B24 p->bd B24 q->MB [I p.x,I p.y,I p.z,I c.x,I c.y,I c.z,I q.x,I q.y,I q.z]=some [I (Hm p c q)]):
  NU MB MT ML [I tol,I (mn (AB a c) (AB c b)-2),I d,I e,I a.x,I a.y,I a.z,I c.x,I c.y,I c.z,I b.x,I b.y,I b.z]=
   some (0,[I tol,I (mn (AB a c) (AB c b)-2),I (if GW a c b tol (d+e)then d+e else d),I bit,I a.x,I a.y,I a.z,I c.x,I c.y,I c.z,I b.x,I b.y,I b.z]):=by
 obtain⟨m1,m2⟩:=RB (AB a c) (AB c b);have ht2:0<=16*tol*tol/\16*tol*tol<=4096000000:=by
  have:=Int.mul_le_mul (show 16*tol<=256000 by omega) ht.2 ht.1 (by omega);exact⟨Int.mul_nonneg (by omega) ht.1,by omega⟩
 rw[Qri,hbit,Ae (x:=d+e) (by omega),C8 he,Ae (x:=16*tol) (by omega),Ae (x:=16*tol*tol) (by omega)];by_cases h:d+e>mn (AB a c) (AB c b)-2
 ·rw[C8 h,if_neg (fun h3:GW a c b tol (d+e)=>by have:=h3.1;omega)]
 ·rw[AM h];have k1:bd B24 (BG c a (d+e)):=J2 hc ha hac (by omega);have k2:bd B24 (BG c b (d+e)):=J2 hc hb hbc (by rw[Ts b c];omega);have t1:=hT (d:=d+e) ha hac (by omega);have t2:=hT (d:=d+e) hb hbc (by omega);simp only[List.cons_append,List.nil_append,ptR]at t1 t2;simp only[t1,t2,go_sem,hB k1 k2];by_cases h2:Hm (BG c a (d+e)) c (BG c b (d+e))<=16*tol*tol
  ·rw[if_pos h2,if_pos (show GW a c b tol (d+e)from⟨by omega,h2⟩)]
  ·rw[if_neg h2,if_neg (fun h3:GW a c b tol (d+e)=>h2 h3.2)]
open Classical in
theorem Zae {MB MT ML:Fn} {a c b:Pt} {tol m:Int}
  (hst : ∀ {d e bit : Int}, 0 <= d /\ d + e <= 33554432 -> 0 < e -> e.fdiv (2 ^ min (Int.toNat 1) IntKind.i64.bits) = bit -> NU MB MT ML [I tol, I m, I d, I e, I a.x, I a.y, I a.z, I c.x, I c.y, I c.z, I b.x, I b.y, I b.z] =
   some (0,[I tol,I m,I (if GW a c b tol (d+e)then d+e else d),I bit,I a.x,I a.y,I a.z,I c.x,I c.y,I c.z,I b.x,I b.y,I b.z])):
  ∀(k:Nat) (d:Int),0<=d/\d+((2^(k+1):Nat):Int)<=33554432->
  An (NU MB MT ML) [I tol,I m,I d,I ((2^k:Nat):Int),I a.x,I a.y,I a.z,I c.x,I c.y,I c.z,I b.x,I b.y,I b.z]=some (1,[I (Fg (GW a c b tol) k d)])
 |0,d,hd=>by
  simp only[Nat.zero_add,Nat.pow_one]at hd;have hend:∀d:Int,An (NU MB MT ML) [I tol,I m,I d,I 0,I a.x,I a.y,I a.z,I c.x,I c.y,I c.z,I b.x,I b.y,I b.z]=some (1,[I d]):=by
   intro d;refine A3 ?_ (by simp);rw[Qri];rw[AM (by omega)]
  have hs:=hst (d:=d) (e:=1) (by omega) (by omega) Zxe;have e:((2^0:Nat):Int)=1:=rfl;rw[e,Bj hs,hend];rfl
 |k+1,d,hd=>by
  have hp:0<2^(k+1):=Nat.two_pow_pos _;have e3:2^(k+1+1)=2^(k+1)+2^(k+1):=by rw[Nat.pow_succ 2 (k+1)];omega
  rw[e3]at hd;have hs:=hst (d:=d) (e:=((2^(k+1):Nat):Int)) (by omega) (by omega) (Z6u k);rw[Bj hs];unfold Fg;refine Zae hst k _ ?_;split<;>omega
theorem Zk1 {ML:Fn} {N:Lp} {MB MT:Fn} {a c b:Pt} {tol:Int}
  (l1:ML [I a.x,I a.y,I a.z,I c.x,I c.y,I c.z]=some [I (AB a c)]) (l2:ML [I c.x,I c.y,I c.z,I b.x,I b.y,I b.z]=some [I (AB c b)])
  (l3:0<=AB a c/\AB a c<=268435456) (l4:0<=AB c b/\AB c b<=268435456)
  (hN:a≠c->b≠c->N [I tol,I (mn (AB a c) (AB c b)-2),I 0,I 16777216,I a.x,I a.y,I a.z,I c.x,I c.y,I c.z,I b.x,I b.y,I b.z]=some (1,[I (Fg (GW a c b tol) 24 0)])):
  XS MB MT ML N [I a.x,I a.y,I a.z,I c.x,I c.y,I c.z,I b.x,I b.y,I b.z,I tol]=some [I (C9 a c b tol)]:=by
 rw[Zhf];have m3:0<=mn (AB a c) (AB c b)/\mn (AB a c) (AB c b)<=268435456:=by unfold mn;split<;>omega
 unfold C9;by_cases h1:a=c
 ·rw[if_pos (.inl h1)];have h2:=DS.1 h1;simp only[go_sem];rw[if_pos ⟨h2.1,h2.2.1,h2.2.2,trivial⟩]
 ·by_cases h2:b=c
  ·rw[if_pos (.inr h2)];have h3:=DS.1 h2;simp only[go_sem];rw[if_neg (fun h=>h1 (DS.2 ⟨h.1,h.2.1,h.2.2.1⟩)),if_pos ⟨h3.1,h3.2.1,h3.2.2,trivial⟩]
  ·have hl':=hN h1 h2;simp only[go_sem,l1,l2];rw[Ae (by omega)];simp only[hl',go_sem];rw[if_neg (fun h=>h1 (DS.2 ⟨h.1,h.2.1,h.2.2.1⟩)),if_neg (fun h=>h2 (DS.2 ⟨h.1,h.2.1,h.2.2.1⟩)),if_neg (show¬(a=c\/b=c)from fun h=>h.elim h1 h2)];by_cases h3:Fg (GW a c b tol) 24 0<16
   ·rw[if_pos h3,if_pos h3]
   ·rw[if_neg h3,if_neg h3]
theorem Zbv {a c b:Pt} {tol:Int} (ha:bd B24 a) (hc:bd B24 c) (hb:bd B24 b) (ht:0<=tol/\tol<=16000):
  Lm [I a.x,I a.y,I a.z,I c.x,I c.y,I c.z,I b.x,I b.y,I b.z,I tol]=some [I (C9 a c b tol)]:=by
 have A:=A0 ha (show B24<=67108864 by decide);have C:=A0 hc (show B24<=67108864 by decide);have D:=A0 hb (show B24<=67108864 by decide);exact Zk1 (WC A C) (WC C D) (HR A C) (HR C D)
  fun h1 h2=>Zae (fun hd he hbit=>Z2q ha hc hb h1 h2 ht hd he hbit (HR A C) (HR C D) (fun hb hn hd=>Yt hc hb hn hd) fun hp hq=>Qwg hp hc hq) 24 0 (by decide)
theorem Zc8 {M:Fn} {p c q:Pt} (hM:M [I p.x,I p.y,I p.z,I c.x,I c.y,I c.z,I q.x,I q.y,I q.z]=some [I (Hm p c q)]):
  ∀(k:Nat) (n:Int),Kg n->64<=n*2^k->An (Pe M) [I n,I p.x,I p.y,I p.z,I c.x,I c.y,I c.z,I q.x,I q.y,I q.z]=some (1,[I (Ln (Hm p c q) k n)]):=by
 have hst:∀n:Int,Kg n->Pe M [I n,I p.x,I p.y,I p.z,I c.x,I c.y,I c.z,I q.x,I q.y,I q.z]=if n<64/\Hm p c q>16*n*n*n*n*4*4 then some (0,[I (n*2),I p.x,I p.y,I p.z,I c.x,I c.y,I c.z,I q.x,I q.y,I q.z])else some (1,[I n]):=by
  intro n hn;rw[Zca];simp only[go_sem,hM];have hw:wrap .i64 (wrap .i64 (wrap .i64 (wrap .i64 (wrap .i64 (wrap .i64 (16*n)*n)*n)*n)*4)*4)=16*n*n*n*n*4*4/\wrap .i64 (n*2)=n*2:=by
   rcases hn with rfl|rfl|rfl|rfl|rfl|rfl<;>decide
  rw[hw.1,hw.2];by_cases h1:n<64
  ·rw[if_pos h1];by_cases h2:Hm p c q>16*n*n*n*n*4*4
   ·rw[if_pos h2,if_pos ⟨h1,h2⟩]
   ·rw[if_neg h2,if_neg (fun h=>h2 h.2)]
  ·rw[if_neg h1,if_neg (fun h=>h1 h.1)]
 intro k;induction k with
 |zero=>
  intro n hn h64;have:n=64:=by rcases hn with rfl|rfl|rfl|rfl|rfl|rfl<;>simp at h64⊢
  subst this;refine A3 ?_ (by simp);rw[hst _ hn,if_neg (by omega)];rfl
 |succ k ih=>
  intro n hn h64;unfold Ln;by_cases h:n<64/\Hm p c q>16*n*n*n*n*4*4
  ·rw[if_pos h];have hs:=hst n hn;rw[if_pos h]at hs;rw[Bj hs];refine ih (n*2) ?_ ?_
   ·rcases hn with rfl|rfl|rfl|rfl|rfl|rfl<;>simp[Kg]at h⊢
   ·rw[Int.pow_succ]at h64;rw[Int.mul_assoc,Int.mul_comm 2];exact h64
  ·rw[if_neg h];refine A3 ?_ (by simp);rw[hst _ hn,if_neg h]
theorem Z6m {p c q:Pt} (hp:bd B24 p) (hc:bd B24 c) (hq:bd B24 q):Ky [I p.x,I p.y,I p.z,I c.x,I c.y,I c.z,I q.x,I q.y,I q.z]=some [I (K9 p c q)]:=by
 have h1:=Zc8 (Qwg hp hc hq) 5 2 (.inl rfl) (by decide);show Zg _ (An (Pe _)) _=_;generalize Gr=M at*;rw[Zut];simp only[go_sem,h1];rfl
theorem Qrp {α:Type} (d x:α):∀(l:List α) (i:Nat),i<l.length->nth d (l.set i x) i=x
 |a::l,0,_=>rfl
 |a::l,i+1,h=>by simp only[List.set_cons_succ,nth];exact Qrp d x l i (by simpa using h)
theorem Zl6 {n i p c q:Int} (hn:2<=n/\n<=64) (hi:0<=i/\i<=n) (hp:p.natAbs<=B24) (hc:c.natAbs<=B24) (hq:q.natAbs<=B24):
  Bn [I (wrap .i64 (wrap .i64 (wrap .i64 (wrap .i64 (n-i)*wrap .i64 (n-i))*wrap .i64 (p-c))+wrap .i64 (wrap .i64 (i*i)*wrap .i64 (q-c)))),I 1,I (wrap .i64 (n*n)),I 2]=some [I (A5 ((n-i)*(n-i)*(p-c)+i*i*(q-c)) (n*n)),B true]:=by
 have n1:0<n*n/\n*n<=4096:=⟨Int.mul_pos (by omega) (by omega),by have:=Int.mul_le_mul hn.2 hn.2 (by omega) (by omega);omega⟩;have n2:0<=(n-i)*(n-i)/\(n-i)*(n-i)<=4096:=⟨Fd _,by have:=Int.mul_le_mul (show n-i<=64 by omega) (show n-i<=64 by omega) (by omega) (by omega);omega⟩;have n3:0<=i*i/\i*i<=4096:=⟨Fd _,by have:=Int.mul_le_mul (show i<=64 by omega) (show i<=64 by omega) (by omega) (by omega);omega⟩;unfold B24 at*;rw[Ae (x:=n-i) (by omega),Ae (x:=(n-i)*(n-i)) (by omega),Ae (x:=p-c) (by omega),Ae (x:=i*i) (by omega),Ae (x:=q-c) (by omega),Ae (x:=n*n) (by omega)];have m1:=Gy (x:=(n-i)*(n-i)) (y:=p-c) (A:=4096) (B:=33554432) (by omega) (by omega);have m2:=Gy (x:=i*i) (y:=q-c) (A:=4096) (B:=33554432) (by omega) (by omega);generalize(n-i)*(n-i)*(p-c)=u at*;generalize i*i*(q-c)=v at*;rw[Ae (x:=u) (by omega),Ae (x:=v) (by omega),Ae (by omega)];have h:=R6 (a:=u+v) (b:=1) (c:=n*n) (by unfold i64;omega) (by unfold i64;omega) (by omega) (by rw[show(1:Int).natAbs=1 from rfl,Nat.mul_one];omega);rw[Int.mul_one]at h;exact h
theorem Q5d {MR MP MT MC:Fn} {p c q:Pt} {N:Nat} (hN:2<=N/\N<=64) (hp:bd B24 p) (hc:bd B24 c) (hq:bd B24 q)
  (hR:∀{i p c q:Int},(0<=i/\i<=N)->p.natAbs<=B24->c.natAbs<=B24->q.natAbs<=B24->MR [I (wrap .i64 (wrap .i64 (wrap .i64 (wrap .i64 ((N:Int)-i)*wrap .i64 ((N:Int)-i))*wrap .i64 (p-c))+wrap .i64 (wrap .i64 (i*i)*wrap .i64 (q-c)))),I 1,I (wrap .i64 ((N:Int)*(N:Int))),I 2]=some [I (A5 (((N:Int)-i)*((N:Int)-i)*(p-c)+i*i*(q-c)) ((N:Int)*(N:Int))),B true])
  {f:Nat->List AC} (hf:∀i:Nat,f i=ptR (OP N i p c q)):
  ∀(k i:Nat),i+k=N+1->An (Ng MR MP MT MC) [.view kPt (Ef f [I 0,I 0,I 0] (N+1) i),I N,I (N+1:Nat),I i,I c.x,I c.y,I c.z,I p.x,I p.y,I p.z,I q.x,I q.y,I q.z]=
   some (1,[.view kPt ((List.range (N+1)).map f)])
 |0,i,hi=>by
  obtain rfl:i=N+1:=by omega
  refine A3 ?_ (by simp);rw[Quv,Qvt,AM (by omega)]
 |k+1,i,hi=>by
  have b1:=OE (n:=N) (i:=i) (A:=B24) (by omega) (by omega) hp.1 hc.1 hq.1;have b2:=OE (n:=N) (i:=i) (A:=B24) (by omega) (by omega) hp.2.1 hc.2.1 hq.2.1;have b3:=OE (n:=N) (i:=i) (A:=B24) (by omega) (by omega) hp.2.2 hc.2.2 hq.2.2;have r1:=hR (i:=i) (by omega) hp.1 hc.1 hq.1;have r2:=hR (i:=i) (by omega) hp.2.1 hc.2.1 hq.2.1;have r3:=hR (i:=i) (by omega) hp.2.2 hc.2.2 hq.2.2;have hs:Ng MR MP MT MC [.view kPt (Ef f [I 0,I 0,I 0] (N+1) i),I N,I (N+1:Nat),I i,I c.x,I c.y,I c.z,I p.x,I p.y,I p.z,I q.x,I q.y,I q.z]=
    some (0,[.view kPt (Ef f [I 0,I 0,I 0] (N+1) (i+1)),I N,I (N+1:Nat),I (i+1:Nat),I c.x,I c.y,I c.z,I p.x,I p.y,I p.z,I q.x,I q.y,I q.z]):=by
   have hlen:=Q40 f [I 0,I 0,I 0] (show i<=N+1 by omega);have hset:=Qtz f [I 0,I 0,I 0] (show i<N+1 by omega);rw[hf i]at hset;generalize Ef f [I 0,I 0,I 0] (N+1) i=l at*;have hself:∀x:List AC,nth [] (l.set i x) i=x:=fun x=>Qrp _ _ _ _ (by omega);rw[Quv];have hin:(0:Int)<=(i:Int)/\(i:Int)<((N+1:Nat):Int):=by omega
   simp only[go_sem,r1,r2,r3,Int.toNat_natCast,hlen,if_pos hin,List.set_set,hself,List.length_set];rw[if_pos (by omega)];unfold Mq B24 at b1 b2 b3;rw[Ae (x:=c.x+_) (by omega),Ae (x:=c.y+_) (by omega),Ae (x:=c.z+_) (by omega),Ae (x:=(i:Int)+1) (by omega)];rw[<-hset];rfl
  rw[Bj hs];exact Q5d hN hp hc hq hR hf k (i+1) (by omega)
theorem Zn4 {a c b:Pt} {tol:Int} (ha:bd B24 a) (hc:bd B24 c) (hb:bd B24 b) (ht:0<=tol/\tol<=16000):
  P7 [I a.x,I a.y,I a.z,I c.x,I c.y,I c.z,I b.x,I b.y,I b.z,I tol]=some [.view kPt ((FI a c b tol).map ptR)]:=by
 show Qok _ _ _ _ (An (Ng _ _ _ _)) _=_;have e1:=Zbv ha hc hb ht;have hR:= @Zl6;generalize Lm=MC at*;unfold FI;by_cases h:C9 a c b tol=0
 ·rw[if_pos h];rw[Q44];simp only[go_sem,e1];rw[if_pos h];rfl
 ·rw[if_neg h];obtain⟨h1,h2,h3,h4,h5,-⟩:=Vs h;obtain⟨m1,m2⟩:=RB (AB a c) (AB c b);have h0: ¬C9 a c b tol=0:=h;generalize C9 a c b tol=d at*;have k1:bd B24 (BG c a d):=J2 hc ha h1 (by omega);have k2:bd B24 (BG c b d):=J2 hc hb h2 (by rw[Ts b c];omega);have t1:=Yt hc ha h1 (d:=d) (by omega);have t2:=Yt hc hb h2 (d:=d) (by omega);have p1:=Z6m k1 hc k2;have p2:=(Xx k1 hc k2).2;generalize K9 (BG c a d) c (BG c b d)=n at*;obtain⟨N,rfl⟩:∃N:Nat,n=N:=⟨n.toNat,by rcases p2 with rfl|rfl|rfl|rfl|rfl|rfl<;>rfl⟩;have hN:2<=N/\N<=64:=by unfold Kg at p2;omega
  have hl:=Q5d (MR:=Bn) (MP:=Ky) (MT:=GA) (MC:=MC) hN k1 hc k2 (fun hi hp hc hq=>hR (by omega) hi hp hc hq) (f:=fun i=>ptR (OP N i (BG c a d) c (BG c b d))) (fun _=>rfl) (N+1) 0 (by omega);have hf0:∀f:Nat->List AC,Ef f [I 0,I 0,I 0] (N+1) 0=List.replicate (N+1) [I 0,I 0,I 0]:=fun f=>by unfold Ef;rw[List.range_zero,List.map_nil,List.nil_append,Nat.sub_zero]
  rw[hf0]at hl;generalize Bn=MR at*;generalize Ky=MP at*;generalize GA=MT at*;generalize BG c a d=p at*;generalize BG c b d=q at*;rw[Q44];simp only[List.cons_append,List.nil_append,ptR]at t1 t2;have hres:(List.range (N+1)).map (fun(i:Nat)=>ptR (OP N i p c q))=((List.range ((N:Int).toNat+1)).map fun(i:Nat)=>OP N i p c q).map ptR:=by rw[List.map_map,Int.toNat_natCast];rfl
  rw[hres]at hl;generalize((List.range ((N:Int).toNat+1)).map fun(i:Nat)=>OP N i p c q).map ptR=C at*;generalize An (Ng MR MP MT MC)=L at*;have hl':L [.view kPt (List.replicate (N+1) [I 0,I 0,I 0]),I N,I (N+1:Nat),I 0,I c.x,I c.y,I c.z,I p.x,I p.y,I p.z,I q.x,I q.y,I q.z]=some (1,[.view kPt C]):=hl;have w1:wrap .i64 ((N:Int)+1)=((N+1:Nat):Int):=by rw[Ae (by omega)];rfl
  simp only[e1,t1,t2,p1,w1,Option.bind_some,Hn,L7,Lt,Hu,gA,jA,wA,bA,Int.toNat_natCast,List.length_replicate,Qin];rw[A_ (by simpa using h0),C8 trivial,Bi (by simp;omega),hl'];rfl
end Go.Bm
namespace Go.Bm
open Classical
theorem Ql (k:Int):Du [I k]=some [B (decide (1<=k/\k<=6))]:=by
 unfold Du;rw[Zdq];by_cases h:1<=k
 ·rw[C8 (show k>=1 from h)];by_cases h2:k<=6
  ·rw[decide_eq_true h2,decide_eq_true ⟨h,h2⟩]
  ·rw[decide_eq_false h2,decide_eq_false fun h3=>h2 h3.2]
 ·rw[AM (show¬k>=1 from h),decide_eq_false fun h3=>h h3.1]
theorem T7 (it:Itm):Ez (Ah it)=some [B (decide (smI it))]:=by
 unfold Ez;rw[Zox];by_cases h:it.kind=2
 ·rw[Bi (by simp[h])];congr 2;by_cases h2:it.fr=it.to
  ·have h3:=DS.1 h2;rw[decide_eq_false (fun hs:smI it=>hs.2 h2)];simp[h3.1,h3.2.1,h3.2.2]
  ·rw[decide_eq_true (show smI it from⟨h,h2⟩)];have h3: ¬(it.fr.x=it.to.x/\it.fr.y=it.to.y/\it.fr.z=it.to.z):=fun h3=>h2 (DS.2 h3);simp only[B,AC.bool.injEq,Bool.not_eq_true',Bool.and_true];by_cases a:it.fr.x=it.to.x<;>by_cases b:it.fr.y=it.to.y<;>by_cases c:it.fr.z=it.to.z<;>simp[a,b,c]at h3⊢
 ·rw[A_ (by simp[h]),decide_eq_false (fun hs:smI it=>h hs.1)]
theorem RD {it:Itm} (h1:bd 1048576 it.fr) (h2:bd 1048576 it.to):FN (Ah it)=some (ptR (Ba it)):=by
 obtain⟨a1,a2,a3⟩:=h1;obtain⟨b1,b2,b3⟩:=h2;unfold FN;rw[Znt,Ae (x:=it.fr.x+it.to.x) (by omega),Ae (x:=(it.fr.x+it.to.x)*8) (by omega),Ae (x:=it.fr.y+it.to.y) (by omega),Ae (x:=(it.fr.y+it.to.y)*8) (by omega),Ae (x:=it.fr.z+it.to.z) (by omega),Ae (x:=(it.fr.z+it.to.z)*8) (by omega)];rfl
theorem Ze4 {p:Pt} (h:bd 100000000 p):O2 [I p.x,I p.y,I p.z]=some (ptR (Ay p)):=by
 unfold O2;rw[Z67];obtain⟨h1,h2,h3⟩:=h;rw[Ae (by omega),Ae (by omega),Ae (by omega)];rfl
theorem Qxk (it:Itm):Hy (Ah it)=some [B (decide (syI it))]:=by
 unfold Hy;rw[Zh8];by_cases h5:it.kind=5
 ·rw[Bi (by simp[h5]),decide_eq_true (show syI it from .inl h5)]
 ·rw[A_ (by simp[h5])];by_cases h6:it.kind=6
  ·rw[decide_eq_true (show syI it from .inr h6)];simp[h6]
  ·rw[decide_eq_false (show¬syI it from fun h=>h.elim h5 h6)];simp[h6]
theorem Zv0 {MV MM:Fn} {it:Itm} (hM:MM [I it.kind]=some [B (decide (1<=it.kind/\it.kind<=6))]) (hV:∃v,MV (Ah it)=some [B v]/\(v=true↔Dg it)):
  Qgy MV MM (Ah it)=some [I (if B8 it then 1 else 0)]:=by
 obtain⟨v,hv,hvv⟩:=hV;have hr:∀{x:Int},(B8 it->x=1)->(¬B8 it->x=0)->some [I x]=some [I (if B8 it then 1 else 0)]:=by
  intro x h1 h2;by_cases c:B8 it
  ·rw[if_pos c,h1 c]
  ·rw[if_neg c,h2 c]
 rw[Zsm];simp only[go_sem,hM,hv];unfold B8 AG at hr⊢;have one:∀{P:Prop},P->(P->(1:Int)=1)/\(¬P->(1:Int)=0):=fun h=>⟨fun _=>rfl,fun g=>absurd h g⟩;have zero:∀{P:Prop},¬P->(P->(0:Int)=1)/\(¬P->(0:Int)=0):=fun h=>⟨fun g=>absurd g h,fun _=>rfl⟩;by_cases c1:it.kind<1
 ·rw[if_pos c1];exact hr (fun _=>rfl) fun g=>absurd (.inl c1) g
 rw[if_neg c1];by_cases c2:it.kind>14
 ·rw[if_pos c2];exact hr (fun _=>rfl) fun g=>absurd (.inr (.inl c2)) g
 rw[if_neg c2];by_cases c3:1<=it.kind/\it.kind<=6
 ·simp only[if_pos c3];have hk8:it.kind≠8:=by omega
  simp only[if_neg hk8];by_cases c4:Dg it
  ·rw[if_neg (by simp[hvv.2 c4])];by_cases c5:it.blend<0
   ·rw[if_pos c5];exact hr (fun _=>rfl) fun g=>absurd (.inr (.inr (.inl ⟨c3, .inr (.inr (.inl c5))⟩))) g
   rw[if_neg c5];by_cases c6:it.blend>1000
   ·rw[if_pos c6];exact hr (fun _=>rfl) fun g=>absurd (.inr (.inr (.inl ⟨c3, .inr (.inr (.inr c6))⟩))) g
   rw[if_neg c6];by_cases c7:it.kind=1
   ·rw[if_neg (show¬it.kind≠1 by omega)];refine hr (fun g=> ?_) fun _=>rfl;rcases g with g|g|⟨-,g|g|g|g⟩|g
    ·omega
    ·omega
    ·exact absurd c4 g
    ·omega
    ·omega
    ·omega
    ·omega
   ·rw[if_pos c7];by_cases c8:it.feed<1
    ·rw[if_pos c8];exact hr (fun _=>rfl) fun g=>absurd (.inr (.inr (.inl ⟨c3, .inr (.inl ⟨c7, .inl c8⟩)⟩))) g
    rw[if_neg c8];by_cases c9:it.feed>60000000
    ·rw[if_pos c9];exact hr (fun _=>rfl) fun g=>absurd (.inr (.inr (.inl ⟨c3, .inr (.inl ⟨c7, .inr c9⟩)⟩))) g
    rw[if_neg c9];refine hr (fun g=> ?_) fun _=>rfl;rcases g with g|g|⟨-,g|g|g|g⟩|g
    ·omega
    ·omega
    ·exact absurd c4 g
    ·omega
    ·omega
    ·omega
    ·omega
  ·rw[if_pos (fun h=>c4 (hvv.1 h))];exact hr (fun _=>rfl) fun g=>absurd (.inr (.inr (.inl ⟨c3, .inl c4⟩))) g
 ·simp only[if_neg c3];by_cases c4:it.kind=8
  ·rw[if_pos c4];by_cases d1:it.n<3
   ·rw[if_pos d1];exact hr (fun _=>rfl) fun g=>absurd (.inr (.inr (.inr ⟨c3,c4, .inl d1⟩))) g
   rw[if_neg d1];by_cases d2:it.n>5
   ·rw[if_pos d2];exact hr (fun _=>rfl) fun g=>absurd (.inr (.inr (.inr ⟨c3,c4, .inr (.inl d2)⟩))) g
   rw[if_neg d2];by_cases d3:it.speed<0
   ·rw[if_pos d3];exact hr (fun _=>rfl) fun g=>absurd (.inr (.inr (.inr ⟨c3,c4, .inr (.inr (.inl d3))⟩))) g
   rw[if_neg d3];by_cases d4:it.speed>30000
   ·rw[if_pos d4];exact hr (fun _=>rfl) fun g=>absurd (.inr (.inr (.inr ⟨c3,c4, .inr (.inr (.inr d4))⟩))) g
   rw[if_neg d4];refine hr (fun g=> ?_) fun _=>rfl;rcases g with g|g|⟨g,-⟩|⟨-,-,g⟩
   ·omega
   ·omega
   ·exact absurd g c3
   ·omega
  ·rw[if_neg c4];refine hr (fun g=> ?_) fun _=>rfl;rcases g with g|g|⟨g,-⟩|⟨-,g,-⟩
   ·omega
   ·omega
   ·exact absurd g c3
   ·omega
theorem Zts (it:Itm):Jw (Ah it)=some [I (if B8 it then 1 else 0)]:=Zv0 (Ql _) (Qj7 it)
def CW:List Itm->Nat->Nat
 |[],k=>k
 |it::l,k=>if it.kind=10 then CW l (k+1)else k
def C1 (aA:List Itm) (i:Nat):Nat:=CW (aA.drop (i+1)) (i+1)
theorem Qhv:∀(l:List Itm) (k:Nat),k<=CW l k/\CW l k<=k+l.length
 |[],k=>by simp[CW]
 |it::l,k=>by
  unfold CW;split
  ·have:=Qhv l (k+1);simp;omega
  ·simp
theorem Q69:∀(l:List Itm) (k:Nat),Gk l k=if CW l k-k<l.length/\smI (l.getD (CW l k-k) it0)then(CW l k:Int)else-1
 |[],k=>by simp[Gk]
 |it::l,k=>by
  have hs:=Qhv l (k+1);by_cases h10:it.kind=10
  ·have e1:Gk (it::l) k=Gk l (k+1):=by rw[Gk,if_pos h10]
   have e2:CW (it::l) k=CW l (k+1):=by rw[CW,if_pos h10]
   rw[e1,e2,Q69 l (k+1)];have e3:CW l (k+1)-k=(CW l (k+1)-(k+1))+1:=by omega
   rw[e3,List.getD_cons_succ];by_cases c:CW l (k+1)-(k+1)<l.length
   ·have c2:CW l (k+1)-(k+1)+1<(it::l).length:=by simp;omega
    by_cases c3:smI (l.getD (CW l (k+1)-(k+1)) it0)
    ·rw[if_pos ⟨c,c3⟩,if_pos ⟨c2,c3⟩]
    ·rw[if_neg (fun g=>c3 g.2),if_neg (fun g=>c3 g.2)]
   ·rw[if_neg (fun g=>c g.1),if_neg (fun g=>c (by have:=g.1;simp at this;omega))]
  ·have e1:Gk (it::l) k=if smI it then(k:Int)else-1:=by rw[Gk,if_neg h10]
   have e2:CW (it::l) k=k:=by rw[CW,if_neg h10]
   rw[e1,e2,Nat.sub_self,List.getD_cons_zero];by_cases c:smI it
   ·rw[if_pos c,if_pos ⟨by simp,c⟩]
   ·rw[if_neg c,if_neg (fun g=>c g.2)]
theorem Qxb {aA:List Itm} (hl:aA.length<=1000000):∀(k i:Nat),i+k=aA.length->
  An Qb [.view Al (aA.map Ah),I i]=some (1,[I (CW (aA.drop i) i)])
 |0,i,hi=>by
  refine A3 ?_ (by simp);rw[Qve];simp only[go_sem,List.length_map];rw[if_neg (by omega),List.drop_of_length_le (by omega)];rfl
 |k+1,i,hi=>by
  have hlt:i<aA.length:=by omega
  have hr:=EW hlt;rw[Qli hlt];have hst:Qb [.view Al (aA.map Ah),I i]=if(itA aA i).kind=10 then some (0,[.view Al (aA.map Ah),I (i+1:Nat)])else some (1,[I i]):=by
   rw[Qve];have hin:(0:Int)<=(i:Int)/\(i:Int)<(aA.length:Int):=by omega
   simp only[go_sem,List.length_map,Int.toNat_natCast,hr,if_pos hin];rw[if_pos (by omega),Ae (by omega)];rfl
  unfold CW;by_cases h10:(itA aA i).kind=10
  ·rw[if_pos h10]at hst⊢;rw[Bj hst];exact Qxb hl k (i+1) (by omega)
  ·rw[if_neg h10]at hst⊢;exact A3 hst (by simp)
theorem UP {aA:List Itm} (hl:aA.length<=1000000) {i:Nat} (hi:i<aA.length):E1 [.view Al (aA.map Ah),I i]=some [I (C1 aA i)]:=by
 show Qew (An Qb) _=_;have h:=Qxb hl (aA.length-(i+1)) (i+1) (by omega);rw[Zom,Ae (by omega),show(i:Int)+1=((i+1:Nat):Int) by omega,h];rfl
theorem Qyn {aA:List Itm} {i:Nat}:B6 aA i=if smI (itA aA i)/\(itA aA i).blend≠0/\C1 aA i<aA.length/\smI (itA aA (C1 aA i))then(C1 aA i:Int)else-1:=by
 unfold B6;by_cases h:smI (itA aA i)/\(itA aA i).blend≠0
 ·rw[if_pos h,Q69];have hs:=Qhv (aA.drop (i+1)) (i+1);rw[List.length_drop]at hs;have e:(aA.drop (i+1)).getD (CW (aA.drop (i+1)) (i+1)-(i+1)) it0=itA aA (C1 aA i):=by
   unfold itA;rw[List.getD_eq_getElem?_getD,List.getElem?_drop,List.getD_eq_getElem?_getD];have:i+1+(CW (aA.drop (i+1)) (i+1)-(i+1))=C1 aA i:=by unfold C1;omega
   rw[this]
  rw[e,List.length_drop];have e2:CW (aA.drop (i+1)) (i+1)=C1 aA i:=rfl;rw[e2]at hs⊢;by_cases c:C1 aA i<aA.length/\smI (itA aA (C1 aA i))
  ·rw[if_pos ⟨by omega,c.2⟩,if_pos ⟨h.1,h.2,c⟩]
  ·rw[if_neg (fun g=>c ⟨by have:=g.1;omega,g.2⟩),if_neg (fun g=>c g.2.2)]
 ·rw[if_neg h,if_neg (fun g=>h ⟨g.1,g.2.1⟩)]
theorem Zix {MS MN:Fn} {aA:List Itm} (hS:∀it,MS (Ah it)=some [B (decide (smI it))]) {i:Nat} (hi:i<aA.length) (hN:MN [.view Al (aA.map Ah),I i]=some [I (C1 aA i)]):
  Qag MS MN [.view Al (aA.map Ah),I i]=some [B (decide (0<=B6 aA i))]:=by
 have hr:=EW hi;have hs:=hS (itA aA i);rw[Zgk,Qyn];simp only[Ah]at hs;have hin:(0:Int)<=(i:Int)/\(i:Int)<(aA.length:Int):=by omega
 simp only[go_sem,List.length_map,Int.toNat_natCast,hr,hs,hN,if_pos hin];by_cases h1:smI (itA aA i)
 case neg=>rw[if_neg h1,if_neg (fun g=>h1 g.1)];simp
 rw[if_pos h1];by_cases h2:(itA aA i).blend=0
 ·rw[if_neg (by simp[h2]),if_neg (fun g=>g.2.1 h2)];simp
 rw[if_pos h2];by_cases h3:C1 aA i<aA.length
 ·have hr2:=EW h3;have hs2:=hS (itA aA (C1 aA i));simp only[Ah]at hs2;have hin2:(0:Int)<=(C1 aA i:Int)/\(C1 aA i:Int)<(aA.length:Int):=by omega
  rw[if_pos (by omega),if_pos hin2];simp only[go_sem,hr2,hs2];by_cases h4:smI (itA aA (C1 aA i))
  ·rw[decide_eq_true h4,if_pos ⟨h1,h2,h3,h4⟩,decide_eq_true (by omega)]
  ·rw[decide_eq_false h4,if_neg (fun g=>h4 g.2.2.2)];simp
 ·rw[if_neg (by omega),if_neg (fun g=>h3 g.2.2.1)];simp
theorem Q6e {aA:List Itm} (hl:aA.length<=1000000) {i:Nat} (hi:i<aA.length):GY [.view Al (aA.map Ah),I i]=some [B (decide (0<=B6 aA i))]:=
 Zix T7 hi (UP hl hi)
theorem Tx {aA:List Itm} {i:Nat} (h:0<=B6 aA i):B6 aA i=C1 aA i:=by
 rw[Qyn]at h⊢;split at h
 ·rename_i c;rw[if_pos c]
 ·omega
theorem Zcr {a c b:Pt} {tol:Int} (ha:bd B24 a) (hc:bd B24 c) (hb:bd B24 b):(FI a c b tol).length%2=1:=by
 unfold FI;by_cases h:C9 a c b tol=0
 ·rw[if_pos h];rfl
 ·rw[if_neg h];obtain⟨h1,h2,h3,h4,h5,-⟩:=Vs h;obtain⟨m1,m2⟩:=RB (AB a c) (AB c b);generalize C9 a c b tol=d at*;have k1:bd B24 (BG c a d):=J2 hc ha h1 (by omega);have k2:bd B24 (BG c b d):=J2 hc hb h2 (by rw[Ts b c];omega);have k3:=(Xx k1 hc k2).2;generalize K9 (BG c a d) c (BG c b d)=n at*;rw[List.length_map,List.length_range];rcases k3 with rfl|rfl|rfl|rfl|rfl|rfl<;>rfl
theorem Zja {MC MF MM:Fn} {a b:Itm} {l:List Pt} (hbl:0<=a.blend/\a.blend<=1000) (hl:1<=l.length/\l.length<=65) (hodd:l.length%2=1)
  (c1:MM (Ah a)=some (ptR (Ba a))) (c2:MM (Ah b)=some (ptR (Ba b))) (f1:MF [I a.to.x,I a.to.y,I a.to.z]=some (ptR (Ay a.to)))
  (hC:MC (ptR (Ba a)++ptR (Ay a.to)++ptR (Ba b)++[I (a.blend*16)])=some [.view kPt (l.map ptR)]):
  Qf0 MC MF MM (Ah a++Ah b)=some [.view kPt ((l.take (l.length/2+1)).map ptR), .view kPt ((l.drop (l.length/2)).map ptR)]:=by
 simp only[Ah,List.cons_append,List.nil_append]at c1 c2⊢;rw[Zql];simp only[ptR,List.cons_append,List.nil_append]at hC;simp only[go_sem,c1,c2,f1];rw[Ae (by omega)];simp only[hC,go_sem,List.length_map];have e:wrap .i64 ((wrap .i64 ((l.length:Int)-1)).tdiv 2)=((l.length/2:Nat):Int):=by
  rw[Ae (x:=(l.length:Int)-1) (by omega),Int.tdiv_eq_ediv_of_nonneg (by omega),Ae (by omega)];omega
 have e2:wrap .i64 (((l.length/2:Nat):Int)+1)=((l.length/2+1:Nat):Int):=by rw[Ae (by omega)];omega
 simp only[e,e2,Int.toNat_natCast];rw[if_pos (by omega),if_pos (by omega),List.map_take,List.map_drop]
theorem Z1f {a b:Itm} (h1:drawn a) (h2:drawn b):
  Q7 (Ah a++Ah b)=some [.view kPt (((FI (Ba a) (Ay a.to) (Ba b) (a.blend*16)).take ((FI (Ba a) (Ay a.to) (Ba b) (a.blend*16)).length/2+1)).map ptR), .view kPt (((FI (Ba a) (Ay a.to) (Ba b) (a.blend*16)).drop ((FI (Ba a) (Ay a.to) (Ba b) (a.blend*16)).length/2)).map ptR)]:=
 have k1:=LA h1.1.2.1 h1.1.2.2.1;have k2:=E0 h1.1.2.2.1;have k3:=LA h2.1.2.1 h2.1.2.2.1
 Zja h1.2 (Qzq k1 k2 k3).2 (Zcr k1 k2 k3) (RD h1.1.2.1 h1.1.2.2.1) (RD h2.1.2.1 h2.1.2.2.1) (Ze4 (A0 h1.1.2.2.1 (by decide))) (Zn4 k1 k2 k3 (by have:=h1.2;omega))
end Go.Bm
namespace Go.Bm
open Classical
theorem Zxq {MM MN MS MC MSm MK:Fn} {aA:List Itm} {i:Nat} {frm:Int} (hi:i<aA.length) (hd:drawn (itA aA i)) (hf:LD aA i frm) (hall:∀k<aA.length,AG (itA aA k)->drawn (itA aA k))
  (hK:MK (Ah (itA aA i))=some [.view kPt ((CJ (itA aA i)).map ptR),B true]) (hM:MSm (Ah (itA aA i))=some [B (decide (smI (itA aA i)))])
  (hJ:∀{i k:Nat},i<aA.length->k<aA.length->drawn (itA aA i)->drawn (itA aA k)->MC (Ah (itA aA i)++Ah (itA aA k))=some [.view kPt (((Hq aA i k).take ((Hq aA i k).length/2+1)).map ptR), .view kPt (((Hq aA i k).drop ((Hq aA i k).length/2)).map ptR)])
  (hS:MS [.view Al (aA.map Ah),I i]=some [B (decide (0<=B6 aA i))]) (hN:MN [.view Al (aA.map Ah),I i]=some [I (C1 aA i)]) (hC:MM (Ah (itA aA i))=some (ptR (Ba (itA aA i)))):
  Qlg MM MN MS MC MSm MK [.view Al (aA.map Ah),I i,I frm]=some [.view kPt ((Cp aA i frm).map ptR)]:=by
 have r1:=EW hi;obtain⟨hcl1,hcl2⟩:=Q85 (itA aA i);rw[Znp];simp only[Ah,List.cons_append,List.nil_append]at hK hM hC hJ;have hin:(0:Int)<=(i:Int)/\(i:Int)<(aA.length:Int):=by omega
 simp only[go_sem,List.length_map,Int.toNat_natCast,r1,hK,hM,hC,hS,hN,List.nil_append,if_pos hin];unfold Cp;by_cases hs:smI (itA aA i)
 case neg=>rw[if_pos (by simp[hs]),if_neg hs]
 rw[if_neg (by simp[hs]),if_pos hs];have hk3:(itA aA i).kind≠3:=by have:=hs.1;omega
 have hcl3:(CJ (itA aA i)).length=2:=by unfold CJ;rw[if_neg hk3];rfl
 have w1:wrap .i64 (((CJ (itA aA i)).length:Int)-1)=1:=by rw[hcl3];rfl
 rw[w1,hcl3,if_pos (by omega),if_pos (by omega)];unfold Lv;rcases hf with rfl|⟨f,rfl,hf1,hf2⟩
 ·rw[if_neg (show¬(-1:Int)>=0 by omega)];unfold IY;rw[if_neg (show¬(0:Int)<= -1 by omega)];by_cases hpos:0<=B6 aA i
  ·obtain⟨k,hk,hk1,hk2⟩:=SD hall hpos;have hnx:=Tx hpos;rw[hk]at hnx;have hnk:C1 aA i=k:=by omega
   obtain⟨j1,j2,j3⟩:=Ld (aA:=aA) (i:=i) (k:=k) hd hk2;have hj:=hJ hi hk1 hd hk2;have r2:=EW hk1;have hin2:(0:Int)<=(k:Int)/\(k:Int)<(aA.length:Int):=by omega
   rw[if_pos hpos,if_pos hpos,hk,hnk,Int.toNat_natCast,if_pos hin2];simp only[go_sem,Int.toNat_natCast,r2,hj];rw[if_pos (by simp[Rv];omega),if_pos (by simp;omega),if_pos (by simp;omega)];simp only[Rv,List.map_append,List.map_cons,List.map_nil]
  ·rw[if_neg hpos,if_neg hpos,if_pos (by simp[Rv];omega),if_pos (by simp;omega),if_pos (by simp;omega)];simp only[Rv,Zah,List.map_append,List.map_cons,List.map_nil]
 ·have hjf:=hJ hf1 hi hf2 hd;obtain⟨f1,f2,f3⟩:=Ld (aA:=aA) (i:=f) (k:=i) hf2 hd;have rf:=EW hf1;have hinf:(0:Int)<=(f:Int)/\(f:Int)<(aA.length:Int):=by omega
  rw[if_pos (show(f:Int)>=0 by omega),if_pos hinf];unfold IY;rw[if_pos (show(0:Int)<=(f:Int) by omega),Int.toNat_natCast];simp only[rf,go_sem,hjf,Int.toNat_natCast];by_cases hpos:0<=B6 aA i
  ·obtain⟨k,hk,hk1,hk2⟩:=SD hall hpos;have hnx:=Tx hpos;rw[hk]at hnx;have hnk:C1 aA i=k:=by omega
   obtain⟨j1,j2,j3⟩:=Ld (aA:=aA) (i:=i) (k:=k) hd hk2;have hj:=hJ hi hk1 hd hk2;have r2:=EW hk1;have hin2:(0:Int)<=(k:Int)/\(k:Int)<(aA.length:Int):=by omega
   rw[if_pos hpos,if_pos hpos,hk,hnk,Int.toNat_natCast,if_pos hin2];simp only[go_sem,Int.toNat_natCast,r2,hj];rw[if_pos (by simp;omega),if_pos (by simp;omega),if_pos (by simp;omega)];simp only[List.map_append,List.map_cons,List.map_nil]
  ·rw[if_neg hpos,if_neg hpos,if_pos (by simp;omega),if_pos (by simp;omega),if_pos (by simp;omega)];simp only[Zah,List.map_append,List.map_cons,List.map_nil]
theorem Zgw {aA:List Itm} (hl:aA.length<=1000000) {i:Nat} {frm:Int} (hi:i<aA.length) (hd:drawn (itA aA i)) (hf:LD aA i frm) (hall:∀k<aA.length,AG (itA aA k)->drawn (itA aA k)):
  Mv [.view Al (aA.map Ah),I i,I frm]=some [.view kPt ((Cp aA i frm).map ptR)]:=
 Zxq hi hd hf hall (Zxp hd.1) (T7 _) (fun h1 h2 h3 h4=>Z1f h3 h4) (Q6e hl hi) (UP hl hi) (RD hd.1.2.1 hd.1.2.2.1)
theorem Q91 {MM MS:Fn} {l:List Itm} (hM:∀k:Int,MM [I k]=some [B (decide (1<=k/\k<=6))]) (hS:∀it,MS (Ah it)=some [B (decide (syI it))]) (hl:l.length<=1000000):∀(k i:Nat),i+k=l.length->
  (An (Lj MM MS) [.view Al (l.map Ah),I l.length,I i]=some (1,[B (decide (HJ (l.drop i)=1))]))\/(An (Lj MM MS) [.view Al (l.map Ah),I l.length,I i]=some (2,[])/\HJ (l.drop i)=2)
 |0,i,hi=>by
  right;refine⟨A3 ?_ (by simp),by rw[List.drop_of_length_le (by omega)];rfl⟩;rw[Qsj];simp only[go_sem];rw[if_neg (by omega)]
 |k+1,i,hi=>by
  have hlt:i<l.length:=by omega
  have hr:=EW hlt;rw[Qli hlt];have hs:=hS (itA l i);have hm:=hM (itA l i).kind;have hst:Lj MM MS [.view Al (l.map Ah),I l.length,I i]=if AG (itA l i)then some (1,[B (decide (syI (itA l i)))])else some (0,[.view Al (l.map Ah),I l.length,I (i+1:Nat)]):=by
   rw[Qsj];simp only[Ah]at hs;have hin:(0:Int)<=(i:Int)/\(i:Int)<(l.length:Int):=by omega
   simp only[go_sem,List.length_map,Int.toNat_natCast,hr,hs,hm,if_pos hin];rw[if_pos (by omega),Ae (by omega)];by_cases h1:AG (itA l i)
   ·rw[if_pos (show 1<=(itA l i).kind/\(itA l i).kind<=6 from h1),if_pos h1]
   ·rw[if_neg (show¬(1<=(itA l i).kind/\(itA l i).kind<=6)from h1),if_neg h1];rfl
  unfold HJ;by_cases h10:AG (itA l i)
  ·rw[if_pos h10]at hst⊢;left;rw[A3 hst (by simp)];by_cases hsm:syI (itA l i)
   ·rw[if_pos hsm,decide_eq_true hsm];rfl
   ·rw[if_neg hsm,decide_eq_false hsm];rfl
  ·rw[if_neg h10]at hst⊢;rw[Bj hst];exact Q91 hM hS hl k (i+1) (by omega)
def IT (aA:List Itm) (i:Nat):Prop:=(itA aA i).blend=0\/syI (itA aA i)\/HJ (aA.drop (i+1))=1
theorem Zog {MM MS:Fn} {aA:List Itm} (hM:∀k:Int,MM [I k]=some [B (decide (1<=k/\k<=6))]) (hS:∀it,MS (Ah it)=some [B (decide (syI it))]) (hl:aA.length<=1000000) {i:Nat} (hi:i<aA.length):
  Y9 MM MS (An (Lj MM MS)) [.view Al (aA.map Ah),I i]=some [B (decide (IT aA i))]:=by
 have hr:=EW hi;have hs:=hS (itA aA i);have hL:=Q91 hM hS (l:=aA.drop (i+1)) (by rw[List.length_drop];omega) (aA.drop (i+1)).length 0 (by omega);rw[List.drop_zero]at hL;rw[Zes];simp only[Ah]at hs;have hw:wrap .i64 ((i:Int)+1)=((i+1:Nat):Int):=by rw[Ae (by omega)];omega
 have hin:(0:Int)<=(i:Int)/\(i:Int)<(aA.length:Int):=by omega
 have hin3:(0:Int)<=((i+1:Nat):Int)/\((i+1:Nat):Int)<=(aA.length:Int):=by omega
 have hdl:(List.drop (i+1) (aA.map Ah)).length=(aA.drop (i+1)).length:=by rw[List.length_drop,List.length_drop,List.length_map]
 generalize An (Lj MM MS)=N at*;simp only[go_sem,List.length_map,Int.toNat_natCast,hr,hs,hw,if_pos hin,if_pos hin3,hdl];rw[<-List.map_drop];by_cases h2:(itA aA i).blend=0
 ·rw[if_pos h2,decide_eq_true (show IT aA i from .inl h2)]
 ·rw[if_neg h2];by_cases h3:syI (itA aA i)
  ·rw[if_pos h3,decide_eq_true (show IT aA i from .inr (.inl h3))]
  ·rw[if_neg h3];rcases hL with hL|⟨hL,hn⟩
   ·have hL':N [.view Al ((aA.drop (i+1)).map Ah),I (aA.drop (i+1)).length,I 0]=some (1,[B (decide (HJ (aA.drop (i+1))=1))]):=hL;simp only[hL',go_sem];by_cases h4:HJ (aA.drop (i+1))=1
    ·rw[decide_eq_true h4,decide_eq_true (show IT aA i from .inr (.inr h4))]
    ·rw[decide_eq_false h4,decide_eq_false (show¬IT aA i from fun h=>h.elim h2 fun h=>h.elim h3 h4)]
   ·have hL':N [.view Al ((aA.drop (i+1)).map Ah),I (aA.drop (i+1)).length,I 0]=some (2,[]):=hL;simp only[hL',go_sem];rw[decide_eq_false (show¬IT aA i from fun h=>h.elim h2 fun h=>h.elim h3 fun h=>by rw[hn]at h;cases h)];simp
theorem Zz6 {aA:List Itm} (hl:aA.length<=1000000) {i:Nat} (hi:i<aA.length):P_ [.view Al (aA.map Ah),I i]=some [B (decide (IT aA i))]:=Zog Ql Qxk hl hi
def JC (aA:List Itm) (i:Nat):Int:=if AG (itA aA i)then Tr aA i else Th (itA aA i)
theorem Z39 {ME MM:Fn} {aA:List Itm} {i:Nat} {aF:Rw} {aD:List Mrk} {st:Pt} {b:Bool} {len sp mid:Int} (hi:i<aA.length) (hml:aD.length<=1000000)
  (hM:MM [I (itA aA i).kind]=some [B (decide (AG (itA aA i)))]) (hE:ME [.view Al (aA.map Ah),I i]=some [B (decide (IT aA i))]):
  Qd7 ME MM [.view Ag aF, .view AD (aD.map At), .view Al (aA.map Ah),I i,I st.x,I st.y,I st.z,B b,I len,I sp,I mid]=
   some [.view Ag aF, .view AD ((aD++[(⟨len,JC aA i,i⟩:Mrk)]).map At),I st.x,I st.y,I st.z,B b,I len,I sp,I mid]:=by
 have hr:=EW hi;have hin:(0:Int)<=(i:Int)/\(i:Int)<(aA.length:Int):=by omega
 have hb:(aD.length+1)*24<=140737488355328:=by omega
 have e:∀k:Int,aD.map At++[[I len,I k,I i]]=(aD++[(⟨len,k,i⟩:Mrk)]).map At:=fun k=>by rw[List.map_append];rfl
 rw[Zxb];simp only[go_sem,List.length_map,Int.toNat_natCast,hr,if_pos hin,hM,hE,List.length_append,List.length_cons,List.length_nil,if_pos hb];have fin:∀{k:Int},k=JC aA i->some [AC.view Ag aF, .view AD (aD.map At++[[I len,I k,I i]]),I st.x,I st.y,I st.z,B b,I len,I sp,I mid]=some [.view Ag aF, .view AD ((aD++[(⟨len,JC aA i,i⟩:Mrk)]).map At),I st.x,I st.y,I st.z,B b,I len,I sp,I mid]:=by
  intro k hk;rw[e,hk]
 unfold JC Tr Th at fin⊢;by_cases c4:(itA aA i).kind=4
 ·rw[if_pos c4];have hm:AG (itA aA i):=⟨by omega,by omega⟩;exact fin (by rw[if_pos hm,if_pos c4])
 ·rw[if_neg c4];by_cases hm:AG (itA aA i)
  ·rw[if_pos hm];by_cases hx:IT aA i
   ·rw[if_pos hx];refine fin ?_;rw[if_pos hm,if_neg c4];rcases hx with h|h|h
    ·rw[if_pos h]
    ·by_cases h2:(itA aA i).blend=0
     ·rw[if_pos h2]
     ·rw[if_neg h2,if_pos h]
    ·by_cases h2:(itA aA i).blend=0
     ·rw[if_pos h2]
     ·rw[if_neg h2];by_cases h3:syI (itA aA i)
      ·rw[if_pos h3]
      ·rw[if_neg h3,h]
   ·rw[if_neg hx,if_pos hm];refine fin ?_;rw[if_pos hm,if_neg c4,if_neg (fun h=>hx (.inl h)),if_neg (fun h=>hx (.inr (.inl h)))];have hns:∀l:List Itm,HJ l=1\/HJ l=2:=by
     intro l;induction l with
     |nil=>right;rfl
     |cons it l ih=>
      unfold HJ;split
      ·split<;>simp
      ·exact ih
    rcases hns (aA.drop (i+1))with h|h
    ·exact absurd (.inr (.inr h)) hx
    ·rw[h]
  ·rw[if_neg hm,if_neg hm];by_cases c10:(itA aA i).kind=10
   ·rw[if_pos c10];exact fin (by rw[if_neg hm,if_pos c10])
   ·rw[if_neg c10];by_cases c13:(itA aA i).kind=13
    ·rw[if_pos c13];exact fin (by rw[if_neg hm,if_neg c10,if_pos c13])
    ·rw[if_neg c13];exact fin (by rw[if_neg hm,if_neg c10,if_neg c13])
theorem Zzg {aA:List Itm} (hl:aA.length<=1000000) {i:Nat} {aF:Rw} {aD:List Mrk} {st:Pt} {b:Bool} {len sp mid:Int} (hi:i<aA.length) (hml:aD.length<=1000000):
  Jd [.view Ag aF, .view AD (aD.map At), .view Al (aA.map Ah),I i,I st.x,I st.y,I st.z,B b,I len,I sp,I mid]=
   some [.view Ag aF, .view AD ((aD++[(⟨len,JC aA i,i⟩:Mrk)]).map At),I st.x,I st.y,I st.z,B b,I len,I sp,I mid]:=
 Z39 hi hml (Ql _) (Zz6 hl hi)
end Go.Bm
