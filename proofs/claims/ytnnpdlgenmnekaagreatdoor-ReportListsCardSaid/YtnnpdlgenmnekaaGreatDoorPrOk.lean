/- laid together -/
import Derived.Test.YtnnpdlgenmnekaaGreatDoorMx2
import Derived.Test.YtnnpdlgenmnekaaGreatDoorBmTy
import Derived.Test.YtnnpdlgenmnekaaGreatDoorMy1
set_option linter.unusedVariables false
set_option linter.unusedSimpArgs false
set_option maxRecDepth 100000
open Go.IntKind (wrap)
variable {l r:Go.Bm.Rw} {k i:Nat}
namespace Go.Bm
theorem b48 (n:Nat) (h:n<=9):DX [[AC.int IntKind.u8 (IntKind.u8.wrap (V (48+(n:Int))))]]=⟨#[UInt8.ofNat (48+n)]⟩:=by
 have:n=0\/n=1\/n=2\/n=3\/n=4\/n=5\/n=6\/n=7\/n=8\/n=9:=by omega
 rcases this with rfl|rfl|rfl|rfl|rfl|rfl|rfl|rfl|rfl|rfl<;>rfl
theorem Fa (n:Nat):AB (n:Int)=⟨(Lib.decDigits n).toArray⟩:=by
 unfold AB Lib.itoa;rw[cd,aw]
theorem Je:∀(f n:Nat),n<10^(f+1)->(Lib.decDigits n).length<=f+1
 |0,n,h=>by rw[Lib.decDigits,dif_pos (by omega)];simp
 |f+1,n,h=>by
  rw[Lib.decDigits];split
  ·simp
  ·have:=Je f (n/10) (by rw[Nat.pow_succ]at h;omega);simp;omega
theorem Kx:∀(f n:Nat),n<10^(f+1)->n<=1000000000->f<=100->EV (f+1) [I (n:Int)]=some [.raw (.string (AB n))]
 |f,n,h,G,J=>by
  show Ji (EV f) [I (n:Int)]=_;rw[Se,Fa,Lib.decDigits];simp only[bd (show¬(n:Int)<0 by omega),aj];by_cases A:n<10
  ·rw[au (show(n:Int)<10 by omega),ac,b48 n (by omega),dif_pos A]
  ·rw[bd (show¬(n:Int)<10 by omega),aj,dif_neg A];cases f with
   |zero=>omega
   |succ f=>
    have e1:(n:Int).tdiv 10=((n/10:Nat):Int):=by rw[Int.tdiv_eq_ediv_of_nonneg (by omega)];omega
    have e2:(n:Int).tmod 10=((n%10:Nat):Int):=by rw[Int.tmod_eq_emod_of_nonneg (by omega)];omega
    rw[e1,e2,BW (x:=((n/10:Nat):Int)),b48 (n%10) (by omega)];have D:n/10<10^(f+1):=by rw[Nat.pow_succ]at h;omega
    have E:=Kx f (n/10) D (by omega) (by omega);have L:=Je f (n/10) D;rw[E,Fa];simp only[ak,nth,Ah];have hb:((⟨(Lib.decDigits (n/10)).toArray⟩:ByteArray).size+(⟨#[UInt8.ofNat (48+n%10)]⟩:ByteArray).size).ble 9223372036854775807=true:=by
     refine bz ?_;simp only[ByteArray.size,List.size_toArray,Array.size];simp only[c7];omega
    rw[hb,ac];have:(⟨(Lib.decDigits (n/10)).toArray⟩:ByteArray)++(⟨#[UInt8.ofNat (48+n%10)]⟩:ByteArray)=⟨(Lib.decDigits (n/10)++[UInt8.ofNat (48+n%10)]).toArray⟩:=by
     apply ByteArray.ext;simp
    rw[this]
theorem R0 {n:Nat} (h:n<=100000):D0 [I (n:Int)]=some [.raw (.string (AB n))]:=by
 show EV (23+1) [I (n:Int)]=_;exact Kx 23 n (by omega) (by omega) (by omega)
theorem lB {α β:Type} {a:Option α} {f:α->Option β} {x:α} {r:Option β} (h:a=some x) (g:f x=r):a.bind f=r:=by rw[h];exact g
theorem lT {α:Type} {c:Bool} {a b r:α} (h:c=true) (g:a=r):cond c a b=r:=by rw[h];exact g
theorem lF {α:Type} {c:Bool} {a b r:α} (h:c=false) (g:b=r):cond c a b=r:=by rw[h];exact g
theorem lLe (h:k<=i):Nat.ble k i=true:=bz h
def Num (M:Fn):Prop:=∀n:Nat,n<=100000->M [I (n:Int)]=some [.raw (.string (AB n))]
theorem Lb:Num D0:=λ_ h=>R0 h
theorem K8:Num Ey:=by
 intro n h;show cond (decide (-9223372036854775808<=(n:Int))&&decide ((n:Int)<=9223372036854775807)) _ _=_;rw[au (show-9223372036854775808<=(n:Int) by omega),au (show(n:Int)<=9223372036854775807 by omega)];rfl
theorem Dc {n:Nat} (h:n<=100000):(AB n).size<=6:=by
 rw[Fa];have:=Je 5 n (by omega);simpa [ByteArray.size]using this
theorem C9 (a b:ByteArray):(a++b).size=a.size+b.size:=ByteArray.size_append
def BF (q:List Nat):Rw:=q.map λn:Nat=>[I (n:Int)]
theorem TT {q:List Nat} (h:k<q.length):nth [] (BF q) k=[I (q[k]:Int)]:=by
 rw[Au,aq];simp[BF,h]
abbrev bOut:ByteArray:=ByteArray.mk #[32,111,117,116,112,117,116]
def Ec (v:ByteArray):List Nat->ByteArray
 |[]=>v
 |n::q=>Ec (v++(bOut++AB n)) q
theorem Ht:∀(q:List Nat) (v:ByteArray),(∀n∈q,n<=100000)->(Ec v q).size<=v.size+13*q.length
 |[],v,_=>by simp[Ec]
 |n::q,v,h=>by
  have h1:=Ht q (v++(bOut++AB n)) λm A=>h m (by simp[A]);have h2:=Dc (h n (by simp));rw[C9,C9]at h1;have h3:bOut.size=7:=rfl;simp only[Ec,dw];omega
theorem Ux (M:Fn) (A:ByteArray) (D:Rw) (E G:Int):Jv M [AC.raw (Go.Value.string A), .vC kInts D,I E,I G]=F8 M [AC.raw (Go.Value.string A), .vC kInts D,I E,I G]:=by
 rw[Uf,Iq]
theorem HR {M:Fn} {S:Lp} (A:∀E G J L,S [AC.raw (Go.Value.string E), .vC kInts G,I J,I L]=F8 M [AC.raw (Go.Value.string E), .vC kInts G,I J,I L]) (hM:Num M) {q:List Nat} (N:∀n∈q,n<=100000) (Q:q.length<=1000):∀(m j:Nat) (v:ByteArray),j+m=q.length->v.size<=1000+13*j->
  AD S [AC.raw (Go.Value.string v), .vC kInts (BF q),I (q.length:Int),I (j:Int)]=some (1,[AC.raw (.string (Ec v (q.drop j)))])
 |0,j,v,T,U=>by
  have e:S [AC.raw (Go.Value.string v), .vC kInts (BF q),I (q.length:Int),I (j:Int)]=some (1,[AC.raw (.string v)]):=by
   rw[A,Iq];exact lF (bd (by omega)) rfl
  rw[DF e (by simp),dx (by omega)];rfl
 |m+1,j,v,T,U=>by
  have D:j<q.length:=by omega
  have O:=N q[j] (bq D);have V:=Dc O;have h3:bOut.size=7:=rfl;have e:S [AC.raw (Go.Value.string v), .vC kInts (BF q),I (q.length:Int),I (j:Int)]=some (0,[AC.raw (.string (v++(bOut++AB q[j]))), .vC kInts (BF q),I (q.length:Int),I ((j+1:Nat):Int)]):=by
   rw[A,Iq];refine lT (au (by omega)) (lT (by rw[au (by omega),au (by rw[BF,bj];omega)];rfl) ?_);rw[aw,TT D];refine lB (hM _ O) (lT (lLe ?_) (lT (lLe ?_) ?_))
   ·show bOut.size+(AB q[j]).size<=_;omega
   ·show v.size+(bOut++AB q[j]).size<=_;rw[C9];omega
   ·rw[BW (x:=(j:Int)+1)];rfl
  rw[EE e,HR A hM N Q m (j+1) _ (by omega) (by rw[C9,C9];omega)];rw[cr D];rfl
def Fh (i mode s fault:Nat) (q:List Nat):ByteArray:=
 Ec (AB i++(ByteArray.mk #[32,109,111,100,101])++AB mode++(ByteArray.mk #[32,97,116])++AB s++(ByteArray.mk #[32,102,97,117,108,116])++AB fault) q++ByteArray.mk #[10]
theorem Mt {i mode s fault:Nat} (h1:i<=100000) (h2:mode<=100000) (h3:s<=100000) (A:fault<=100000):(AB i++(ByteArray.mk #[32,109,111,100,101])++AB mode++(ByteArray.mk #[32,97,116])++AB s++(ByteArray.mk #[32,102,97,117,108,116])++AB fault).size<=100:=by
 have:=Dc h1;have:=Dc h2;have:=Dc h3;have:=Dc A;simp only[C9];have e1:(ByteArray.mk #[32,109,111,100,101]).size=5:=rfl;have e2:(ByteArray.mk #[32,97,116]).size=3:=rfl;have e3:(ByteArray.mk #[32,102,97,117,108,116]).size=6:=rfl;omega
theorem Ky {M:Fn} {N:Lp} {i mode s fault:Nat} {q:List Nat} {a b c d:Int} (hM:Num M) (hN:∀v:ByteArray,v.size<=1000->N [AC.raw (Go.Value.string v), .vC kInts (BF q),I (q.length:Int),I 0]=some (1,[AC.raw (.string (Ec v q))]))
  (D:∀n∈q,n<=100000) (J:q.length<=1000) (h1:i<=100000) (h2:mode<=100000) (h3:s<=100000) (A:fault<=100000):
  Gk M N [I (i:Int), .vC kPt l, .vC kInts (BF q),I (mode:Int),I (s:Int),I a,I b,I c,I d,I (fault:Int)]=some [.raw (.string (Fh i mode s fault q))]:=by
 have s1:=Dc h1;have s2:=Dc h2;have s3:=Dc h3;have s4:=Dc A;have e1:(ByteArray.mk #[32,109,111,100,101]).size=5:=rfl;have e2:(ByteArray.mk #[32,97,116]).size=3:=rfl;have e3:(ByteArray.mk #[32,102,97,117,108,116]).size=6:=rfl;have L:(ByteArray.mk #[10]).size=1:=rfl;have E:=Mt h1 h2 h3 A;have G:=Ht q (AB i++(ByteArray.mk #[32,109,111,100,101])++AB mode++(ByteArray.mk #[32,97,116])++AB s++(ByteArray.mk #[32,102,97,117,108,116])++AB fault) D;have hlen:((BF q).length:Int)=(q.length:Int):=by rw[BF,bj]
 rw[L8];refine lB (hM i h1) (lT (lLe ?_) (lB (hM mode h2) (lT (lLe ?_) (lT (lLe ?_) (lB (hM s h3) (lT (lLe ?_) (lT (lLe ?_) (lB (hM fault A) (lT (lLe ?_) (lB ((by rw[hlen];exact hN _ (by show ByteArray.size (AB i++_++AB mode++_++AB s++_++AB fault)<=_;omega)):_=_) (lT rfl (lT (lLe ?_) rfl))))))))))));all_goals try simp only[nth,Ah]
 all_goals try simp only[C9]
 all_goals try simp only[C9]at E G
 all_goals omega
structure TkOK (t : List AC) (p : Rw) (q : List Nat) (mode s fault : Nat) (a b c d : Int) : Prop where
 e:Ap Ac t=[.vC kPt p, .vC kInts (BF q),I (mode:Int),I (s:Int),I a,I b,I c,I d,I (fault:Int)]
 q1:∀n∈q,n<=100000
 q2:q.length<=1000
 h1:mode<=100000
 h2:s<=100000
 h3:fault<=100000
def Tk (t:List AC):Prop:=∃p q mode s fault a b c d,TkOK t p q mode s fault a b c d
def CO (k:Nat) (t:List AC):ByteArray:=Fh k (Ad (nth .vD t 2)).toNat (Ad (nth .vD t 3)).toNat (Ad (nth .vD t 8)).toNat ((Aq (nth .vD t 1)).map λc=>(Ad (nth .vD c 0)).toNat)
theorem TkOK.line {t:List AC} {q:List Nat} {mode s fault:Nat} {a b c d:Int} (h:TkOK t r q mode s fault a b c d) (k:Nat):CO k t=Fh k mode s fault q:=by
 have e:=h.e;have A:Cq (.sl kInts) (nth .vD t 1)= .vC kInts (BF q):=de (λl=>nth .vD l 1) e;have D:Cq (.int .i64) (nth .vD t 2)=I (mode:Int):=de (λl=>nth .vD l 2) e;have E:Cq (.int .i64) (nth .vD t 3)=I (s:Int):=de (λl=>nth .vD l 3) e;have G:Cq (.int .i64) (nth .vD t 8)=I (fault:Int):=de (λl=>nth .vD l 8) e;simp only[Cq,AC.vC.injEq,AC.int.injEq,true_and]at A D E G;unfold CO;rw[A,D,E,G,aw,aw,aw];congr 1;rw[BF,List.map_map]
 conv=>rhs;rw[<-List.map_id q]
 refine List.map_congr_left λn _=> ?_;rfl
theorem Rx {t:List AC} (h:Tk t) {k:Nat} (A:k<=100000):Fz (I (k:Int)::Ap Ac t)=some [.raw (.string (CO k t))]:=by
 obtain⟨p,q,mode,s,fault,a,b,c,d,h⟩:=h;rw[h.line,h.e];exact Ky K8 (λv D=>HR (λ_ _ _ _=>rfl) K8 h.q1 h.q2 q.length 0 v (by omega) (by omega)) h.q1 h.q2 A h.h1 h.h2 h.h3
theorem Sl (M:Fn) (N:Lp) (A:Int) (D E:Rw) (G J L O Q S T:Int):Hg M N [I A, .vC kPt D, .vC kInts E,I G,I J,I L,I O,I Q,I S,I T]=Gk M N [I A, .vC kPt D, .vC kInts E,I G,I J,I L,I O,I Q,I S,I T]:=by
 rw[SL,L8]
theorem PC {t:List AC} (h:Tk t) {k:Nat} (A:k<=100000):Cd (I (k:Int)::Ap Ac t)=some [.raw (.string (CO k t))]:=by
 obtain⟨p,q,mode,s,fault,a,b,c,d,h⟩:=h;rw[h.line,h.e];show Hg D0 HC _=_;rw[Sl];exact Ky Lb (λv L=>HR (λD E G J=>Ux _ D E G J) Lb h.q1 h.q2 q.length 0 v (by omega) (by omega)) h.q1 h.q2 A h.h1 h.h2 h.h3
theorem Ic {t:List AC} (h:Tk t) {k:Nat} (A:k<=100000):(CO k t).size<=20000:=by
 obtain⟨p,q,mode,s,fault,a,b,c,d,h⟩:=h;rw[h.line];unfold Fh;have D:=Mt A h.h1 h.h2 h.h3;have h1:=Ht q (AB k++(ByteArray.mk #[32,109,111,100,101])++AB mode++(ByteArray.mk #[32,97,116])++AB s++(ByteArray.mk #[32,102,97,117,108,116])++AB fault) h.q1;have h2:=h.q2;have h3:(ByteArray.mk #[10]).size=1:=rfl;rw[C9];omega
def A5 (l:Rw):Nat->ByteArray
 |0=>ByteArray.mk #[]
 |k+1=>cond (Ds l k) (A5 l k++CO k (nth [] l k)) (A5 l k)
theorem IR {l:Rw} (A:∀t∈l,Tk t) (D:l.length<=40):∀k,k<=l.length->(A5 l k).size<=20000*k
 |0,_=>Nat.zero_le _
 |k+1,G=>by
  have J:=IR A D k (by omega);have E:nth [] l k∈l:=by rw[Au,aq,ah (by omega)];exact bq _
  have:=Ic (A _ E) (k:=k) (by omega);rw[A5];cases Ds l k
  ·simp only[aj];omega
  ·simp only[ac,C9];omega
theorem MD (h:k<l.length):nth [] l k∈l:=by
 rw[Au,aq,ah h];exact bq _
theorem M7 {l:Rw} (A:∀t∈l,Tk t) (D:l.length<=40):∀k,k<=l.length->BS Fz l k=some (A5 l k).data.toList
 |0,_=>rfl
 |k+1,J=>by
  have G:=M7 A D k (by omega);have E:=MD (l:=l) (k:=k) (by omega);have h1:=Ic (A _ E) (k:=k) (by omega);have h2:=IR A D k (by omega);rw[BS,A5,G,ak,Rx (A _ E) (by omega)];cases Ds l k
  ·rfl
  ·simp only[ac,ak,nth,Ah];have h3:(A5 l k).data.toList.length=(A5 l k).size:=bl;rw[lLe (by rw[h3];omega),ac];rw[ByteArray.data_append,Array.toList_append]
theorem HP (A:∀t∈l,Tk t) (D:l.length<=40):B2 [.vC Ac l]=some [.raw (.string (A5 l l.length))]:=by
 show cond (Nat.ble l.length 4611686018427387904) ((BS Fz l l.length).bind λbs=>some [AC.raw (.string ⟨bs.toArray⟩)]) none=_;rw[lLe (by omega),ac,M7 A D _ (bf _)];simp
theorem OD (A:∀t∈l,Tk t) (J:l.length<=40) {k:Nat} (L:k<l.length):
  FB Cd [.vC Ac l, .raw (.string (A5 l k)), .vC Ac l,I (l.length:Int),I (k:Int)]=some (0,[.vC Ac l, .raw (.string (A5 l (k+1))), .vC Ac l,I (l.length:Int),I ((k+1:Nat):Int)]):=by
 have D:=MD L;have U:=IR A J k (by omega);have X:=Ic (A _ D) (k:=k) (by omega);have E:V ((k:Int)+1)=((k+1:Nat):Int):=by rw[BW];omega
 have N:Eg Cd (k:Int) l (A5 l k) l (l.length:Int)=some (0,[.vC Ac l, .raw (.string (A5 l k++CO k (nth [] l k))), .vC Ac l,I (l.length:Int),I ((k+1:Nat):Int)]):=by
  unfold Eg;rw[aw];refine lB (PC (A _ D) (k:=k) (by omega)) (lT (lLe ?_) ?_)
  ·show(A5 l k).size+(CO k (nth [] l k)).size<=_;omega
  ·rw[E];rfl
 refine(M3 Cd l (A5 l k) l (l.length:Int) (k:Int)).trans ?_;rw[N];refine lT (au (by omega)) (lT (by rw[au (by omega),au (by omega)];rfl) ?_);rw[A5];by_cases G:k=0
 ·subst G;rfl
 ·have O:V ((k:Int)-1)=((k-1:Nat):Int):=by rw[BW];omega
  have Q:((k:Int)==0)=false:=by simp;omega
  have S:(k==0)=false:=by simp[G]
  have T:(decide (0<=((k-1:Nat):Int))&&decide (((k-1:Nat):Int)<(l.length:Int)))=true:=by simp;omega
  refine lF Q ?_;rw[O,T,ac,aw,aw,ac];unfold Ds;rw[S];simp only[gA,wA];rw[E];generalize(Ad (nth .vD (nth [] l k) 2) !=Ad (nth .vD (nth [] l (k-1)) 2))=x;generalize(Ad (nth .vD (nth [] l k) 8) !=Ad (nth .vD (nth [] l (k-1)) 8))=y;generalize decide (((Aq (nth .vD (nth [] l k) 1)).length:Int)>0)=z;cases x<;>cases y<;>cases z<;>rfl
theorem l_F {l:Rw} (A:∀t∈l,Tk t) (D:l.length<=40):∀(m k:Nat),k+m=l.length->
  AD (FB Cd) [.vC Ac l, .raw (.string (A5 l k)), .vC Ac l,I (l.length:Int),I (k:Int)]=some (1,[.raw (.string (A5 l l.length))])
 |0,k,h=>by
  have e:FB Cd [.vC Ac l, .raw (.string (A5 l k)), .vC Ac l,I (l.length:Int),I (k:Int)]=some (1,[.raw (.string (A5 l k))]):=by
   refine(M3 Cd l (A5 l k) l (l.length:Int) (k:Int)).trans ?_;exact lF (bd (by omega)) rfl
  rw[DF e (by simp),show k=l.length by omega]
 |m+1,k,h=>by
  rw[EE (OD A D (by omega))];exact l_F A D m (k+1) (by omega)
theorem Ll (A:∀t∈l,Tk t) (D:l.length<=40):CV [.vC Ac l]=some [.raw (.string (A5 l l.length))]:=by
 refine(T1 Cd Ii l).trans ?_;exact lB (l_F A D l.length 0 (by omega)) rfl
theorem G2 {v n:Int} (A:0<n/\n<=4611686018427387904):BM [I v,I n]=some [I (v%n)]:=by
 unfold BM;rw[QI,Me (by omega),Me (by omega)];have h1: -n<v.tmod n/\v.tmod n<n:=by
  have a1:=Int.tmod_lt_of_pos v A.1;have a2:=Int.lt_tmod_of_pos v A.1;omega
 rw[BW];have h2:(v.tmod n+n).tmod n=v%n:=by
  rw[Int.tmod_eq_emod_of_nonneg (by omega),Int.add_emod_right];have h3:=Int.tmod_add_mul_tdiv v n;have D:v%n=(v.tmod n+n*v.tdiv n)%n:=by rw[h3]
  rw[D,Int.add_mul_emod_self_left]
 rw[h2]
def Dj (c:List AC):Int:=Ad (nth .vD c 0)%100
def Nl (t:List AC) (q:Rw):List AC:=[.vC kPt (Aq (nth .vD t 0)), .vC kInts (Bi (q.map Dj)),I (Ad (nth .vD t 2)%9),I (Ad (nth .vD t 3)%1000),I (Ad (nth .vD t 4)),I (Ad (nth .vD t 5)),I (Ad (nth .vD t 6)),I (Ad (nth .vD t 7)),I (Ad (nth .vD t 8)%3)]
theorem NI {q:Rw}:∀j,j<=q.length->BD BM q j=some ((q.take j).map Dj)
 |0,_=>by simp[BD]
 |j+1,h=>by
  rw[BD,NI j (by omega),ak,G2 (by omega),ak];have A:j<q.length:=by omega
  rw[dq,ah A];have e:nth [] q j=q[j]:=by rw[Au,aq,ah A];rfl
  rw[e];simp only[Option.toList,dh,av,cw];rfl
theorem Qu (A:k<r.length) (x:List AC):nth [] (r.set k x) k=x:=by
 rw[Au,aq,bw];simp[A]
theorem wr4 (A:k<r.length) (a b c:Int) (v:Rw):wr (wr (wr (wr r k 2 (I a)) k 8 (I b)) k 3 (I c)) k 1 (.vC kInts v)=
  r.set k [.vC kPt (Aq (nth .vD (nth [] r k) 0)), .vC kInts v,I a,I c,I (Ad (nth .vD (nth [] r k) 4)),I (Ad (nth .vD (nth [] r k) 5)),I (Ad (nth .vD (nth [] r k) 6)),I (Ad (nth .vD (nth [] r k) 7)),I b]:=by
 unfold wr;simp only[List.set_set,Qu A];rfl
theorem Qd {n:Int} (A:k<r.length) (G:k<l.length):mB0 BM r l n k=
  if 40<(Aq (nth .vD (nth [] l k) 0)).length\/40<(BQ l k).length then some [.bool true]else some [.bool false, .vC Ac (r.set k (Nl (nth [] r k) (BQ l k)))]:=by
 unfold mB0;rw[JU];have D:(decide (0<=(k:Int))&&decide ((k:Int)<(l.length:Int)))=true:=by simp;omega
 have E:(decide (0<=(k:Int))&&decide ((k:Int)<(r.length:Int)))=true:=by simp;omega
 rw[D,E];simp only[ac,aw];by_cases h1:40<(Aq (nth .vD (nth [] l k) 0)).length
 ·rw[cm (.inl h1),au (by omega)];rfl
 ·rw[bd (by omega),aj];by_cases h2:40<(BQ l k).length
  ·rw[cm (.inr h2),au (by unfold BQ at h2;omega)];rfl
  ·rw[cd,bd (by unfold BQ at h2;omega),aj];rw[G2 (by omega),ak,G2 (by omega),ak,G2 (by omega),ak,ak];rw[NI _ (bf _),List.take_length];show some [AC.bool false,AC.vC Ac (wr (wr (wr (wr r k 2 _) k 8 _) k 3 _) k 1 _)]=_;rw[show(i0 [I (Ad (nth .vD (nth [] r k) 2)%9)])=I (Ad (nth .vD (nth [] r k) 2)%9)from rfl,show(i0 [I (Ad (nth .vD (nth [] r k) 8)%3)])=I (Ad (nth .vD (nth [] r k) 8)%3)from rfl,show(i0 [I (Ad (nth .vD (nth [] r k) 3)%1000)])=I (Ad (nth .vD (nth [] r k) 3)%1000)from rfl,wr4 A];rfl
def DY (t:List AC):List AC:=Nl t (Aq (nth .vD t 1))
def Few (t:List AC):Prop:=(Aq (nth .vD t 0)).length<=40/\(Aq (nth .vD t 1)).length<=40
def mix (l:Rw) (k:Nat):Rw:=(l.take k).map DY++l.drop k
theorem QB (h:k<=l.length):(mix l k).length=l.length:=by simp[mix];omega
theorem Oc (h:k<l.length):nth [] (mix l k) k=nth [] l k:=by
 rw[Au,Au,aq,aq];unfold mix;rw[dk (by simp;omega)];simp only[bj,cn,bp];congr 2;omega
theorem Sv (h:k<l.length):(mix l k).set k (DY (nth [] l k))=mix l (k+1):=by
 have e:nth [] l k=l[k]:=by rw[Au,aq,ah h];rfl
 unfold mix;rw[e,List.set_append_right _ _ (by simp;omega),dq,ah h];simp only[bj,cn,Option.toList,dh,av,cw];rw[show k-min k l.length=0 by omega];simp;rw[cr h];rfl
noncomputable abbrev S7:Lp:=Jd CV B2 B4 CM CX CZ BM mAw mBx
theorem e7 (E G:Rw) (A D:Int):S7 [.vC Ac E, .vC Ac G,I A,I D]=cond (decide (D<A)) ((mB0 BM E G A D).bind λo=>cond (Ci (nth .vD o 0)) (some (1,[B true])) (some (0,[.vC Ac (Aq (nth .vD o 1)), .vC Ac G,I A,I (V (D+1))]))) (some (2,[.vC Ac E])):=
 QE _ _ _ _ _ _ _ _ _ E G A D
theorem l_7 {l:Rw} (G:l.length<=1000):∀(m k:Nat),k+m=l.length->
  AD S7 [.vC Ac (mix l k), .vC Ac l,I (l.length:Int),I (k:Int)]=some (1,[B true])\/(AD S7 [.vC Ac (mix l k), .vC Ac l,I (l.length:Int),I (k:Int)]=some (2,[.vC Ac (l.map DY)])/\∀t∈l.drop k,Few t)
 |0,k,h=>by
  refine .inr ⟨?_,by rw[dx (by omega)];simp⟩;have e:S7 [.vC Ac (mix l k), .vC Ac l,I (l.length:Int),I (k:Int)]=some (2,[.vC Ac (mix l k)]):=by
   rw[e7];exact lF (bd (by omega)) rfl
  rw[DF e (by simp)];unfold mix;rw[co (by omega),dx (by omega),List.append_nil]
 |m+1,k,h=>by
  have A:k<l.length:=by omega
  have J:V ((k:Int)+1)=((k+1:Nat):Int):=by rw[BW];omega
  have e0:=e7 (mix l k) l (l.length:Int) (k:Int);rw[au (by omega),ac,Qd (by rw[QB (by omega)];exact A) A]at e0;by_cases E:40<(Aq (nth .vD (nth [] l k) 0)).length\/40<(BQ l k).length
  ·rw[cm E]at e0;left;exact DF e0 (by simp)
  ·rw[cd E,Oc A,J]at e0;have e1:S7 [.vC Ac (mix l k), .vC Ac l,I (l.length:Int),I (k:Int)]=some (0,[.vC Ac (mix l (k+1)), .vC Ac l,I (l.length:Int),I ((k+1:Nat):Int)]):=by
    rw[e0,<-Sv A];rfl
   rw[EE e1];rcases l_7 G m (k+1) (by omega)with h1|⟨h1,h2⟩
   ·exact .inl h1
   ·refine .inr ⟨h1,λt D=> ?_⟩;rw[cr A]at D;rcases an.1 D with rfl|D
    ·have e:nth [] l k=l[k]:=by rw[Au,aq,ah A];rfl
     rw[<-e];unfold BQ at E;exact⟨by omega,by omega⟩
    ·exact h2 t D
theorem O1 {t:List AC} (h:Few t):Tk (DY t):=by
 have A:∀c:List AC,0<=Dj c/\Dj c<100:=λc=>⟨Int.emod_nonneg _ (by omega),dm _ (by omega)⟩;have E:0<=Ad (nth .vD t 2)%9/\Ad (nth .vD t 2)%9<9:=⟨Int.emod_nonneg _ (by omega),dm _ (by omega)⟩;have h3:0<=Ad (nth .vD t 8)%3/\Ad (nth .vD t 8)%3<3:=⟨Int.emod_nonneg _ (by omega),dm _ (by omega)⟩;have h1:0<=Ad (nth .vD t 3)%1000/\Ad (nth .vD t 3)%1000<1000:=⟨Int.emod_nonneg _ (by omega),dm _ (by omega)⟩;refine⟨Aq (nth .vD t 0),(Aq (nth .vD t 1)).map λc=>(Dj c).toNat,(Ad (nth .vD t 2)%9).toNat,(Ad (nth .vD t 3)%1000).toNat,(Ad (nth .vD t 8)%3).toNat,Ad (nth .vD t 4),Ad (nth .vD t 5),Ad (nth .vD t 6),Ad (nth .vD t 7),⟨?_,?_,?_,by omega,by omega,by omega⟩⟩
 ·rw[cv E.1,cv h1.1,cv h3.1];have e:BF ((Aq (nth .vD t 1)).map λc=>(Dj c).toNat)=Bi ((Aq (nth .vD t 1)).map Dj):=by
   unfold BF Bi;rw[List.map_map,List.map_map];refine List.map_congr_left λc _=> ?_;show [I (((Dj c).toNat:Nat):Int)]=[I (Dj c)];rw[cv (A c).1]
  rw[e];rfl
 ·intro n D;simp only[am]at D;obtain⟨c,_,rfl⟩:=D;have:=A c;omega
 ·rw[bj];have:=h.2;omega
theorem lIn {i n:Nat} (h:i<n):(decide (0<=(i:Int))&&decide ((i:Int)<(n:Int)))=true:=by
 rw[au (by omega),au (by omega)];rfl
theorem Ga (h:k<l.length):nth [] l k=l[k]:=by rw[Au,aq,ah h];rfl
def AJ:Rw->Rw
 |[]=>[]
 |t::l=>wA t 0++AJ l
theorem Ij:∀(a b:Rw),AJ (a++b)=AJ a++AJ b
 |[],_=>rfl
 |t::a,b=>by simp[AJ,Ij a b]
theorem Lf (h:i<l.length):AJ (l.take (i+1))=AJ (l.take i)++wA l[i] 0:=by
 rw[dq,ah h,Ij];show _++(wA l[i] 0++[])=_;rw[List.append_nil]
theorem Sy (h:∀t∈l,(wA t 0).length<=40):(AJ l).length<=40*l.length:=by
 induction l with
 |nil=>simp[AJ]
 |cons t l A=>
  have h1:=A λt D=>h t (by simp[D]);have h2:=h t (by simp);simp only[AJ,bh,dw];omega
theorem Lj (l:Rw) (i:Nat):(AJ (l.take i)).length<=(AJ l).length:=by
 have:=de List.length (Ij (l.take i) (l.drop i));rw[List.take_append_drop,bh]at this;omega
theorem KJ {l:Rw} (D:l.length<=1000) (E:(AJ l).length<=1000000):∀(m i:Nat),i+m=l.length->
  AD E4 [.vC kPt (AJ (l.take i)), .vC Ac l,I (l.length:Int),I (i:Int)]=some (1,[.vC kPt (AJ l)])
 |0,i,h=>by
  have e:E4 [.vC kPt (AJ (l.take i)), .vC Ac l,I (l.length:Int),I (i:Int)]=some (1,[.vC kPt (AJ (l.take i))]):=
   (Ma _ _ _ _).trans (lF (bd (by omega)) rfl)
  rw[DF e (by simp),co (by omega)]
 |m+1,i,h=>by
  have A:i<l.length:=by omega
  have G:=Lj l (i+1);have e:E4 [.vC kPt (AJ (l.take i)), .vC Ac l,I (l.length:Int),I (i:Int)]=some (0,[.vC kPt (AJ (l.take (i+1))), .vC Ac l,I (l.length:Int),I ((i+1:Nat):Int)]):=by
   refine(Ma _ _ _ _).trans (lT (au (by omega)) (lT (lIn A) ?_));rw[aw,Ga A,<-Lf A,BW (x:=(i:Int)+1)];exact lT (lLe (by omega)) rfl
  rw[EE e];exact KJ D E m (i+1) (by omega)
theorem RF (A:l.length<=1000) (D:(AJ l).length<=1000000):CX [.vC Ac l]=some [.vC kPt (AJ l)]:=by
 refine(Qj (AD E4) l).trans ?_;exact lB (KJ A D l.length 0 (by omega)) rfl
theorem Q6 (E:l.length<=1000000000):CM [.vC kPt l, .vC kPt l]=some [B true]:=by
 have A:∀m i:Nat,i+m=l.length->AD Gy [.vC kPt l, .vC kPt l,I (l.length:Int),I (i:Int)]=some (2,[]):=by
  intro m;induction m with
  |zero=>
   intro i h;refine DF ?_ (by simp);rw[Mx];exact lF (bd (by omega)) rfl
  |succ m D=>
   intro i h;refine(EE ?_).trans (D (i+1) (by omega));rw[Mx];refine lT (au (by omega)) (lT (lIn (by omega)) (lT (lIn (by omega)) (lF (by simp) ?_)));rw[BW (x:=(i:Int)+1)];rfl
 show IU (AD Gy) _=_;rw[Tj];exact lF (by simp) (lB (A l.length 0 (by omega)) rfl)
def Cr (t:List AC):List AC:=[jA t 4,jA t 5,jA t 6]
theorem M4 {l:Rw} (D:l.length<=1000):∀(m i:Nat),i+m=l.length->
  AD E2 [.vC kPt ((l.take i).map Cr), .vC Ac l,I (l.length:Int),I (i:Int)]=some (1,[.vC kPt (l.map Cr)])
 |0,i,h=>by
  have e:E2 [.vC kPt ((l.take i).map Cr), .vC Ac l,I (l.length:Int),I (i:Int)]=some (1,[.vC kPt ((l.take i).map Cr)]):=
   (M_ _ _ _ _).trans (lF (bd (by omega)) rfl)
  rw[DF e (by simp),co (by omega)]
 |m+1,i,h=>by
  have A:i<l.length:=by omega
  have e:E2 [.vC kPt ((l.take i).map Cr), .vC Ac l,I (l.length:Int),I (i:Int)]=some (0,[.vC kPt ((l.take (i+1)).map Cr), .vC Ac l,I (l.length:Int),I ((i+1:Nat):Int)]):=by
   refine(M_ _ _ _ _).trans (lT (au (by omega)) (lT (lIn A) ?_));rw[aw,Ga A,BW (x:=(i:Int)+1),dq,ah A];refine lT (lLe ?_) ?_
   ·simp only[bh,bj,cn,dw,List.length_nil];omega
   ·simp only[Option.toList,dh,av,cw];rfl
  rw[EE e];exact M4 D m (i+1) (by omega)
theorem Tg (A:l.length<=1000):CZ [.vC Ac l]=some [.vC kPt (l.map Cr)]:=by
 refine(Q2 (AD E2) l).trans ?_;exact lB (M4 A l.length 0 (by omega)) rfl
noncomputable abbrev S24:Lp:=Jw CV B2 B4 CM CX CZ BM mAw mBx Fy
theorem Lt {l:Rw} (D:l.length<=1000) (E:(AJ l).length<=1000000):∀(m i:Nat),i+m=l.length->
  AD S24 [.vC kPt (AJ (l.take i)), .vC Ac l, .vC kPt (l.map Cr), .vC Ac l,I (l.length:Int),I (i:Int)]=some (2,[.vC kPt (AJ l), .vC Ac l])
 |0,i,h=>by
  have e:S24 [.vC kPt (AJ (l.take i)), .vC Ac l, .vC kPt (l.map Cr), .vC Ac l,I (l.length:Int),I (i:Int)]=some (2,[.vC kPt (AJ (l.take i)), .vC Ac l]):=
   (LR _ _ _ _ _ _ _ _ _ _ _ _ _ _ _ _).trans (lF (bd (by omega)) rfl)
  rw[DF e (by simp),co (by omega)]
 |m+1,i,h=>by
  have A:i<l.length:=by omega
  have G:=Lj l (i+1);have e:S24 [.vC kPt (AJ (l.take i)), .vC Ac l, .vC kPt (l.map Cr), .vC Ac l,I (l.length:Int),I (i:Int)]=some (0,[.vC kPt (AJ (l.take (i+1))), .vC Ac l, .vC kPt (l.map Cr), .vC Ac l,I (l.length:Int),I ((i+1:Nat):Int)]):=by
   refine(LR _ _ _ _ _ _ _ _ _ _ _ _ _ _ _ _).trans (lT (au (by omega)) (lT (lIn A) ?_));rw[aw,Ga A,<-Lf A,BW (x:=(i:Int)+1)];refine lT (lLe (by omega)) (lT (lIn (by rw[bj];exact A)) ?_);rw[Ga (by rw[bj];exact A),List.getElem_map];refine lF ?_ rfl;show(!(gA l[i] 4==gA l[i] 4&&(gA l[i] 5==gA l[i] 5&&(gA l[i] 6==gA l[i] 6&&true))))=false;simp
  rw[EE e];exact Lt D E m (i+1) (by omega)
theorem JC (L:Rw) (A:L.length<=1000) (D:0<L.length):B4 [.vC Ac L]=some [B (gA (nth [] L (V ((L.length:Int)-1)).toNat) 2==7)]:=by
 refine(LW L).trans (lT (au (by omega)) (lT ?_ rfl));rw[BW (x:=(L.length:Int)-1),au (by omega),au (by omega)];rfl
theorem S6:B4 [.vC Ac []]=some [B false]:=(LW []).trans rfl
theorem PL (N:mAw []=some [B true]) (l:Rw):NG [.vC Ac l]=some [B true]:=by
 refine(Uy _ _ _ _ _ _ _ _ _ Fy H_ l).trans ?_;refine lB N (lF rfl ?_);by_cases T:l.length<=40
 ·refine lF (bd (by omega)) (lT (lLe (by simp only[dg];omega)) ?_);rcases l_7 (l:=l) (by omega) l.length 0 (by omega)with O|⟨O,E⟩
  ·exact lB O (lT rfl rfl)
  ·refine lB O (lF rfl (lT rfl ?_));have A:∀t∈l.map DY,Tk t:=by
    intro t J;simp only[am]at J;obtain⟨u,Q,rfl⟩:=J;exact O1 (E u Q)
   have S:∀t∈l.map DY,(wA t 0).length<=40:=by
    intro t J;simp only[am]at J;obtain⟨u,Q,rfl⟩:=J;exact(E u Q).1
   have D:(l.map DY).length<=40:=by rw[bj];exact T
   generalize l.map DY=L at*;have X:=Sy S;refine lB (Tg (l:=L) (by omega)) (lF ?_ ?_)
   ·show(((L.map Cr).length:Int) !=(L.length:Int))=false;rw[bj];simp
   ·refine lB (Lt (l:=L) (by omega) (by omega) L.length 0 (by omega)) (lF rfl (lT rfl (lB (RF (l:=L) (by omega) (by omega)) (lB (Q6 (l:=AJ L) (by omega)) (lT rfl ?_)))));have G:∀(a b:ByteArray),a=b->some [B (a.toList==b.toList)]=some [B true]:=by
     rintro a _ rfl;simp
    by_cases U:0<L.length
    ·refine lB (JC L (by omega) U) (lT (au ?_) (lT ?_ (lT ?_ (lB (HP A D) (lB (Ll A D) ?_)))))
     ·show(L.length:Int)>0;omega
     ·show(decide (0<=V ((L.length:Int)-1))&&decide (V ((L.length:Int)-1)<(L.length:Int)))=true;rw[BW (x:=(L.length:Int)-1),au (by omega),au (by omega)];rfl
     ·show((gA (nth [] L (V ((L.length:Int)-1)).toNat) 2==7)==(Ad (nth .vD (nth [] L (V ((L.length:Int)-1)).toNat) 2)==7))=true;simp[gA]
     ·exact G _ _ rfl
    ·have:L=[]:=bu (by omega);subst this;refine lB S6 (lF rfl (lT rfl (lB (HP A D) (lB (Ll A D) ?_))));exact G _ _ rfl
 ·exact lT (au (by omega)) rfl
theorem N8:AB ((0:Nat):Int)=⟨#[48]⟩:=by
 rw[Fa,Lib.decDigits,dif_pos (by decide)];rfl
theorem SB:AB ((7:Nat):Int)=⟨#[55]⟩:=by
 rw[Fa,Lib.decDigits,dif_pos (by decide)];rfl
theorem Qk:AB ((160:Nat):Int)=⟨#[49,54,48]⟩:=by
 rw[Fa,Lib.decDigits,dif_neg (by decide),show 160/10=16 from rfl,Lib.decDigits,dif_neg (by decide),show 16/10=1 from rfl,Lib.decDigits,dif_pos (by decide)];rfl
abbrev tA:List AC:=[.vC kPt [], .vC kInts [],I 7,I 160,I 0,I 0,I 0,I 0,I 0]
theorem tA_ok:TkOK tA [] [] 7 160 0 0 0 0 0:=⟨rfl,by simp,by simp,by omega,by omega,by omega⟩
theorem Su:CO 0 tA=ByteArray.mk #[48,32,109,111,100,101,55,32,97,116,49,54,48,32,102,97,117,108,116,48,10]:=by
 rw[tA_ok.line];unfold Fh;rw[N8,SB,Qk];rfl
theorem Rq:B2 [.vC Ac [tA]]=some [.raw (.string (ByteArray.mk #[48,32,109,111,100,101,55,32,97,116,49,54,48,32,102,97,117,108,116,48,10]))]:=by
 have h:=HP (l:=[tA]) (λt A=>by simp only[bg]at A;subst A;exact⟨_,_,_,_,_,_,_,_,_,tA_ok⟩) (by simp);have e:A5 [tA] [tA].length=ByteArray.mk #[]++CO 0 tA:=rfl;rw[h,e,Su];rfl
theorem N9:mAw []=some [B true]:=by
 refine(Ue B2 B4 Fg).trans ?_;refine lB Tl (lT rfl (lT rfl (lB (JC [[.vC kPt [], .vC kInts [],I 7,I 0,I 0,I 0,I 0,I 0,I 0]] (by simp) (by simp)) (lT rfl (lB Rq ?_)))));simp[Ah,nth]
end Go.Bm
