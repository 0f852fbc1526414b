/- laid together -/
import Derived.Test.YtommijghjlikkaaGreatPrPg
import Derived.Test.YtommijghjlikkaaGreatPrTk
import Derived.Test.YtommijghjlikkaaGreatPrLc
import Derived.Test.YtommijghjlikkaaGreatMx3
import Derived.Test.YtommijghjlikkaaGreatMy1
set_option linter.unusedVariables false
set_option linter.unusedSimpArgs false
set_option maxRecDepth 100000
open Go.IntKind (wrap)
namespace Go.Bm
open Classical
theorem Zeq {it:Itm} {speed:Int} (hf:it.kind=1\/1<=it.feed/\it.feed<=60000000) (E:0<=speed/\speed<=30000):J6 (Ag it++[I speed])=some [I (Id it speed)]:=by
 by_cases D:it.kind=1
 ·unfold J6 Id;generalize BE=M;have h:=Qyg (AL:=M) it.kind it.block it.fr.x it.fr.y it.fr.z it.to.x it.to.y it.to.z it.aF it.ce.x it.ce.y it.ce.z it.dir it.full it.feed it.perRev it.side it.radius it.blend it.n it.speed it.on speed;rw[aa D];refine Eq.trans h ?_;rw[BO (by simp[D])]
 ·exact Zft (by omega) E
theorem Z3b {aE:List Sgm} {aC:Rw} {q g D at_:Pt} {M item feed lead len sp E:Int} (G:FR D aE=at_) (J:bd 67108864 at_) (L:bd 67108864 q) (N:aE.length+1<=1048577) (hlen:0<=len/\len<=4000000000000000000):
  PB [.view Ah (aE.map Av), .view AJ aC,I q.x,I q.y,I q.z,I g.x,I g.y,I g.z,I M,I item,I feed,I lead,I D.x,I D.y,I D.z,B true,I len,I sp,I E]=
   some [.view Ah ((Bf item feed lead (aE,len,at_) q).1.map Av), .view AJ aC,I D.x,I D.y,I D.z,B true,I (Bf item feed lead (aE,len,at_) q).2.1,I sp,I E]:=
 Zjc G (Qdf J L) (IL J L) N hlen
theorem Zc6 {items:List Itm} (hlen:items.length<=15) (D:∀j<items.length,¬B5 (itA items j)) {i:Nat} (I:i<items.length):
  P0 Js KK FQ HD D7 JA Rb (pbR items i)=some (0,pbR items (i+1)):=by
 have hb:=OC D i (by omega);have N:=Jo D i (by omega);have E:∀k<items.length,AF (itA items k)->drawn (itA items k):=λk T J=>(LU (D k T) J).1;have G:=LU (D i I);refine Ze1 I hlen hb.aC Rm (λL O=>Qsc (by omega) O) (λL O=>Qcq (by omega) O) (λJ=> ?_) (Zsl (by omega) I (by have:=hb.aC;omega));have M:=(G J).1;exact Z7s I hlen M.1 hb N (WJ M hb.frm E) (λU=>by have S:=(G J).2;rcases U with h|h<;>omega) (Qtu items i) (Uu _) (Tb M.1.2.1 M.1.2.2.1) (Qv4 _) (Zeq (G J).2 hb.speed)
  (Ztn (by omega) I M hb.frm E) (λV S X Y h5=>Z3b V S X Y h5) Zq6
theorem Zco {items:List Itm} (hlen:items.length<=15) (D:∀j<items.length,¬B5 (itA items j)):∀(k i:Nat),i+k=items.length->
  Al (P0 Js KK FQ HD D7 JA Rb) (pbR items i)=
   some (2,[.view Ah ((AU items).aE.map Av), .view AJ ((AU items).aC.map At),I (AU items).start.x,I (AU items).start.y,I (AU items).start.z,B (Au items items.length).begun,I (Au items items.length).len,I (Au items items.length).speed,I (Df items items.length)])
 |0,i,E=>by
  obtain rfl:i=items.length:=by omega
  refine A7 ?_ (by simp);unfold pbR AU;rw[Q8p,A_ (by omega)]
 |k+1,i,E=>by
  rw[Bv (Zc6 hlen D (by omega))];exact Zco hlen D k (i+1) (by omega)
def Ke (items:List Itm) (o:List AC):Prop:=
 if Dm items=0 then o=[.view Ah ((AU items).aE.map Av), .view AJ ((AU items).aC.map At),I 0,I (AU items).start.x,I (AU items).start.y,I (AU items).start.z,B (Au items items.length).begun,I (Au items items.length).len,I (Au items items.length).speed,I (Df items items.length)]
 else o=[.view Ah [], .view AJ [],I (Dm items),I 0,I 0,I 0,B false,I 0,I 0,I 0]
theorem Zsq {M N O S T U:Fn} {J D:Lp} {items:List Itm} (hlen:items.length<=15)
  (V : (J [.view Ah [], .view AJ [], .view Ai (items.map Ag), I (-1), .view Ai (items.map Ag), I items.length, I 0, I 0, I 0, I 0, B false, I 0, I 0, I 0] = some (1, [.view Ah [], .view AJ [], I (Dm items), I 0, I 0, I 0, B false, I 0, I 0, I 0]) /\ Dm items ≠ 0) \/
   (J [.view Ah [], .view AJ [], .view Ai (items.map Ag),I (-1), .view Ai (items.map Ag),I items.length,I 0,I 0,I 0,I 0,B false,I 0,I 0,I 0]=some (2,[.view Ah [], .view AJ [], .view Ai (items.map Ag),I 0,I 0,I 0,B false,I 0,I 0,I 0])/\Dm items=0))
  (L : Dm items = 0 -> D [.view Ah [], .view AJ [], .view Ai (items.map Ag), I (-1), .view Ai (items.map Ag), I items.length, I 0, I 0, I 0, I 0, B false, I 0, I 0, I 0] =
   some (2,[.view Ah ((AU items).aE.map Av), .view AJ ((AU items).aC.map At),I (AU items).start.x,I (AU items).start.y,I (AU items).start.z,B (Au items items.length).begun,I (Au items items.length).len,I (Au items items.length).speed,I (Df items items.length)])):
  ∃o,Qkk M N O S T U J D [.view Ai (items.map Ag)]=some o/\Ke items o:=by
 rw[Zr5];have E: ¬((items.length:Int)>20000):=by omega
 rcases V with⟨h,G⟩|⟨h,G⟩
 ·simp only[go_sem,af,h,ab E];exact⟨_,rfl,by unfold Ke;rw[ab G]⟩
 ·have g:=L G;simp only[go_sem,af,h,ab E,g];rw[ab (by decide),ab (by decide)];exact⟨_,rfl,by unfold Ke;rw[aa G]⟩
theorem Zcw {items:List Itm} (hlen:items.length<=15):∃o,Jf [.view Ai (items.map Ag)]=some o/\Ke items o:=by
 have D:Dm items=G1 items items.length 0 (-1):=by unfold Dm;rw[ab (by omega)]
 refine Zsq hlen ?_ λhe=>Zco hlen (No he).2 items.length 0 (by omega);rw[D];exact Qc6 Rm Z60 (by omega) items.length 0 (-1) (by omega) (.inl rfl)
theorem Zgw {E:Fn} {items:List Itm} (h:∃o,E [.view Ai (items.map Ag)]=some o/\Ke items o):
  Qhy E [.view Ai (items.map Ag)]=if Dm items=0 then some (Br (AU items)++[I 0])else some [I 0,I 0,I 0, .view Ah [], .view AJ [],I (Dm items)]:=by
 obtain⟨o,G,D⟩:=h;rw[Zur,G];unfold Ke at D;by_cases c:Dm items=0
 ·rw[aa c]at D⊢;subst D;simp only[go_sem];rw[ab (by simp)];try rfl
 ·rw[ab c]at D⊢;subst D;simp only[go_sem];rw[aa c]
theorem Zsj {items:List Itm} (hlen:items.length<=15):NM [.view Ai (items.map Ag)]=if Dm items=0 then some (Br (AU items)++[I 0])else some [I 0,I 0,I 0, .view Ah [], .view AJ [],I (Dm items)]:=
 Zgw (Zcw hlen)
def K3 (items:List Itm):Nat->Option Nat
 |0=>none
 |i+1=>if(itA items i).kind=10 then K3 items i else some i
noncomputable def JI (items:List Itm):Int:=
 match K3 items items.length with
 |some i=>if smI (itA items i)/\(itA items i).blend≠0 then Ay (AU items).aE-AH (Bl (itA items i)) (Az (itA items i).to)else Ay (AU items).aE
 |none=>Ay (AU items).aE
theorem ZE {items:List Itm} {i:Nat}:∀{n:Nat},K3 items n=some i->i<n/\(itA items i).kind≠10/\∀j,i<j->j<n->(itA items j).kind=10
 |0,h=>by cases h
 |n+1,h=>by
  unfold K3 at h;split at h
  ·rename_i c;obtain⟨G,D,E⟩:=ZE h;refine⟨by omega,D,λj g1 g2=> ?_⟩;by_cases e:j=n
   ·rw[e];exact c
   ·exact E j g1 (by omega)
  ·rename_i c;cases h
   exact⟨by omega,c,λj g1 g2=>by omega⟩
theorem Zr7 {items:List Itm} {i:Nat} (h:(itA items i).kind=10):(Au items (i+1)).len=(Au items i).len/\Df items (i+1)=Df items i:=by
 have D: ¬AF (itA items i):=λg=>by have:=g.2;omega
 constructor
 ·rw[Au];unfold Eg;rw[ab D]
 ·rw[Df,ab D]
theorem Q1s {items:List Itm} {i:Nat}:∀(k:Nat),(∀j,i<=j->j<i+k->(itA items j).kind=10)->(Au items (i+k)).len=(Au items i).len/\Df items (i+k)=Df items i
 |0,_=>⟨rfl,rfl⟩
 |k+1,h=>by
  obtain⟨D,E⟩:=Q1s k λj g1 g2=>h j g1 (by omega);obtain⟨G,I⟩:=Zr7 (h (i+k) (by omega) (by omega));exact⟨G.trans D,I.trans E⟩
theorem Zk7 {items:List Itm} (D:∀j<items.length,¬B5 (itA items j)):Ay (AU items).aE=(Au items items.length).len:=by
 have h:=Jo D items.length (co _);unfold AU;by_cases hb:(Au items items.length).begun=true
 ·exact(h.begun hb).2.2.2
 ·obtain⟨g1,g2,-⟩:=h.empty (by simpa using hb);simp only[g1,g2];rfl
theorem Zn4 {it:Itm} (h:it.fr≠it.to):Az it.to≠Bl it:=by
 intro g;unfold Az Bl at g;injection g with g1 g2 D;exact h (DT.2 ⟨by omega,by omega,by omega⟩)
theorem Zmp (it:Itm) (h:smI it) (item feed lead:Int) (s:(List Sgm×Int×Pt)×Int):
  (Es it item feed lead (Es it item feed lead s (Bl it)) (Az it.to)).2=(Es it item feed lead (Es it item feed lead s (Bl it)) (Az it.to)).1.2.1-AH (Bl it) (Az it.to):=by
 have D:=Zn4 h.2;have G:(Es it item feed lead s (Bl it)).2=(Bf item feed lead s.1 (Bl it)).2.1:=aa ⟨h,rfl⟩;have E:(Bf item feed lead s.1 (Bl it)).2.2=Bl it:=by
  unfold Bf;split
  ·rename_i c;exact c.symm
  ·rfl
 have I:(Es it item feed lead s (Bl it)).1=Bf item feed lead s.1 (Bl it):=rfl;generalize Es it item feed lead s (Bl it)=t at*;have J:(Es it item feed lead t (Az it.to)).2=t.2:=ab λg=>D g.2;have L:(Es it item feed lead t (Az it.to)).1=Bf item feed lead t.1 (Az it.to):=rfl;rw[J,L,G,I];rw[<-E]at D⊢;rw[E];generalize Bf item feed lead s.1 (Bl it)=u at*;have M:Bf item feed lead u (Az it.to)=(u.1++[⟨Az it.to,AH u.2.2 (Az it.to),item,feed,lead⟩],u.2.1+AH u.2.2 (Az it.to),Az it.to):=ab D;rw[M,E];simp only;omega
theorem Z2a {items:List Itm} {i:Nat} (J:K3 items items.length=some i) (E:smI (itA items i)):Df items items.length=(Au items items.length).len-AH (Bl (itA items i)) (Az (itA items i).to):=by
 obtain⟨M,-,G⟩:=ZE J;obtain⟨k,L⟩:∃k,items.length=i+1+k:=⟨items.length-(i+1),by omega⟩;have I:AF (itA items i):=⟨by have:=E.1;omega,by have:=E.1;omega⟩;obtain⟨g1,g2⟩:=Q1s (items:=items) (i:=i+1) k λj e1 e2=>G j (by omega) (by omega);have D: ¬0<=Cq items i:=by
  intro c;have N:=TG c;rcases Zy items i with h|⟨-,-,m,m1,m2,m3,m4,m5⟩
  ·omega
  ·have:=G m m2 m3;have:=m4.1;omega
 rw[L,g1,g2];have e1:Df items (i+1)=(FW items i (Au items i) (Df items i)).2:=aa I;have e2:(Au items (i+1)).len=(FW items i (Au items i) (Df items i)).1.2.1:=by
  rw[Zbu,Au];unfold Eg;rw[aa I]
 rw[e1,e2];unfold FW;have e3:C4 items i (Au items i).frm=Jx items i (Au items i).frm++[Bl (itA items i)]++[Az (itA items i).to]:=by
  unfold C4;rw[aa E];unfold Na;rw[ab D];unfold CK;rw[ab (by have:=E.1;omega)];rfl
 rw[e3,List.foldl_append,List.foldl_append,List.foldl_cons,List.foldl_nil,List.foldl_cons,List.foldl_nil];exact Zmp _ E _ _ _ _
theorem Q4n {N T:Fn} {items:List Itm} {aE aC:Rw} {E:Pt} {b:Bool} {len sp D:Int} (X:items.length<=1000) (U:∀it,N (Ag it)=some [B (decide (smI it))]):
  ∀n:Nat,n<=items.length->∃o:Nat×List AC,Al (PE N T) [.view Ah aE, .view AJ aC, .view Ai (items.map Ag),I ((n:Int)-1),I E.x,I E.y,I E.z,B b,I len,I sp,I D]=some o/\
   match K3 items n with
   |some i=>o=(1,[I (if smI (itA items i)/\(itA items i).blend≠0 then D else len)])
   |none=>o=(2,[.view Ah aE, .view AJ aC,I E.x,I E.y,I E.z,B b,I len,I sp,I D])
 |0,_=>by
  refine⟨_,A7 (o:=(2,_)) ?_ (by simp),rfl⟩;rw[Q8o,A_ (by omega)]
 |n+1,hn=>by
  have O:n<items.length:=by omega
  have Y:=FP O;have V:=U (itA items n);simp only[Ag]at V;have S:(0:Int)<=(n:Int)/\(n:Int)<(items.length:Int):=by omega
  have e:((n+1:Nat):Int)-1=n:=by omega
  have G:PE N T [.view Ah aE, .view AJ aC, .view Ai (items.map Ag),I n,I E.x,I E.y,I E.z,B b,I len,I sp,I D]=
    if(itA items n).kind=10 then some (0,[.view Ah aE, .view AJ aC, .view Ai (items.map Ag),I ((n:Int)-1),I E.x,I E.y,I E.z,B b,I len,I sp,I D])
    else some (1,[I (if smI (itA items n)/\(itA items n).blend≠0 then D else len)]):=by
   rw[Q8o];simp only[go_sem,af,aj,Y,V,aa S];rw[aa (by omega),Ae (by omega)];by_cases J:(itA items n).kind=10
   ·rw[aa J,aa J]
   ·rw[ab J,ab J];by_cases L:smI (itA items n)
    ·rw[aa L];by_cases M:(itA items n).blend≠0
     ·rw[aa M,aa ⟨L,M⟩]
     ·rw[ab M,ab (λg=>M g.2)]
    ·rw[ab L,ab (λg=>L g.1)]
  rw[e];unfold K3;by_cases J:(itA items n).kind=10
  ·rw[aa J]at G⊢;rw[Bv G];exact Q4n X U n (by omega)
  ·rw[ab J]at G⊢;exact⟨_,A7 G (by simp),rfl⟩
theorem Ztm {G J:Fn} {items:List Itm} (hl:items.length<=15) (X:∀it,G (Ag it)=some [B (decide (smI it))]) (h:∃o,J [.view Ai (items.map Ag)]=some o/\Ke items o):
  Qkp G J (Al (PE G J)) [.view Ai (items.map Ag)]=some [I (if Dm items=0 then JI items else 0)]:=by
 obtain⟨o,V,L⟩:=h;unfold Ke at L;by_cases c:Dm items=0
 ·rw[aa c]at L⊢;have D:=(No c).2;have M:=Zk7 D;have O:=λi S Y=>Z2a (items:=items) (i:=i) S Y;have U:= @Q4n G J items ((AU items).aE.map Av) ((AU items).aC.map At) (AU items).start (Au items items.length).begun (Au items items.length).len (Au items items.length).speed (Df items items.length) (by omega) X items.length (by omega);obtain⟨r,r1,E⟩:=U;rw[Q9a,V];subst L;have hw:wrap .i64 ((items.length:Int)-1)=(items.length:Int)-1:=Ae (by omega);unfold JI;rw[M];generalize Al (PE G J)=N at*;simp only[go_sem,af,hw,r1];rw[ab (by simp)];cases S:K3 items items.length with
  |none=>
   rw[S]at E;simp only at E;subst E;rfl
  |some i=>
   rw[S]at E;simp only at E;subst E;simp only[go_sem];by_cases T:smI (itA items i)/\(itA items i).blend≠0
   ·rw[aa T,aa T,O i S T.1]
   ·rw[ab T,ab T]
 ·rw[ab c]at L⊢;subst L;rw[Q9a,V];simp only[go_sem];rw[aa c]
theorem Znz {items:List Itm} (D:items.length<=15):NP [.view Ai (items.map Ag)]=some [I (if Dm items=0 then JI items else 0)]:=Ztm D Uu (Zcw D)
def okU (s:Spk):Prop:=s.u.natAbs<=1000000/\s.w.natAbs<=1000000/\(0<=s.r/\s.r<=1000000)/\s.h.natAbs<=200000
theorem okU.s {s:Spk} (h:okU s):okS s:=⟨by have:=h.1;omega,by have:=h.2.1;omega,⟨h.2.2.1.1,by have:=h.2.2.1.2;omega⟩,by have:=h.2.2.2;omega⟩
theorem Zt0 {a b:Spk} (D:okU a) (hb:okU b) {u w:Int} (E:u.natAbs<=100000000) (G:w.natAbs<=100000000):okU (HX a b u w):=by
 unfold HX;split
 ·exact⟨by simp,by simp,by simp,by simp⟩
 ·rename_i h;have I:=D.2.2;have J:=hb.2.2
  have L:0<=hf a.r b.r/\hf a.r b.r<=1000000:=by unfold hf;omega
  have M:(hf a.h b.h).natAbs<=200000:=by unfold hf;omega
  obtain⟨⟨-,N⟩,-,O⟩:=Zcv E G (r:=hf a.r b.r) (by omega) h;exact⟨by simp only;omega,by simp only;omega,L,M⟩
theorem Zdw {a b:Spk} (D:okU a) (hb:okU b) {dir:Int} (E:dir=1\/dir= -1) (full:Bool):okU (Fd a b dir full):=
 Zt0 D hb (OK D.s hb.s E full).1 (OK D.s hb.s E full).2
theorem Xz {dir:Int} (E:dir=1\/dir= -1):∀(k:Nat) (full:Bool) {a b:Spk},okU a->okU b->∀s∈Ek dir k full a b,okU s
 |0,_,a,b,_,hb,s,D=>by simp[Ek]at D;subst D;exact hb
 |k+1,full,a,b,G,hb,s,D=>by
  unfold Ek at D;have I:=Zdw G hb E full;split at D
  ·simp at D;subst D;exact hb
  ·rcases bn.1 D with D|D
   ·exact Xz E k false G I s D
   ·exact Xz E k false I hb s D
theorem Z35 {n:Nat} (I:n<=300000000000):0<=F_ n/\F_ n<=1000000:=by
 obtain⟨r,-,D,E,-⟩:=U2 (n:=n) (by omega);have G:=Ty D E;rw[SZ G];have:r<1000000:=by
  by_cases c:r<1000000
  ·exact c
  ·have:=dl (show 1000000<=r by omega) (show 1000000<=r by omega);omega
 split<;>omega
theorem Qj3 {pl:Int} {p:Pt} {b:Nat} (h:bd b p):(plU pl p).natAbs<=b/\(plW pl p).natAbs<=b/\(plH pl p).natAbs<=b:=Ia h
theorem Qpj {it:Itm} {p:Pt} (D:bd 4200 it.ce) (E:bd 4200 p):okU (E3 it p):=by
 obtain⟨M,N,O⟩:=Qj3 (pl:=it.aF) D;obtain⟨S,T,U⟩:=Qj3 (pl:=it.aF) E;have G:(dU it p*16).natAbs<=134400:=by unfold dU;omega
 have I:(dW it p*16).natAbs<=134400:=by unfold dW;omega
 have V:=D6 G;have X:=D6 I;obtain⟨-,-,L,-⟩:=QU (A6 D (by omega)) (A6 E (by omega));obtain⟨n,J⟩:=bv L;refine⟨cg G (by decide),cg I (by decide),?_,?_⟩
 ·show 0<=F_ _/\F_ _<=_;rw[J];refine Z35 ?_;unfold sq2 at J;omega
 ·show(plH it.aF p*16).natAbs<=_;omega
theorem Z4v {it:Itm} {s:Spk} (D:bd 4200 it.ce) (E:okU s):bd B24 (JR it s):=by
 obtain⟨G,I,-⟩:=Qj3 (pl:=it.aF) (FK D);obtain⟨s1,s2,-,J⟩:=E;exact Q7q (by unfold B24;omega) (by unfold B24;omega) (by unfold B24;omega)
theorem Zv5 {it:Itm} (h:Made it) (hf:bd 4084 it.fr):∀p∈CK it,bd B24 p:=by
 have I:=Quo h hf;intro p E;unfold CK at E;split at E
 ·rename_i J;simp only[ba]at E;obtain⟨s,G,rfl⟩:=E;have D:bd 4200 it.ce:=A6 (Qj7 (h.arc J) (by omega) hf).2 (by omega);refine Z4v D ?_;rcases av.1 G with rfl|G
  ·exact Qpj D (A6 hf (by omega))
  ·exact Xz (h.arc J).dir 16 _ (Qpj D (A6 hf (by omega))) (Qpj D (A6 I (by omega))) s G
 ·simp at E;rcases E with rfl|rfl
  ·exact A6 (FK hf) (by decide)
  ·exact A6 (FK I) (by decide)
def Va (n:Nat) (g:Sgm):Prop:=bd B24 g.to/\0<=g.item/\g.item<n/\i64 g.lead
theorem Q6z {n:Nat} {item feed lead:Int} (G:0<=item/\item<n) (J:i64 lead):∀(D:List Pt) (s:List Sgm×Int×Pt),(∀p∈D,bd B24 p)->(∀g∈s.1,Va n g)->∀g∈(D.foldl (Bf item feed lead) s).1,Va n g
 |[],s,_,h=>h
 |q::D,s,L,h=>by
  rw[List.foldl_cons];refine Q6z G J D _ (λp I=>L p (by simp[I])) ?_;unfold Bf;split
  ·exact h
  ·intro g E;simp only[bn,dg]at E;rcases E with E|rfl
   ·exact h g E
   ·exact⟨L q (by simp),G.1,G.2,J⟩
structure PIn (n : Nat) (s : BSt) : Prop where
 start:bd B24 s.start
 aE:∀g∈s.aE,Va n g
 aC:∀m∈s.aC,0<=m.item/\m.item<n/\i64 m.at_
theorem Zw2 {items:List Itm} {i:Nat} {frm:Int} (G:drawn (itA items i)) (hf:Md items i frm) (E:∀k<items.length,AF (itA items k)->drawn (itA items k)) (I:∀p∈CK (itA items i),bd B24 p):∀p∈C4 items i frm,bd B24 p:=by
 unfold C4;by_cases M:smI (itA items i)
 ·rw[aa M];intro p D;rcases bn.1 D with D|D
  ·rcases bn.1 D with D|D
   ·unfold Jx at D;rcases hf with rfl|⟨f,rfl,N,J⟩
    ·rw[ab (by omega)]at D;exact I p (df D)
    ·rw[aa (by omega)]at D;exact(LP (items:=items) (i:=(f:Int).toNat) (k:=i) (by simpa using J) G).1 p (de D)
   ·simp at D;subst D;exact LK G.1.2.1 G.1.2.2.1
  ·unfold Na at D;by_cases h:0<=Cq items i
   ·rw[aa h]at D;obtain⟨k,O,S,L⟩:=Vc E h;exact(LP (items:=items) (i:=i) (k:=(Cq items i).toNat) G (by rw[O];simpa using L)).1 p (df D)
   ·rw[ab h]at D;exact I p (de D)
 ·rw[ab M];exact I
theorem Z58 {it:Itm} (hf:it.kind=1\/1<=it.feed/\it.feed<=60000000):i64 (O5 it):=by
 unfold O5;split
 ·rename_i h;unfold syI at h;unfold mn i64;split<;>omega
 ·unfold i64;omega
theorem Zp3 {items:List Itm} {i:Nat} {s:BSt} (M:i<items.length) (T:items.length<=15) (D:∀j<items.length,¬B5 (itA items j)) (N:∀j<items.length,AF (itA items j)->∀p∈CK (itA items j),bd B24 p) (J:BOK items i s) (h:PIn items.length s):PIn items.length (Eg items i s):=by
 have I:∀k<items.length,AF (itA items k)->drawn (itA items k):=λk S E=>(LU (D k S) E).1;have L:=Zbc M D J;have hlen:=J.len;have G:=L.len;unfold Eg at G⊢;by_cases E:AF (itA items i)
 ·rw[aa E]at G⊢;have O:=I i M E;refine⟨?_,Q6z ⟨by omega,by omega⟩ (Z58 (LU (D i M) E).2) _ _ (Zw2 O J.frm I (N i M E)) h.aE,?_⟩
  ·show bd B24 (if s.begun=true then s.start else Az (itA items i).fr);split
   ·exact h.start
   ·exact FK O.1.2.1
  ·intro m E;simp only[bn,dg]at E;rcases E with E|rfl
   ·exact h.aC m E
   ·refine⟨by simp only;omega,by simp only;omega,?_⟩;simp only at G⊢;unfold i64;omega
 ·rw[ab E];refine⟨h.start,h.aE,?_⟩;intro m E;simp only[bn,dg]at E;rcases E with E|rfl
  ·exact h.aC m E
  ·refine⟨by simp only;omega,by simp only;omega,?_⟩;simp only;unfold i64;omega
theorem Q1w {items:List Itm} (G:items.length<=15) (D:∀j<items.length,¬B5 (itA items j)) (E:∀j<items.length,AF (itA items j)->∀p∈CK (itA items j),bd B24 p):∀i,i<=items.length->PIn items.length (Au items i)
 |0,_=>by rw[Au];exact⟨by unfold bd;simp,λg h=>(by cases h),λg h=>(by cases h)⟩
 |i+1,I=>by rw[Au];exact Zp3 (by omega) G D E (OC D i (by omega)) (Q1w G D E i (by omega))
theorem Zs7 {items:List Itm} (I:items.length<=15) (J:Dm items=0) (E:∀j<items.length,AF (itA items j)->∀p∈CK (itA items j),bd B24 p):bd B24 (AU items).start/\(∀g∈(AU items).aE,Va items.length g)/\(∀m∈(AU items).aC,0<=m.item/\m.item<items.length/\i64 m.at_)/\(AU items).aC.length=items.length:=by
 have D:=(No J).2;have G:=Q1w I D E items.length (co _);exact⟨G.start,G.aE,G.aC,(OC D items.length (co _)).aC⟩
theorem Zoh {items:List Itm} (M:items.length<=15) (J:Dm items=0):i64 (JI items):=by
 have G:=VN M J;have S:=Qpn (UC G.start G.aE);have E:=G.count;have D:=(No J).2;have L:i64 (Ay (AU items).aE):=by unfold i64;omega
 unfold JI;split
 ·rename_i i e;split
  ·rename_i c;obtain⟨N,-,-⟩:=ZE e;have O:AF (itA items i):=⟨by have:=c.1.1;omega,by have:=c.1.1;omega⟩;obtain⟨I,-⟩:=LU (D i N) O;have:=IL (A6 (LK I.1.2.1 I.1.2.2.1) (by decide)) (A6 (FK I.1.2.2.1) (by decide));unfold i64;omega
  ·exact L
 ·exact L
theorem T1 (n D E:Int):Hm [I n,I D,I E]=some [B (decide (D<=n/\n<=E))]:=by
 show Qbl [I n,I D,I E]=_;rw[Ze3];by_cases G:D<=n<;>by_cases J:n<=E<;>simp[G,J]
theorem Zh3 {M:Fn} (J:∀n L D:Int,M [I n,I L,I D]=some [B (decide (L<=n/\n<=D))]) {a:Axs} (h:AxOK a) (E:a.pitch≠[]):
  ∃o,Al (ZY M) (.view Aa (a.pitch.map Ao)::I a.pitch.length::I 0::Bz a)=some o/\o.1=2:=by
 have U:=h.spacing E;refine(?_:Out (λo:Nat×List AC=>o.1=2) _);refine Cl (λi:Nat=> .view Aa (a.pitch.map Ao)::I a.pitch.length::I (i:Int)::Bz a) (λi=>i<=a.pitch.length) (λi=>a.pitch.length-i) _ ?_ 0 (by simp);intro i D;have hc:=h.count;rw[Znu];dsimp only[jA,gA,bA,wA];have N:∀j:Nat,j<a.pitch.length->Af (nth .dead (nth [] (a.pitch.map Ao) j) 0)=a.pitch.getD j 0:=λj O=>by
  have e:nth [] (a.pitch.map Ao) j=Ao a.pitch[j]:=by
   rw[Ht [] (a.pitch.map Ao) j (by rw[af];exact O),List.getElem_map]
  rw[e,List.getD,ah O];rfl
 refine .cond (λk=> ?_) λ_=> .some (.inr ⟨by simp,rfl⟩);have k:(i:Int)<(a.pitch.length:Int):=Bb k;have S:((a.pitch.map Ao).length:Int)=a.pitch.length:=by rw[af]
 refine .cond (λ_=> ?_) λe=>(inB (by omega) (by rw[S];exact k) e).elim;have V: -4096<=a.pitch.getD i 0/\a.pitch.getD i 0<=4096:=by
  refine h.pitch.1 _ ?_;rw[List.getD,ah (by omega)];exact bm _
 rw[aj,N i (by omega),J];simp only[ag,gA,wA,bA,jA,Dc,C_];rw[al V];refine .cond (λe=>by cases e) λ_=> ?_;have T:∀{x:List AC},x= .view Aa (a.pitch.map Ao)::I a.pitch.length::I ((i:Int)+1)::Bz a->Out (λo:Nat×List AC=>(o.1=0/\∃G:Nat,o.2= .view Aa (a.pitch.map Ao)::I a.pitch.length::I (G:Int)::Bz a/\G<=a.pitch.length/\a.pitch.length-G<a.pitch.length-i)\/(o.1≠0/\o.1=2)) (some (0,x)):=λe=>
  .some (.inl ⟨rfl,i+1,by rw[e];rfl,by omega,by omega⟩)
 rw[Ae (x:=(i:Int)+1) (by omega)];refine .cond (λg=> ?_) λ_=>T rfl;have g:(i:Int)>0:=Bb g;rw[Ae (x:=(i:Int)-1) (by omega)];refine .cond (λ_=> ?_) λe=>(inB (by omega) (by rw[S];omega) e).elim;obtain⟨j,rfl⟩:∃j:Nat,i=j+1:=⟨i-1,by omega⟩;have hd:=h.pitch.2 j (by omega);have X: -4096<=a.pitch.getD j 0/\a.pitch.getD j 0<=4096:=by
  refine h.pitch.1 _ ?_;rw[List.getD,ah (by omega)];exact bm _
 have Y:(((j+1:Nat):Int)-1).toNat=j:=by omega
 rw[Y,N j (by omega),J];simp only[ag,gA,wA,bA,jA,Dc,C_];have q1:a.spacing.tdiv 4=a.spacing/4:=bc (by omega);rw[q1,Ae (x:=a.spacing/4) (by omega),Ae (x:=0-a.spacing/4) (by omega),Ae (x:=a.pitch.getD (j+1) 0-a.pitch.getD j 0) (by omega)];refine .cond (λe=> ?_) λ_=>T rfl;rw[al (show 0-a.spacing/4<=a.pitch.getD (j+1) 0-a.pitch.getD j 0/\a.pitch.getD (j+1) 0-a.pitch.getD j 0<=a.spacing/4 by omega)]at e;cases e
theorem Z9t {M:Fn} {N:Lp} (E:∀n G J:Int,M [I n,I G,I J]=some [B (decide (G<=n/\n<=J))]) {a:Axs} (h:AxOK a)
  (O:a.pitch≠[]->∃o,N (.view Aa (a.pitch.map Ao)::I a.pitch.length::I 0::Bz a)=some o/\o.1=2):ZG M N (Bz a)=some [B true]:=by
 have L:=h.spacing;have U:=h.origin;have V:=h.count
 rw[Zkq];by_cases e:a.pitch=[]
 ·rw[e];rfl
 ·have X:0<a.pitch.length:=List.length_pos_iff.2 e;obtain⟨o,S,T⟩:=O e;have L:=L e;have D:N [.view Aa (a.pitch.map Ao),I (a.pitch.map Ao).length,I 0,I a.step,I a.speed,I a.accel,I a.jerk,I a.low,I a.high,I a.back,I a.origin,I a.spacing, .view Aa (a.pitch.map Ao)]=some o:=by rw[af];exact S
  rw[Bn (by rw[af];simp;omega),Bn (by rw[af];simp;omega),E,E,D];simp only[ag,gA,wA,bA,jA,Dc,C_];rw[al (show-16777216<=a.origin/\a.origin<=16777216 by omega),al (show 4<=a.spacing/\a.spacing<=16777216 by omega),T];rfl
theorem Ztj {a:Axs} (h:AxOK a):Qt (Bz a)=some [B true]:=Z9t T1 h λD=>Zh3 T1 h D
theorem Zle {M N:Fn} (G:∀n D E:Int,N [I n,I D,I E]=some [B (decide (D<=n/\n<=E))]) {a:Axs} (h:AxOK a) (J:M (Bz a)=some [B true]):Qeg M N (Bz a)=some [B true]:=by
 have L:=h.step;have hb:=h.back;obtain⟨O,S,T,U,V,X,Y,l8⟩:=h.lim
 rw[Z7o];simp only[G,ag,Dc,C_];rw[al (show 4<=a.step/\a.step<=4096 by omega),al (show 1<=a.speed/\a.speed<=1048576 by omega),al (show 2<=a.accel/\a.accel<=1048576 by omega),al (show 4<=a.jerk/\a.jerk<=1048576 by omega),al (show a.low>= -16777216 by omega),al (show a.high<=16777216 by omega),al (show a.low<=a.high by omega),al (show 0<=a.back/\a.back<=64 by omega)];simp only[ai];rw[J];rfl
theorem Zgd {a:Axs} (h:AxOK a):QM (Bz a)=some [B true]:=Zle T1 h (Ztj h)
theorem Znv {N:Fn} (G:∀n D E:Int,N [I n,I D,I E]=some [B (decide (D<=n/\n<=E))]) {a:Axs} (h:AxOK a) {q:Int} (J:q.natAbs<=B24):Qjr N (Bz a++[I q])=some [B true]:=by
 obtain⟨-,-,-,-,-,-,L,M⟩:=h.lim;refine Eq.trans (Zif N ..) ?_;rw[G,al (show a.low<=q/\q<=a.high by unfold B24 at J;omega)];rfl
theorem Zkj {a:Axs} (h:AxOK a) {q:Int} (D:q.natAbs<=B24):H7 (Bz a++[I q])=some [B true]:=Znv T1 h D
theorem Zij {M:Fn} {x:Ax3} {p:Pth} (L:bd B24 p.start) (N:∀g∈p.aE,bd B24 g.to) (V:p.aE.length<=1000000):
  Out (λo:Nat×List AC=>o.1=1/\∃D:List Pt,o.2= .view kPt (D.map ptR)::AM x/\(∀q∈D,bd B24 q)/\D.length<=1000001) (Al (Qs M) (.view kPt [ptR p.start]:: .view Ah (p.aE.map Av)::I (p.aE.map Av).length::I 0::AM x)):=by
 refine Cl (λs:Nat×List Pt=> .view kPt (s.2.map ptR):: .view Ah (p.aE.map Av)::I (p.aE.map Av).length::I (s.1:Int)::AM x) (λs=>s.1<=p.aE.length/\(∀q∈s.2,bd B24 q)/\s.2.length=s.1+1) (λs=>p.aE.length-s.1) _ ?_ (0,[p.start]) ⟨by simp,by simpa using L,rfl⟩;rintro⟨i,D⟩ ⟨O,J,S⟩;dsimp only at O J S;refine Out.eqv (Zt6 M ..) ?_;have G:((p.aE.map Av).length:Int)=p.aE.length:=by rw[af]
 refine .cond (λk=> ?_) λ_=> .some (.inr ⟨by simp,rfl,D,rfl,J,by omega⟩);have k:(i:Int)<((p.aE.map Av).length:Int):=Bb k;rw[G]at k;refine .cond (λ_=> ?_) λe=>(inB (by omega) (by rw[G];exact k) e).elim;have T:nth [] (p.aE.map Av) (i:Int).toNat=Av p.aE[i]:=by
  rw[aj,Ht [] _ i (by rw[af];omega),List.getElem_map]
 rw[T];have U:=N _ (bm (show i<p.aE.length by omega));refine .cond (λ_=> ?_) λe=>by rw[Cy (by simp;omega)]at e;cases e
 refine .some (.inl ⟨rfl,(i+1,D++[p.aE[i].to]),?_,⟨by dsimp only;omega,?_,by simp;omega⟩,by dsimp only;omega⟩)
 ·rw[Ae (x:=(i:Int)+1) (by omega),bz];rfl
 ·intro q E;dsimp only at E;simp only[bn,dg]at E;rcases E with E|rfl
  ·exact J q E
  ·exact U
theorem Zrh {M:Fn} {L:Lp} (G:∀{a:Axs} {q:Int},AxOK a->q.natAbs<=B24->M (Bz a++[I q])=some [B true]) {x:Ax3} (J:Ax3M x) {D:List Pt} (N:∀q∈D,bd B24 q) (V:D.length<=1000001):
  Out (λo:Nat×List AC=>o.1=2) (Al (UO M L) (.view kPt (D.map ptR)::I (D.map ptR).length::I 0::AM x)):=by
 refine Cl (λi:Nat=> .view kPt (D.map ptR)::I (D.map ptR).length::I (i:Int)::AM x) (λi=>i<=D.length) (λi=>D.length-i) _ ?_ 0 (by simp);intro i X;refine Out.eqv (Zw7 M L ..) ?_;have E:((D.map ptR).length:Int)=D.length:=by rw[af]
 refine .cond (λk=> ?_) λ_=> .some (.inr ⟨by simp,rfl⟩);have k:(i:Int)<((D.map ptR).length:Int):=Bb k;rw[E]at k;refine .cond (λ_=> ?_) λe=>(inB (by omega) (by rw[E];exact k) e).elim;have O:nth [] (D.map ptR) (i:Int).toNat=ptR D[i]:=by
  rw[aj,Ht [] _ i (by rw[af];omega),List.getElem_map]
 rw[O];obtain⟨S,T,U⟩:=N _ (bm (show i<D.length by omega));refine .bind (p:=λo=>o=[B true]) ⟨_,G J.a S,rfl⟩ λo e=> ?_;subst e;refine .cond (λe=>by cases e) λ_=> ?_;refine .bind (p:=λo=>o=[B true]) ⟨_,G J.b T,rfl⟩ λo e=> ?_;subst e;refine .cond (λe=>by cases e) λ_=> ?_;refine .bind (p:=λo=>o=[B true]) ⟨_,G J.c U,rfl⟩ λo e=> ?_;subst e;refine .cond (λe=>by cases e) λ_=> ?_;exact .some (.inl ⟨rfl,i+1,by rw[Ae (x:=(i:Int)+1) (by omega)];rfl,by omega,by omega⟩)
theorem Zq1 {M:Fn} {N3 N8:Lp} {x:Ax3} {p:Pth}
  (J:Out (λo:Nat×List AC=>o.1=1/\∃D:List Pt,o.2= .view kPt (D.map ptR)::AM x/\(∀q∈D,bd B24 q)/\D.length<=1000001) (N3 (.view kPt [ptR p.start]:: .view Ah (p.aE.map Av)::I (p.aE.map Av).length::I 0::AM x)))
  (L:∀{D:List Pt},(∀q∈D,bd B24 q)->D.length<=1000001->Out (λo:Nat×List AC=>o.1=2) (N8 (.view kPt (D.map ptR)::I (D.map ptR).length::I 0::AM x))):
  Out (λo=>o=[B true]) (ZB M N3 N8 (AM x++Br p)):=by
 refine Out.eqv (Zte M N3 N8 ..) ?_;refine .bind J λo q=> ?_;obtain⟨o1,o2⟩:=o;obtain⟨E,D,G,N,O⟩:=q;dsimp only at E G;subst E G;refine .cond (λ_=> ?_) λe=>by cases e
 refine .bind (L N O) λo q=> ?_;rw[q];exact .some rfl
theorem Zeo {x:Ax3} {p:Pth} (D:Ax3M x) (E:bd B24 p.start) (G:∀g∈p.aE,bd B24 g.to) (I:p.aE.length<=1000000):P7 (AM x++Br p)=some [B true]:=by
 obtain⟨o,h,rfl⟩:=Zq1 (M:=H7) (N3:=Al (Qs H7)) (N8:=Al (UO H7 (Al (Qs H7)))) (Zij (x:=x) E G I) (λJ L=>Zrh (λN O=>Zkj N O) D J L);exact h
theorem Z6t:∃v:Int,FE [I 30000]=some [I v]/\60000<=v:=by
 have key:∀{M:Fn} {v:Int},M [I 30000,I 1048576,I 60000,I 2]=some [I v,B true]->Tz M [I 30000]=some [I v]:=λh=>by
  rw[Q24,h];rfl
 refine⟨_,key (Tw (by unfold i64;omega) (by unfold i64;omega) (by omega) (by decide)),?_⟩;unfold Bw;omega
theorem Znc {D E G:Fn} {x:Ax3} (J:Ax3M x) {pa pb pc ramp lag:Int} (U:Plan3 pa pb pc) (M:1<=ramp/\ramp<=60000) (N:0<=lag/\lag<=40)
  (L:∀{a:Axs},AxOK a->G (Bz a)=some [B true]) (O:E [I pa,I pb,I pc]=some [B true]) (S:∃v:Int,D [I 30000]=some [I v]/\60000<=v):Out (λo=>o=[B true]) (Wq D E G (AM x++[I pa,I pb,I pc,I ramp,I lag])):=by
 refine Out.eqv (Zy9 D E G ..) ?_;refine .bind (p:=λo=>o=[B true]) ⟨_,L J.a,rfl⟩ λo e=> ?_;subst e;refine .cond (λe=>by cases e) λ_=> .bind (p:=λo=>o=[B true]) ⟨_,L J.b,rfl⟩ λo e=> ?_;subst e;refine .cond (λe=>by cases e) λ_=> .bind (p:=λo=>o=[B true]) ⟨_,L J.c,rfl⟩ λo e=> ?_;subst e;refine .cond (λe=>by cases e) λ_=> .bind (p:=λo=>o=[B true]) ⟨_,O,rfl⟩ λo e=> ?_;subst e;obtain⟨v,T,V⟩:=S;refine .cond (λ_=> .cond (λ_=> ?_) λe=>absurd M.1 (Bs e)) λe=>by cases e
 refine .bind (p:=λo=>o=[I v]) ⟨_,T,rfl⟩ λo e=> ?_;subst e;refine .cond (λ_=> .cond (λ_=> ?_) λe=>absurd N.1 (Bs e)) λe=>absurd (show ramp<=v by omega) (Bs e);exact .some (by rw[al (show lag<=1048576 by omega)])
theorem Zyp {x:Ax3} (E:Ax3M x) {pa pb pc ramp lag:Int} (D:Plan3 pa pb pc) (G:1<=ramp/\ramp<=60000) (J:0<=lag/\lag<=40):Ro (AM x++[I pa,I pb,I pc,I ramp,I lag])=some [B true]:=by
 have L:FD [I pa,I pb,I pc]=some [B true]:=by rw[QN,al (show 1<=pa/\pa<=65536/\2<=pb/\pb<=65536/\1<=pc/\pc<=16777216 from⟨D.a.1,D.a.2,D.b.1,D.b.2,D.c.1,D.c.2⟩)]
 obtain⟨o,h,rfl⟩:=Znc E D G J Zgd L Z6t;exact h
theorem Z1f {x:Ax3} (M:Ax3M x) (D E G J L:Int):Ql (AM x++[I D,I E,I G,I J,I L])=some (AM x++[I D,I E,I G,I J,I L]):=by
 have N:=M.a.count;have hb:=M.b.count;have O:=M.c.count
 have key:Qbd (AM x++[I D,I E,I G,I J,I L])=some (AM x++[I D,I E,I G,I J,I L]):=by
  refine Eq.trans (Zdu ..) ?_;rw[Cy (by rw[af];omega),Cy (by rw[af];omega),Cy (by rw[af];omega)];rfl
 exact key
abbrev Qz5 (K:Kf):Kf:=⟨K.x,K.pa,K.pb,K.pc,K.ramp,K.lag,[],false,⟨⟨0,0,0⟩,[],[]⟩,0,0,⟨[],0,0,⟨0,0,0⟩⟩⟩
abbrev Yc (K:Kf):Kf:=⟨K.x,K.pa,K.pb,K.pc,K.ramp,K.lag,K.items,K.closed,K.p,K.len,K.set,⟨[],0,0,⟨0,0,0⟩⟩⟩
abbrev Cb:Cv:=⟨0,0,0,0,0,0,100,100,false,false,false,0,0,-1,1,0,0,0,0,0,0,0,0,false,0,false,0,false,0,-1,0,0,0,0,0,0,0,false,false,false⟩
noncomputable abbrev kfP (x:Ax3) (pa pb pc ramp lag:Int) (items:List Itm) (closed:Bool):Kf:=⟨x,pa,pb,pc,ramp,lag,items,closed,AU items,Ay (AU items).aE,JI items,AR (AU items) x ⟨1,1,1⟩ 0 (Ay (AU items).aE)⟩
theorem Ztk {E G J L:Fn} {K:Kf} (X:K.items.length<=15) (i0:List Itm) (M:Bool) (N:Pth) (O s0:Int) (D:Trk) (c:Cv)
  (S:L [.view Ai (K.items.map Ag)]=some (Br K.p++[I 0])) (T:J (AM K.x++Br K.p)=some [B true]) (U:G (Br K.p)=some [I K.len]) (V:E [.view Ai (K.items.map Ag)]=some [I K.set]):
  QD E G J L (.view Ai (K.items.map Ag)::B K.closed::Ab ⟨K.x,K.pa,K.pb,K.pc,K.ramp,K.lag,i0,M,N,O,s0,D⟩ c)=some (I 0::Ab ⟨K.x,K.pa,K.pb,K.pc,K.ramp,K.lag,K.items,K.closed,K.p,K.len,K.set,D⟩ c):=by
 have key:Out (λo=>o=I 0::Ab ⟨K.x,K.pa,K.pb,K.pc,K.ramp,K.lag,K.items,K.closed,K.p,K.len,K.set,D⟩ c) (QD E G J L (.view Ai (K.items.map Ag)::B K.closed::Ab ⟨K.x,K.pa,K.pb,K.pc,K.ramp,K.lag,i0,M,N,O,s0,D⟩ c)):=by
  refine Out.eqv (Zha E G J L _ _ ⟨K.x,K.pa,K.pb,K.pc,K.ramp,K.lag,i0,M,N,O,s0,D⟩ c) ?_;refine .bind (p:=λo=>o=_) ⟨_,S,rfl⟩ λo e=> ?_;subst e;refine .cond (λe=>by cases e) λ_=> ?_;refine .bind (p:=λo=>o=_) ⟨_,T,rfl⟩ λo e=> ?_;subst e;refine .cond (λe=>by cases e) λ_=> .cond (λ_=> ?_) λe=>by rw[Cy (by rw[af];omega)]at e;cases e
  refine .bind (p:=λo=>o=_) ⟨_,U,rfl⟩ λo e=> ?_;subst e;refine .bind (p:=λo=>o=_) ⟨_,V,rfl⟩ λo e=> ?_;subst e;exact .some rfl
 obtain⟨o,h,rfl⟩:=key;exact h
theorem Zdi {D E G J:Fn} {K:Kf} (L:K.items.length<=15) (c:Cv)
  (M:J [.view Ai (K.items.map Ag)]=some (Br K.p++[I 0])) (N:G (AM K.x++Br K.p)=some [B true]) (O:E (Br K.p)=some [I K.len]) (S:D [.view Ai (K.items.map Ag)]=some [I K.set]):
  QD D E G J (.view Ai (K.items.map Ag)::B K.closed::Ab (Qz5 K) c)=some (I 0::Ab (Yc K) c):=
 Ztk L [] false ⟨⟨0,0,0⟩,[],[]⟩ 0 0 ⟨[],0,0,⟨0,0,0⟩⟩ c M N O S
theorem Zs8 {G J D E L M N:Fn} {K:Kf}
  (O:N (AM K.x++[I K.pa,I K.pb,I K.pc,I K.ramp,I K.lag])=some [B true]) (S:M (AM K.x++[I K.pa,I K.pb,I K.pc,I K.ramp,I K.lag])=some (AM K.x++[I K.pa,I K.pb,I K.pc,I K.ramp,I K.lag]))
  (T:L []=some [I 100,I 100,B false,B false,B false]) (U:E []=some [I 0,I 0,I (-1)])
  (V:D (.view Ai (K.items.map Ag)::B K.closed::Ab (Qz5 K) Cb)=some (I 0::Ab (Yc K) Cb))
  (X:J (Br K.p++AM K.x++[I 1,I 1,I 1,I 0,I K.len])=some (A8 K.t)) (Y:G [I 0]=some [I 0,I 0,I 0,I 0,I 0,I 0]):
  SU G J D E L M N (AM K.x++[I K.pa,I K.pb,I K.pc,I K.ramp,I K.lag]++[.view Ai (K.items.map Ag),B K.closed])=some (I 0::Ab K Cb):=by
 have key:Out (λo=>o=I 0::Ab K Cb) (SU G J D E L M N (AM K.x++[I K.pa,I K.pb,I K.pc,I K.ramp,I K.lag]++[.view Ai (K.items.map Ag),B K.closed])):=by
  refine Out.eqv (Zeb G J D E L M N ..) ?_;refine .bind (p:=λo=>o=_) ⟨_,O,rfl⟩ λo e=> ?_;subst e;refine .cond (λe=>by cases e) λ_=> ?_;refine .bind (p:=λo=>o=_) ⟨_,S,rfl⟩ λo e=> ?_;subst e;refine .bind (p:=λo=>o=_) ⟨_,T,rfl⟩ λo e=> ?_;subst e;refine .bind (p:=λo=>o=_) ⟨_,U,rfl⟩ λo e=> ?_;subst e;refine .bind (p:=λo=>o=I 0::Ab (Yc K) Cb) ⟨_,V,rfl⟩ λo e=> ?_;subst e;refine .cond (λe=>by cases e) λ_=> ?_;refine .bind (p:=λo=>o=_) ⟨_,X,rfl⟩ λo e=> ?_;subst e;refine .bind (p:=λo=>o=_) ⟨_,Y,rfl⟩ λo e=> ?_;subst e;exact .some (by kernel_rfl)
 obtain⟨o,h,rfl⟩:=key;exact h
structure MachOK (x : Ax3) (pa pb pc ramp lag : Int) : Prop where
 x:Ax3M x
 plan:Plan3 pa pb pc
 ramp:1<=ramp/\ramp<=60000
 lag:0<=lag/\lag<=40
theorem Z47 {x:Ax3} {pa pb pc ramp lag:Int} (D:MachOK x pa pb pc ramp lag) {items:List Itm} (J:items.length<=15) (L:Dm items=0) (N:∀j<items.length,AF (itA items j)->∀p∈CK (itA items j),bd B24 p) (O:∀it∈items,it.kind=8->i64 it.speed) (closed:Bool):
  Gw (AM x++[I pa,I pb,I pc,I ramp,I lag]++[.view Ai (items.map Ag),B closed])=some (I 0::Ab (kfP x pa pb pc ramp lag items closed) Cb)/\KOK (kfP x pa pb pc ramp lag items closed):=by
 have E:=VN J L;obtain⟨i1,T,U,i4⟩:=Zs7 J L N;have hs:=Qpn (UC E.start E.aE);have M:=E.count;refine⟨?_,?_⟩
 ·have V:NM [.view Ai (items.map Ag)]=some (Br (AU items)++[I 0]):=by rw[Zsj J,aa L]
  have X:NP [.view Ai (items.map Ag)]=some [I (JI items)]:=by rw[Znz J,aa L]
  have Y:=Zeo D.x i1 (λg h=>(T g h).1) (by omega);have hT:=Q8s (d:=⟨1,1,1⟩) (from_:=0) (to:=Ay (AU items).aE) E D.x.ok;have G:=Zdi (K:=kfP x pa pb pc ramp lag items closed) J Cb V Y (Q78 E.ok) X;have hO:Qi []=some [I 100,I 100,B false,B false,B false]:=by show Qfu []=_;rw[Z2z]
  have hG:Kq []=some [I 0,I 0,I (-1)]:=by show PR []=_;rw[W3]
  have S:Hw [I 0]=some [I 0,I 0,I 0,I 0,I 0,I 0]:=Qb9 0;exact Zs8 (K:=kfP x pa pb pc ramp lag items closed) (Zyp D.x D.plan D.ramp D.lag) (Z1f D.x ..) hO hG G hT S
 ·refine⟨⟨E,D.x,Qx1 _ _ _ D.x.ok E⟩,D.plan,λg h=>(T g h).2,U,?_,?_,?_,Zoh J L⟩
  ·show(AU items).aC.length<=1000000;omega
  ·exact O
  ·show i64 (Ay (AU items).aE);unfold i64;omega
theorem Qph {x:Ax3} {pa pb pc ramp lag:Int} (D:MachOK x pa pb pc ramp lag) {items:List Itm} (J:items.length<=15) {L:Pt} (E:Items 4084 L items) (closed:Bool):
  Gw (AM x++[I pa,I pb,I pc,I ramp,I lag]++[.view Ai (items.map Ag),B closed])=some (I 0::Ab (kfP x pa pb pc ramp lag items closed) Cb)/\KOK (kfP x pa pb pc ramp lag items closed):=
 Z47 D J (Q5q (by omega) E (show items.length <= 20000 by omega)) (λj M D => by
  rcases E.made _ (Qrd M)with⟨-,g2,-,N,-⟩|g
  ·exact Zv5 g2 N
  ·exact absurd D (NU g)) (λit G O=>by
  rcases E.made it G with⟨-,-,g,-⟩|g
  ·rw[g.2.2.2.1];unfold i64;omega
  ·have:=g.spin O;unfold i64;omega) closed
end Go.Bm
namespace Go.Bm
structure Evn where
 (cycle kind n:Int)
abbrev evR (e:Evn):List AC:=[I e.cycle,I e.kind,I e.n]
structure EvOK (e : Evn) : Prop where
 kind:1<=e.kind/\e.kind<=13
 n: -5<=e.n/\e.n<=4194304
theorem Qfs (E:List Evn) {i:Nat} (h:i<E.length):nth [] (E.map evR) (i:Int).toNat=evR E[i]:=by
 rw[aj,Ht [] _ i (by rw[af];exact h),List.getElem_map]
theorem Zim {α:Type} (P:α->Bool) (E:List α) {i:Nat} (h:i<E.length):(E.take (i+1)).filter P=(E.take i).filter P++(if P E[i]=true then [E[i]]else []):=by
 rw[List.take_add_one,List.filter_append,ah h];congr 1;by_cases c:P E[i]=true
 ·rw[aa c];simp[c]
 ·rw[ab c];simp[c]
theorem Zmv {P:Evn->Bool} {E:List Evn} (J:E.length<=1000000) {D:Lp} {enc:Rw->Nat->List AC}
  (G:∀(l:Rw) (i:Nat),i<=E.length->l.length<=i->D (enc l i)=if h:i<E.length then some (0,enc (l++(if P E[i]=true then [evR E[i]]else [])) (i+1))else some (1,[.view kPt l])):
  Al D (enc [] 0)=some (1,[.view kPt ((E.filter P).map evR)]):=by
 have key:Out (λo=>o=(1,[.view kPt ((E.filter P).map evR)])) (Al D (enc [] 0)):=by
  refine Cl (λi:Nat=>enc (((E.take i).filter P).map evR) i) (λi=>i<=E.length) (λi=>E.length-i) _ ?_ 0 (by simp);intro i I;rw[G _ _ I (by rw[af];exact cg (List.length_filter_le _ _) (by simp;omega))];by_cases h:i<E.length
  ·rw[dif_pos h];refine .some (.inl ⟨rfl,i+1,?_,by omega,by omega⟩);rw[Zim P E h];by_cases c:P E[i]=true
   ·rw[aa c,aa c,bz];rfl
   ·rw[ab c,ab c,List.append_nil,List.append_nil]
  ·rw[dif_neg h];refine .some (.inr ⟨by simp,?_⟩);rw[List.take_of_length_le (by omega)]
 obtain⟨o,h,rfl⟩:=key;exact h
theorem Za9 {E:List Evn} (D:E.length<=1000000) (k:Int):J2 [.view kPt (E.map evR),I k]=some [.view kPt ((E.filter λe=>e.cycle==k).map evR)]:=by
 have G:Al TF [.view kPt [],I k, .view kPt (E.map evR),I E.length,I ((0:Nat):Int)]=some (1,[.view kPt ((E.filter λe=>e.cycle==k).map evR)]):=by
  refine Zmv (P:=λe=>e.cycle==k) D (enc:=λl i=>[.view kPt l,I k, .view kPt (E.map evR),I E.length,I (i:Int)]) λl i L J=> ?_;rw[Zox];by_cases h:i<E.length
  ·rw[dif_pos h,BO (by simp;omega),BO (by simp;omega),Qfs E h,Ae (x:=(i:Int)+1) (by omega)];by_cases c:(E[i].cycle==k)=true
   ·rw[BO (show(gA (evR E[i]) 0==k)=true from c),Cy (by simp;omega),aa c];rfl
   ·rw[Bn (show(gA (evR E[i]) 0==k)=false from Bool.eq_false_iff.2 c),ab c,List.append_nil];rfl
  ·rw[dif_neg h,Bn (by simp;omega)]
 show Qgw (Al TF) [.view kPt (E.map evR),I k]=_;rw[Zi3,af];rw[show(0:Int)=((0:Nat):Int)from rfl,G];rfl
theorem Z8m {M:Fn} {l:Rw} (E:Hf l M) (cycle:Int) (k:Nat):
  ∃(e:Evn) (k':Nat),X7 M [I cycle, .view Aa l,I k]=some (evR e++[.view Aa l,I k'])/\EvOK e/\k<=k':=by
 obtain⟨v,D,O,v0,X,Y,-⟩:=E k (n:=15) (by omega);rw[Zl6,O];simp only[ag,Rz,gA,wA,bA,jA,Dc,ES,D5,BZ];have all:∀(n:Nat),n<15->∃kind:Int,nth [] [[I 4],[I 1],[I 2],[I 3],[I 4],[I 5],[I 6],[I 7],[I 4],[I 8],[I 9],[I 11],[I 12],[I 13],[I 10]] n=[I kind]/\1<=kind/\kind<=13:=by
  intro n J
  match n,J with
  |0,_=>exact⟨4,rfl,by omega⟩
  |1,_=>exact⟨1,rfl,by omega⟩
  |2,_=>exact⟨2,rfl,by omega⟩
  |3,_=>exact⟨3,rfl,by omega⟩
  |4,_=>exact⟨4,rfl,by omega⟩
  |5,_=>exact⟨5,rfl,by omega⟩
  |6,_=>exact⟨6,rfl,by omega⟩
  |7,_=>exact⟨7,rfl,by omega⟩
  |8,_=>exact⟨4,rfl,by omega⟩
  |9,_=>exact⟨8,rfl,by omega⟩
  |10,_=>exact⟨9,rfl,by omega⟩
  |11,_=>exact⟨11,rfl,by omega⟩
  |12,_=>exact⟨12,rfl,by omega⟩
  |13,_=>exact⟨13,rfl,by omega⟩
  |14,_=>exact⟨10,rfl,by omega⟩
 obtain⟨kind,L,b1,b2⟩:=all v.toNat (by omega);have hlen:([[I 4],[I 1],[I 2],[I 3],[I 4],[I 5],[I 6],[I 7],[I 4],[I 8],[I 9],[I 11],[I 12],[I 13],[I 10]]:Rw).length=15:=rfl;clear all;generalize([[I 4],[I 1],[I 2],[I 3],[I 4],[I 5],[I 6],[I 7],[I 4],[I 8],[I 9],[I 11],[I 12],[I 13],[I 10]]:Rw)=T at*;have S:v<(T.length:Int):=by omega
 simp only[v0,S,decide_true,Bool.and_self,ai,L,Dc,D5];have one:∀(n d:Int),0<n/\n<=1000->0<=d/\d<=5->∃(e:Evn) (k':Nat),((M [I n, .view Aa l,I D]).bind λo=>some [I cycle,I kind,I (wrap .i64 (gA o 0-d)), .view Aa (wA o 1),jA o 2])=some (evR e++[.view Aa l,I k'])/\EvOK e/\k<=k':=λn d J hd=>by
  obtain⟨w,G,g1,w0,N,g2,-⟩:=E D (n:=n) (by omega);rw[g1];refine⟨⟨cycle,kind,w-d⟩,G,?_,⟨⟨b1,b2⟩,by simp only;omega⟩,by omega⟩;simp only[ag,gA,wA,jA,Dc,ES,D5,BZ];rw[Ae (by omega)];rfl
 have two:∀(n:Int),0<n/\n<=1000->∃(e:Evn) (k':Nat),((M [I n, .view Aa l,I D]).bind λo=>some [I cycle,I kind,jA o 0, .view Aa (wA o 1),jA o 2])=some (evR e++[.view Aa l,I k'])/\EvOK e/\k<=k':=λn J=>by
  obtain⟨w,G,g1,w0,N,g2,-⟩:=E D (n:=n) (by omega);rw[g1];exact⟨⟨cycle,kind,w⟩,G,rfl,⟨⟨b1,b2⟩,by simp only;omega⟩,by omega⟩
 cases c1:(kind==1)
 ·cases c2:(kind==2)
  ·cases c3:(kind==5)
   ·cases c4:(kind==6)
    ·cases c5:(kind==7)
     ·cases c6:(kind==8)
      ·cases c7:(kind==13)
       ·exact⟨⟨cycle,kind,0⟩,D,rfl,⟨⟨b1,b2⟩,by simp⟩,by omega⟩
       ·obtain⟨w,G,g1,w0,N,g2,-⟩:=E D (n:=4) (by omega);obtain⟨y,U,V,y0,y1,g4,-⟩:=E G (n:=60) (by omega);simp only[an,ai];rw[g1];simp only[ag,Dc,ES,D5];rw[V];refine⟨⟨cycle,kind,w*1048576+y⟩,U,?_,⟨⟨b1,b2⟩,by simp only;omega⟩,by omega⟩;simp only[ag,Dc,ES,D5];rw[Ae (x:=w*1048576) (by omega),Ae (by omega)];rfl
      ·exact one 5 1 (by omega) (by omega)
     ·exact one 300 5 (by omega) (by omega)
    ·exact two 3 (by omega)
   ·exact two 3 (by omega)
  ·exact one 220 5 (by omega) (by omega)
 ·exact one 220 5 (by omega) (by omega)
theorem Zv3 {ME J L MF:Fn} {l:Rw} (hl:l.length<=100000) (N:Hf l J) (O:∀k:Nat,L [.view Aa l,I k]=some [B (decide (k<l.length)), .view Aa l,I k])
  (S:∀(cycle:Int) (k:Nat),∃(e:Evn) (k':Nat),ME [I cycle, .view Aa l,I k]=some (evR e++[.view Aa l,I k'])/\EvOK e/\k<=k'):
  Out (λo=>∃E:List Evn,o=(1,[.view kPt (E.map evR)])/\E.length<=l.length/\∀e∈E,EvOK e) (Al (Qpf ME J L MF) [.view kPt [],I 0, .view Aa l,I 0]):=by
 refine Cl (λs:List Evn×Int×Nat=>[.view kPt (s.1.map evR),I s.2.1, .view Aa l,I (s.2.2:Int)]) (λs=>(∀e∈s.1,EvOK e)/\s.1.length<=s.2.2/\s.1.length<=l.length) (λs=>l.length-s.2.2) _ ?_ ([],0,0) (by simp);rintro⟨E,cycle,k⟩ ⟨G,T,M⟩;dsimp only at G T M;rw[Zn1,O];simp only[ag,gA,wA,bA,jA,Dc,ES,D5,BZ,C_];by_cases c:k<l.length
 ·rw[al c];obtain⟨v,U,g1,v0,v1,-,g2,-⟩:=N k (n:=40) (by omega);have g2:=g2 c;rw[ai,g1];simp only[ag,Dc,ES,D5];obtain⟨e,V,X,Y,q3⟩:=S (wrap .i64 (cycle+v)) U;rw[X];simp only[ag,aq,ay,Dc,ES,D5];rw[Cy (by simp;omega)];refine .some (.inl ⟨rfl,(E++[e],wrap .i64 (cycle+v),V),?_,⟨?_,by simp;omega,by simp;omega⟩,by dsimp only;omega⟩)
  ·rw[bz];rfl
  ·intro x D;dsimp only at D;rcases bn.1 D with D|D
   ·exact G x D
   ·rw[dg]at D;subst D;exact Y
 ·rw[am c];exact .some (.inr ⟨by simp,E,rfl,M,G⟩)
theorem Zqg {l:Rw} (D:Src l) (J:l.length<=60):∃E:List Evn,KF [.view Aa l]=some [.view kPt (E.map evR)]/\E.length<=60/\∀e∈E,EvOK e:=by
 obtain⟨o,G,E,rfl,L,I⟩:=Zv3 (ME:=Mp) (MF:=CW) (by omega) (HL D) (Quv l) λcycle k=>Z8m (HL D) cycle k;refine⟨E,?_,by omega,I⟩;show Qfa Mp BP Gx CW (Al _) [.view Aa l]=_;rw[Z6q,QF];simp only[ag,gA,wA,bA,jA,Dc,ES,D5,BZ];rw[G];rfl
theorem Zlo {D MF:Fn} {l:Rw} (E:Hf l D) (L:MF [.view Aa l]=some [.view Aa l,I 0]):
  ∃a b c:Int,Vt D MF [.view Aa l]=some [I a,I b,I c]/\(1<=a/\a<=900)/\(2<=b/\b<=201)/\(1<=c/\c<=16000):=by
 obtain⟨v,J,g1,v0,O,-⟩:=E 0 (n:=900) (by omega);obtain⟨w,M,g2,w0,S,-⟩:=E J (n:=200) (by omega);obtain⟨y,T,N,y0,y1,-⟩:=E M (n:=16000) (by omega);have G:D [I 900, .view Aa l,I 0]=some [I v, .view Aa l,I J]:=g1;refine⟨1+v,2+w,1+y,?_,by omega,by omega,by omega⟩;rw[Zyq,L];simp only[ag,gA,wA,bA,jA,Dc,ES,D5,BZ];rw[G];simp only[ag,Dc,ES,D5];rw[g2];simp only[ag,Dc,ES,D5];rw[N];simp only[ag,Dc,ES,D5];rw[Ae (x:=1+v) (by omega),Ae (x:=2+w) (by omega),Ae (x:=1+y) (by omega)]
theorem Zjb {E MP G MF:Fn} {l m:Rw} (J:Hf m E) (L:MF [.view Aa m]=some [.view Aa m,I 0]) {x:Ax3} (M:G [.view Aa l]=some (AM x)) (N:Ax3M x) {a b c:Int} (O:MP [.view Aa m]=some [I a,I b,I c]) (U:1<=a/\a<=900) (V:2<=b/\b<=201) (X:1<=c/\c<=16000) (S:m.length<=100000):
  ∃ramp lag:Int,Ye E MP G MF [.view Aa l, .view Aa m]=some (AM x++[I a,I b,I c,I ramp,I lag])/\MachOK x a b c ramp lag:=by
 obtain⟨k0,D⟩:∃k0:Nat,mn 3 (m.length:Int)=k0:=⟨(mn 3 (m.length:Int)).toNat,by unfold mn;split<;>omega⟩;obtain⟨v,T,g1,v0,Y,-⟩:=J k0 (n:=60000) (by omega);obtain⟨w,k2,g2,w0,w1,-⟩:=J T (n:=40) (by omega);refine⟨1+v,w,?_,⟨N,⟨by omega,by omega,by omega⟩,by omega,by omega⟩⟩;rw[Zyj,L,M,O];simp only[ag,gA,wA,bA,jA,Dc,ES,D5,BZ];rw[D,g1];simp only[ag,Dc,ES,D5];rw[g2];simp only[ag,Dc,ES,D5];rw[Ae (x:=1+v) (by omega)];rfl
theorem Zgf {l m:Rw} (E:Src l) (D:Src m) (G:m.length<=100000):∃(x:Ax3) (a b c ramp lag:Int),Jq [.view Aa l, .view Aa m]=some (AM x++[I a,I b,I c,I ramp,I lag])/\MachOK x a b c ramp lag:=by
 obtain⟨x,J,L⟩:=Zyw E;obtain⟨a,b,c,M,N,O,S⟩:=Zlo (MF:=CW) (HL D) (QF m);obtain⟨ramp,lag,g1,g2⟩:=Zjb (MP:=RM) (MF:=CW) (HL D) (QF m) J L M N O S G;exact⟨x,a,b,c,ramp,lag,g1,g2⟩
theorem Z26 (L:List (Rw)) (D:L.length<=1000):Out (λo=>o.1=1/\o.2=[B false]\/o.1=2/\∀l∈L,l.length<=60) (Al Tj [.view [Kd.sl Aa] (L.map λl=>[.view Aa l]),I L.length,I ((0:Nat):Int)]):=by
 refine Cl (λi:Nat=>[.view [Kd.sl Aa] (L.map λl=>[.view Aa l]),I L.length,I (i:Int)]) (λi=>i<=L.length/\∀l∈L.take i,l.length<=60) (λi=>L.length-i) _ ?_ 0 (by simp);rintro i ⟨J,E⟩;rw[Zy7];refine .cond (λc=> ?_) λc=> .some (.inr ⟨by simp, .inr ⟨rfl,?_⟩⟩)
 ·have c:(i:Int)<(L.length:Int):=Bb c;have G:i<L.length:=by omega
  refine .cond (λ_=> ?_) λe=>(inB (by omega) (by rw[af];exact c) e).elim;rw[aj,Ht [] _ i (by rw[af];exact G),List.getElem_map];refine .cond (λ_=> .some (.inr ⟨by simp, .inl ⟨rfl,rfl⟩⟩)) λq=> ?_;have q: ¬(L[i].length:Int)>60:=Bs q;rw[Ae (x:=(i:Int)+1) (by omega)];refine .some (.inl ⟨rfl,i+1,rfl,⟨by omega,?_⟩,by omega⟩);intro l D;rw[List.take_add_one,ah G]at D;rcases bn.1 D with D|D
  ·exact E l D
  ·simp at D;subst D;omega
 ·have c: ¬(i:Int)<(L.length:Int):=Bs c;rw[List.take_of_length_le (by omega)]at E;exact E
theorem Z2q {L:List (Rw)} (G:L.length<=1000):∃b:Bool,La [.view [Kd.sl Aa] (L.map λl=>[.view Aa l])]=some [B b]/\(b=true->∀l∈L,l.length<=60):=by
 obtain⟨o,I,J⟩:=Z26 L G;have e:La [.view [Kd.sl Aa] (L.map λl=>[.view Aa l])]=Wa (Al Tj) [.view [Kd.sl Aa] (L.map λl=>[.view Aa l])]:=rfl;rw[e,Zyg,af];rw[show(0:Int)=((0:Nat):Int)from rfl,I];obtain⟨o1,o2⟩:=o;rcases J with⟨D,E⟩|⟨D,E⟩
 ·dsimp only at D E;subst D E;exact⟨false,rfl,λh=>by cases h⟩
 ·dsimp only at D E;subst D;exact⟨true,rfl,λ_=>E⟩
theorem Zd2 (a b c d:Rw):∃q:Bool,Lk [.view Aa a, .view Aa b, .view Aa c, .view Aa d]=some [B q]/\(q=true->a.length<=60/\b.length<=60/\c.length<=60/\d.length<=60):=by
 obtain⟨q,G,D⟩:=Z2q (L:=[a,b,c,d]) (by simp);refine⟨q,?_,λh=>⟨D h a (by simp),D h b (by simp),D h c (by simp),D h d (by simp)⟩⟩;show Qoe La _=_;rw[Zx2];have E:La [.view [Kd.sl Aa] [[.view Aa a],[.view Aa b],[.view Aa c],[.view Aa d]]]=some [B q]:=G;rw[E];rfl
abbrev ZQ:Itm:=⟨0,0,⟨0,0,0⟩,⟨0,0,0⟩,0,⟨0,0,0⟩,0,false,0,false,0,0,0,0,0,false⟩
def itK (K:Kf) (i:Int):Itm:=K.items.getD i.toNat ZQ
def mkK (K:Kf) (i:Int):Mrk:=K.p.aC.getD i.toNat ⟨0,0,0⟩
theorem Ii {K:Kf} {i:Int} (D:0<=i) (E:i<K.items.length):nth [] (K.items.map Ag) i.toNat=Ag (itK K i):=by
 have h:i.toNat<K.items.length:=by omega
 rw[Qzh K h];unfold itK;rw[List.getD,ah h];rfl
theorem Lz {K:Kf} {i:Int} (D:0<=i) (E:i<K.p.aC.length):nth [] (K.p.aC.map At) i.toNat=At (mkK K i):=by
 have h:i.toNat<K.p.aC.length:=by omega
 rw[Z2y K h];unfold mkK;rw[List.getD,ah h];rfl
theorem UJ {K:Kf} (h:KOK K) {i:Int} (E:0<=i) (G:i<K.p.aC.length):0<=(mkK K i).item/\(mkK K i).item<K.items.length/\i64 (mkK K i).at_:=by
 have D:i.toNat<K.p.aC.length:=by omega
 unfold mkK;rw[List.getD,ah D];exact h.aC _ (bm D)
theorem inR {i:Int} {n:Nat} (D:0<=i) (E:i<(n:Int)):(decide (0<=i)&&decide (i<(n:Int)))=true:=by
 rw[al D,al E];rfl
theorem inM {β:Type} {f:β->List AC} {i:Int} {l:List β} (D:0<=i) (E:i<(l.length:Int)):(decide (0<=i)&&decide (i<((l.map f).length:Int)))=true:=inR D (by rw[af];exact E)
def El (K:Kf) (c:Cv):Option Sgm:=K.p.aE[(Bu K.p.aE (max (AA K c) 0)).1]?
def sgK (K:Kf) (c:Cv):Sgm:=(El K c).getD sg0
theorem V4 {K:Kf} {c:Cv} {g:Sgm} (h:El K c=some g):g∈K.p.aE:=bt h
theorem Gz {K:Kf} (h:KOK K) {c:Cv} (D:(sgK K c).lead≠0):0<=(sgK K c).item/\(sgK K c).item<K.items.length/\i64 (sgK K c).lead:=by
 unfold sgK at D⊢;cases e:El K c with
 |none=>rw[e]at D;exact absurd rfl D
 |some g=>exact h.aE g (V4 e)
theorem Z21 {D E:Fn} {K:Kf} {c:Cv} (J:E (Ab K c)=some [I (AA K c)])
  (L:D (Br K.p++[I (AA K c)])=if K.p.aE=[]then some [I (-1),I 0]else some [I (Bu K.p.aE (max (AA K c) 0)).1,I (Bu K.p.aE (max (AA K c) 0)).2]):
  Qqs D E (Ab K c)=some (Av (sgK K c)++[B (El K c).isSome]):=by
 rw[Zjz];refine eB J (Eq.trans (congrArg (λz=>Option.bind z _) (show D (Br K.p++[I (AA K c)])=_ from L)) ?_);by_cases e:K.p.aE=[]
 ·have e2:El K c=none:=by unfold El;rw[e];rfl
  unfold sgK;rw[aa e,e2];rfl
 ·have G:=Qa2 K.p.aE (max (AA K c) 0) e;have e2:El K c=some K.p.aE[(Bu K.p.aE (max (AA K c) 0)).1]:=ah G;unfold sgK;rw[ab e,e2];refine eB rfl (eF (am (show¬((Bu K.p.aE (max (AA K c) 0)).1:Int)<0 by omega)) (eT (inM (f:=Av) (l:=K.p.aE) (i:=((Bu K.p.aE (max (AA K c) 0)).1:Int)) (by omega) (by omega)) ?_));have M:nth [] (K.p.aE.map Av) ((Bu K.p.aE (max (AA K c) 0)).1:Int).toNat=Av K.p.aE[(Bu K.p.aE (max (AA K c) 0)).1]:=by
   rw[aj,Ht [] _ _ (by rw[af];exact G),List.getElem_map]
  show some (AT Ah (nth [] (K.p.aE.map Av) ((Bu K.p.aE (max (AA K c) 0)).1:Int).toNat)++[B true])=_;rw[M];rfl
theorem UU {K:Kf} (h:KOK K) (c:Cv):Fe (Ab K c)=some (Av (sgK K c)++[B (El K c).isSome]):=
 Z21 (M_ h c) (Vq h.f.p.ok (Qpm h.f _))
def HP (K:Kf) (c:Cv):Bool:=(El K c).isSome&&((itK K (sgK K c).item).kind==6&&c.y0==(sgK K c).item)
theorem Zd8 {M:Fn} {K:Kf} {c:Cv} (h:KOK K) (G:M (Ab K c)=some (Av (sgK K c)++[B (El K c).isSome])):Ve M (Ab K c)=some [B (HP K c)]:=by
 rw[Zdp,G];unfold HP sgK;cases e:El K c with
 |none=>rfl
 |some g=>
  obtain⟨D,E,-⟩:=h.aE g (V4 e);refine eB rfl (eT rfl (eT (inM (f:=Ag) D E) ?_));show cond (gA (nth [] (K.items.map Ag) g.item.toNat) 0==6) (some [B (c.y0==g.item)]) (some [B false])=some [B (true&&((itK K g.item).kind==6&&c.y0==g.item))];rw[Ii D E];show cond ((itK K g.item).kind==6) (some [B (c.y0==g.item)]) (some [B false])=_;cases((itK K g.item).kind==6)<;>rfl
theorem Q5n {K:Kf} (h:KOK K) (c:Cv):Lf (Ab K c)=some [B (HP K c)]:=Zd8 h (UU h c)
def spV (c:Cv) (ramp:Int):Int:=if c.s1<c.s2 then mn (wrap .i64 (c.s1+ramp)) c.s2 else mx (wrap .i64 (c.s1-ramp)) c.s2
def spS (c:Cv) (ramp:Int):Cv:={c with s1:=spV c ramp,s3:=wrap .i64 (c.s3+wrap .i64 (c.s0*spV c ramp))}
theorem Q6j (c:Cv) (ramp:Int):Ko [I c.s0,I c.s1,I c.s2,I c.s3,I ramp]=some [I (spS c ramp).s0,I (spS c ramp).s1,I (spS c ramp).s2,I (spS c ramp).s3]:=by
 show XZ _=_;rw[Zsi];show _=some [I c.s0,I (spV c ramp),I c.s2,I (wrap .i64 (c.s3+wrap .i64 (c.s0*spV c ramp)))];unfold spV;by_cases h:c.s1<c.s2
 ·rw[BO (al h),aa h]
 ·rw[Bn (am h),ab h]
def Di (c:Cv):Bool:=c.m1==0&&(c.m2==0&&(c.m3==c.m0&&c.m4==c.m0))
theorem Qje (c:Cv):HW [I c.m0,I c.m1,I c.m2,I c.m3,I c.m4,I c.m5]=some [B (Di c)]:=by
 show Qb2 _=_;rw[Zzv];unfold Di;cases(c.m1==0)<;>cases(c.m2==0)<;>cases(c.m3==c.m0)<;>rfl
def PL (b:Bool) (n:Int):Bool:=if n=0 then false else if n=1 then true else b
theorem Qr2 (b:Bool) (n:Int):PW [B b,I n]=some [B (PL b n)]:=by
 show YI _=_;rw[Zic];unfold PL;by_cases h:n=0
 ·rw[aa h,BO (by simpa using h)]
 ·rw[ab h,Bn (by simpa using h)];by_cases h:n=1
  ·rw[aa h,BO (by simpa using h)]
  ·rw[ab h,Bn (by simpa using h)]
def NK (k n:Int):Bool:=k==9||(k==8&&(decide (0<=n)&&decide (n<=2)))
def evC (c:Cv) (k n:Int):Cv:={c with
 o0:=if k=1/\0<=n/\n<=200 then n else c.o0
 o1:=if k=2/\0<=n/\n<=100 then n else c.o1
 o2:=if k=3\/k=11 then true else if k=4 then false else c.o2
 o3:=if k=5 then PL c.o3 n else c.o3
 o4:=if k=6 then PL c.o4 n else c.o4
 g0:=if k=10 then 2 else if k=11 then 0 else if NK k n=true then(if c.g0=2 then 2 else 1)else c.g0
 g1:=if k=10 then 22 else if k=11 then 0 else if NK k n=true/\c.g0≠2/\c.g1=0 then(if k=9 then 21 else 20)else c.g1
 g2:=if k=10 then-1 else if k=11 then-1 else if NK k n=true/\c.g0≠2/\c.g1=0 then(if k=9 then-1 else n)else c.g2
 aI:=if k=4 then true else c.aI}
theorem Qsz {M:Fn} (O:∀(b:Bool) (n:Int),M [B b,I n]=some [B (PL b n)]) (c:Cv) (x k n:Int) (S:k≠11):
  Sb M [I c.o0,I c.o1,B c.o2,B c.o3,B c.o4,I x,I k,I n]=some [I (evC c k n).o0,I (evC c k n).o1,B (evC c k n).o2,B (evC c k n).o3,B (evC c k n).o4]:=by
 rw[Q1o];unfold evC;simp only[O];by_cases D:k=1
 ·subst D;by_cases a:0<=n<;>by_cases b:n<=200<;>simp[a,b]
 ·by_cases E:k=2
  ·subst E;by_cases a:0<=n<;>by_cases b:n<=100<;>simp[a,b]
  ·by_cases G:k=3
   ·subst G;simp
   ·by_cases J:k=4
    ·subst J;simp
    ·by_cases L:k=5
     ·subst L;simp[gA,bA,nth,C_]
     ·by_cases N:k=6
      ·subst N;simp[gA,bA,nth,C_]
      ·simp only[beF D,beF E,beF G,beF J,beF L,beF N,an];simp[D,E,G,J,L,N,S]
theorem Z8f {M:Fn} (c:Cv) (x n:Int):
  Sb M [I c.o0,I c.o1,B c.o2,B c.o3,B c.o4,I x,I 11,I n]=some [I c.o0,I c.o1,B c.o2,B c.o3,B c.o4]:=by
 rw[Q1o];rfl
theorem Q4e (a b d e f:Int):QH [I a,I b,I d,I e,I f]=some (if a=2 then [I a,I b,I d]else if b=0 then [I 1,I e,I f]else [I 1,I b,I d]):=by
 show Ya _=_;rw[Zsz];by_cases h:a=2
 ·rw[aa h,BO (by simpa using h)]
 ·rw[ab h,Bn (by simpa using h)];by_cases h:b=0
  ·rw[aa h,BO (by simpa using h)]
  ·rw[ab h,Bn (by simpa using h)]
theorem Qtt {L M:Fn} (N:L []=some [I 0,I 0,I (-1)]) (O:∀a b d e f:Int,M [I a,I b,I d,I e,I f]=some (if a=2 then [I a,I b,I d]else if b=0 then [I 1,I e,I f]else [I 1,I b,I d])) (c:Cv) (x k n:Int):
  Qf9 L M [I c.g0,I c.g1,I c.g2,I x,I k,I n]=some [I (evC c k n).g0,I (evC c k n).g1,I (evC c k n).g2]:=by
 rw[Zh5];unfold evC;simp only[O,N];by_cases D:k=10
 ·subst D;rfl
 ·by_cases E:k=9
  ·subst E;by_cases a:c.g0=2<;>by_cases b:c.g1=0<;>simp[NK,a,b,gA,jA,nth,Af]
  ·by_cases G:k=8
   ·subst G;by_cases u:0<=n<;>by_cases v:n<=2<;>by_cases a:c.g0=2<;>by_cases b:c.g1=0<;>simp[NK,a,b,u,v,gA,jA,nth,Af]
   ·by_cases J:k=11
    ·subst J;rfl
    ·simp only[beF D,beF E,beF G,beF J,an];simp[NK,D,E,G,J]
theorem Zyb {N O S D E:Fn} {K:Kf} (c:Cv) (x:Int) {k:Int} (n:Int) (G:k≠7/\k≠12/\k≠13)
  (T:k≠11->E [I c.o0,I c.o1,B c.o2,B c.o3,B c.o4,I x,I k,I n]=some [I (evC c k n).o0,I (evC c k n).o1,B (evC c k n).o2,B (evC c k n).o3,B (evC c k n).o4])
  (J:k=11->E [I c.o0,I c.o1,B c.o2,B c.o3,B c.o4,I x,I k,I n]=some [I c.o0,I c.o1,B c.o2,B c.o3,B c.o4])
  (M:D [I c.g0,I c.g1,I c.g2,I x,I k,I n]=some [I (evC c k n).g0,I (evC c k n).g1,I (evC c k n).g2]):
  Sx N O S D E (I x::I k::I n::Ab K c)=some (Ab K (evC c k n)):=by
 rw[Qxe];by_cases h:k=11
 ·rw[J h,M];subst h;rfl
 ·rw[T h,M];simp only[ag];rw[Bn (by simpa using G.2.2),Bn (by simpa using h),Bn (by simpa using G.2.1),Bn (by simpa using G.1)];by_cases L:k=4
  ·subst L;rfl
  ·rw[Bn (by simpa using L)];have e:(evC c k n).aI=c.aI:=by unfold evC;simp[L]
   rw[<-e];rfl
theorem Qup {K:Kf} (c:Cv) (x:Int) {k:Int} (n:Int) (D:k≠7/\k≠12/\k≠13):Jr (I x::I k::I n::Ab K c)=some (Ab K (evC c k n)):=
 Zyb c x n D (λh=>Qsz Qr2 c x k n h) (λh=>by subst h;exact Z8f c x n) (Qtt (by show PR []=_;rw[W3]) Q4e c x k n)
end Go.Bm
noncomputable section
namespace Go.Bm
def one (M:Fn) (l:List AC):Int:=gA ((M l).getD []) 0
theorem Qk1 {M:Fn} {l:List AC} {v:Int} (h:M l=some [I v]):M l=some [I (one M l)]:=by
 unfold one;rw[h];rfl
def Ca (k:Int) (c:Cv):Bool:=k==1||(k==3||(k==6||(k==4&&(c.o4||c.o3)||k==2&&c.o3)))
theorem Qwb (at_ k it:Int) (c:Cv):I1 [I at_,I k,I it,I c.o0,I c.o1,B c.o2,B c.o3,B c.o4]=some [B (Ca k c)]:=by
 show Ql9 _=_;rw[Z64];unfold Ca;by_cases D:k=1
 ·subst D;rfl
 by_cases E:k=3
 ·subst E;rfl
 by_cases G:k=6
 ·subst G;rfl
 by_cases J:k=4
 ·subst J;cases c.o4<;>cases c.o3<;>rfl
 by_cases L:k=2
 ·subst L;cases c.o3<;>rfl
 simp[beF D,beF E,beF G,beF J,beF L]
def EG (c:Cv) (known frm:Int):List Mrk->Nat->Int×Int
 |[],_=>(known,-1)
 |m::l,i=>if Ca m.kind c=true/\frm<=m.at_/\m.at_<=known then(m.at_,i)else EG c known frm l (i+1)
def By (K:Kf) (c:Cv) (known frm:Int):Int×Int:=EG c known frm (K.p.aC.drop (max c.next 0).toNat) (max c.next 0).toNat
theorem Zhg {M:Fn} {K:Kf} (S:K.p.aC.length<=1000000) (c:Cv) (T:∀at_ k it:Int,M [I at_,I k,I it,I c.o0,I c.o1,B c.o2,B c.o3,B c.o4]=some [B (Ca k c)]) (known frm:Int):
  Qfl M (Al (RT M)) [.view kPt (K.p.aC.map At),I c.next,I c.o0,I c.o1,B c.o2,B c.o3,B c.o4,I known,I frm]=some [I (By K c known frm).1,I (By K c known frm).2]:=by
 rw[Zg5];have J:mx c.next 0=max c.next 0:=by unfold mx;split<;>omega
 have key:Out (λo=>(if o.1=1 then o.2=[I (By K c known frm).1,I (By K c known frm).2]else o.1=2/\o.2=[I (By K c known frm).1]/\(By K c known frm).2= -1)) (Al (RT M) [.view kPt (K.p.aC.map At),I known,I frm,I (max c.next 0),I c.o0,I c.o1,B c.o2,B c.o3,B c.o4]):=by
  refine Cl (λs:Int=>[.view kPt (K.p.aC.map At),I known,I frm,I s,I c.o0,I c.o1,B c.o2,B c.o3,B c.o4]) (λs=>0<=s/\By K c known frm=EG c known frm (K.p.aC.drop s.toNat) s.toNat) (λs=>(K.p.aC.length-s).toNat) _ ?_ (max c.next 0) ⟨by omega,rfl⟩;rintro i ⟨g,D⟩;rw[Znj];refine .cond (λk=> ?_) λk=> ?_
  ·have k:i<((K.p.aC.map At).length:Int):=Bb k;rw[af]at k;have L:i.toNat<K.p.aC.length:=by omega
   rw[Ae (x:=i+1) (by have:=S;omega)];have em:mkK K i=K.p.aC[i.toNat]:=by unfold mkK;rw[List.getD,ah L];rfl
   rw[List.drop_eq_getElem_cons L,<-em]at D;unfold EG at D;refine .cond (λ_=> ?_) λe=>(inB g (by rw[af];exact k) e).elim;rw[Lz g k];refine .bind (p:=λo=>o=_) ⟨_,T _ _ _,rfl⟩ λo e=> ?_;subst e;have next:By K c known frm=EG c known frm (K.p.aC.drop (i.toNat+1)) (i.toNat+1)->Out (λo:Nat×List AC=>(o.1=0/\∃E:Int,o.2=[.view kPt (K.p.aC.map At),I known,I frm,I E,I c.o0,I c.o1,B c.o2,B c.o3,B c.o4]/\(0<=E/\By K c known frm=EG c known frm (K.p.aC.drop E.toNat) E.toNat)/\(K.p.aC.length-E).toNat<(K.p.aC.length-i).toNat)\/(o.1≠0/\(if o.1=1 then o.2=[I (By K c known frm).1,I (By K c known frm).2]else o.1=2/\o.2=[I (By K c known frm).1]/\(By K c known frm).2= -1))) (some (0,[.view kPt (K.p.aC.map At),I known,I frm,I (i+1),I c.o0,I c.o1,B c.o2,B c.o3,B c.o4])):=λe=>
    .some (.inl ⟨rfl,i+1,rfl,⟨by omega,by rw[e,show(i+1).toNat=i.toNat+1 by omega]⟩,by omega⟩)
   refine .cond (λa=> .cond (λb=> .cond (λd=> ?_) λd=> ?_) λb=> ?_) λa=> ?_
   ·have a:Ca (mkK K i).kind c=true:=a;have b:frm<=(mkK K i).at_:=Bb b;have d:(mkK K i).at_<=known:=Bb d;rw[aa ⟨a,b,d⟩]at D;refine .some (.inr ⟨by simp,?_⟩);rw[aa rfl,D];show [I (mkK K i).at_,I i]=[I (mkK K i).at_,I (i.toNat:Int)];rw[Int.toNat_of_nonneg g]
   ·have d: ¬(mkK K i).at_<=known:=Bs d;rw[ab (λh=>d h.2.2)]at D;exact next D
   ·have b: ¬frm<=(mkK K i).at_:=Bs b;rw[ab (λh=>b h.2.1)]at D;exact next D
   ·have a:Ca (mkK K i).kind c=false:=a;rw[ab (λh=>by rw[a]at h;cases h.1)]at D;exact next D
  ·have k: ¬i<((K.p.aC.map At).length:Int):=Bs k;rw[af]at k;rw[List.drop_of_length_le (by omega)]at D;refine .some (.inr ⟨by simp,?_⟩);rw[ab (by simp),D];exact⟨rfl,rfl,rfl⟩
 obtain⟨⟨o1,o2⟩,U,G⟩:=key;rw[J];refine eB U ?_;by_cases e:o1=1
 ·subst e;have G:o2=_:=G;subst G;rfl
 ·rw[ab e]at G;obtain⟨N,O,V⟩:=G;dsimp only at N O;subst N O;rw[V];rfl
theorem Z10 {K:Kf} (h:KOK K) (c:Cv) (known frm:Int):P_ [.view kPt (K.p.aC.map At),I c.next,I c.o0,I c.o1,B c.o2,B c.o3,B c.o4,I known,I frm]=some [I (By K c known frm).1,I (By K c known frm).2]:=
 Zhg h.count c (λat_ k it=>Qwb at_ k it c) known frm
theorem Q3i {c:Cv} {known frm:Int} (D:i64 known):∀{l:List Mrk} {i:Nat},(∀m∈l,i64 m.at_)->i64 (EG c known frm l i).1
 |[],_,_=>D
 |m::l,i,h=>by
  unfold EG;split
  ·exact h m (by simp)
  ·exact Q3i D λq E=>h q (by simp[E])
theorem Q6n {c:Cv} {known frm:Int}:∀{l:List Mrk} {i:Nat},(EG c known frm l i).2= -1\/((i:Int)<=(EG c known frm l i).2/\(EG c known frm l i).2<(i+l.length:Nat))
 |[],_=> .inl rfl
 |m::l,i=>by
  unfold EG;split
  ·exact .inr ⟨cd _,by simp only[bh];omega⟩
  ·rcases Q6n (l:=l) (i:=i+1) (c:=c) (known:=known) (frm:=frm)with h|⟨D,E⟩
   ·exact .inl h
   ·exact .inr ⟨by omega,by simp only[bh];omega⟩
theorem Zts {K:Kf} {c:Cv} {known frm:Int}:(By K c known frm).2= -1\/(0<=(By K c known frm).2/\c.next<=(By K c known frm).2/\(By K c known frm).2<K.p.aC.length):=by
 unfold By;rcases Q6n (c:=c) (known:=known) (frm:=frm) (l:=K.p.aC.drop (max c.next 0).toNat) (i:=(max c.next 0).toNat)with h|⟨E,D⟩
 ·exact .inl h
 ·rw[bq]at D;exact .inr ⟨by omega,by omega,by omega⟩
def Ly (K:Kf) (c:Cv):Int:=one F5 [I K.pa,I K.pb,I K.pc,I c.m0,I c.m1,I c.m2,I c.m3,I c.m4,I c.m5]
def EV (K:Kf):Int:=if K.closed=true then K.len else K.set
def CH (r:Int):Int:=wrap .i64 ((wrap .i64 (wrap .i64 (r+256)-1)).tdiv 256)
def EA (K:Kf) (r:Int):Int:=if Bk K.t (AE K.t (CH r))≠CH r then wrap .i64 (AE K.t (CH r)+1)else AE K.t (CH r)
def AN (K:Kf) (c:Cv):Int×Int:=(Bk K.t (By K c (EV K) (EA K (Ly K c))).1,(By K c (EV K) (EA K (Ly K c))).2)
theorem Qur (K:Kf) (c:Cv):(AN K c).2= -1\/(0<=(AN K c).2/\c.next<=(AN K c).2/\(AN K c).2<K.p.aC.length):=Zts
theorem Z3t {K:Kf} (h:KOK K):i64 (EV K):=by unfold EV;split;exact h.len;exact h.set
theorem Quw {K:Kf} (h:KOK K) {c:Cv} {frm:Int}:i64 (By K c (EV K) frm).1:=by
 unfold By;exact Q3i (Z3t h) λm D=>(h.aC m (de D)).2.2
theorem Zg6 {E G J L:Fn} {K:Kf} {c:Cv} {r:Int} {b:Bool} (h:KOK K)
  (O:L [I K.pa,I K.pb,I K.pc,I c.m0,I c.m1,I c.m2,I c.m3,I c.m4,I c.m5]=some [I r,B b])
  (S:∀u,J (A8 K.t++[I u])=some [I (AE K.t u)]) (M:∀{z:Int},i64 z->G (A8 K.t++[I z])=some [I (Bk K.t z)])
  (N:∀known frm,E [.view kPt (K.p.aC.map At),I c.next,I c.o0,I c.o1,B c.o2,B c.o3,B c.o4,I known,I frm]=some [I (By K c known frm).1,I (By K c known frm).2]):
  ZP E G J L (Ab K c)=some (I (Bk K.t (By K c (EV K) (EA K r)).1)::I (By K c (EV K) (EA K r)).2::Ab K c):=by
 have key:∀known:Int,known=EV K->Uo L K c J G E (I known)=some (I (Bk K.t (By K c (EV K) (EA K r)).1)::I (By K c (EV K) (EA K r)).2::Ab K c):=λknown T=>by
  subst T;refine eB O (eB (S (CH r)) (eB (M (Qpm h.f _)) ?_));have e1:EA K r=if Bk K.t (AE K.t (CH r))≠CH r then wrap .i64 (AE K.t (CH r)+1)else AE K.t (CH r):=rfl;by_cases D:Bk K.t (AE K.t (CH r))=CH r
  ·rw[ab (by simpa using D)]at e1;refine eF (bnF D) ?_;exact eB (N (EV K) (AE K.t (CH r))) (by rw[<-e1];exact eB (M (Quw h)) rfl)
  ·rw[aa D]at e1;refine eT (bnT D) ?_;exact eB (N (EV K) (wrap .i64 (AE K.t (CH r)+1))) (by rw[<-e1];exact eB (M (Quw h)) rfl)
 rw[Z8g];refine eC (λe=>key _ ?_) λe=>key _ ?_
 ·unfold EV;rw[aa e]
 ·unfold EV;rw[ab (by rw[e];simp)]
theorem Z14 {M:Fn} {l:List AC} (h:Out (λo=>(wA o 0).length<=4096) (M l)) {E G J D L N O S T:Int} (e:l=[I E,I G,I J,I D,I L,I N,I O,I S,I T]):∃(r:Int) (b:Bool),Ln M l=some [I r,B b]:=by
 subst e;have key:Out (λo=>∃(r:Int) (b:Bool),o=[I r,B b]) (Ln M [I E,I G,I J,I D,I L,I N,I O,I S,I T]):=by
  rw[U4];refine .bind h λo g=> .cond (λ_=> .some ⟨0,false,rfl⟩) λ_=> ?_;generalize wA o 0=sp at*;refine .cond (λ_=> .some ⟨D,true,rfl⟩) λc=> .cond (λ_=> .some ⟨_,true,rfl⟩) λd=> ?_;have c: ¬((sp.length:Int)=0):=by simpa using c
  rw[Ae (by omega)]at d;simp at d;omega
 obtain⟨o,U,r,b,rfl⟩:=key;exact⟨r,b,U⟩
theorem Zup (D E G J L N O S T:Int):∃b:Bool,F5 [I D,I E,I G,I J,I L,I N,I O,I S,I T]=some [I (one F5 [I D,I E,I G,I J,I L,I N,I O,I S,I T]),B b]:=by
 obtain⟨r,b,h⟩:=Z14 (M:=Fk) (Qqd D E G J L N O S T) rfl;have h:F5 [I D,I E,I G,I J,I L,I N,I O,I S,I T]=some [I r,B b]:=h;refine⟨b,?_⟩;unfold one;rw[h];rfl
theorem Zuy {K:Kf} (h:KOK K) (c:Cv):Q4 (Ab K c)=some (I (AN K c).1::I (AN K c).2::Ab K c):=by
 obtain⟨b,hb⟩:=Zup K.pa K.pb K.pc c.m0 c.m1 c.m2 c.m3 c.m4 c.m5;exact Zg6 h hb (RO h.f.t.q) (λD=>Zho h.f.t.q D) (Z10 h c)
def Um (c:Cv) (v:Int):Cv:={c with m0:=wrap .i64 (c.m0+v),m1:=v,m2:=wrap .i64 (v-c.m1),m3:=c.m0,m4:=c.m3,m5:=c.m4}
def Dg (K:Kf) (c:Cv) (l:Int):Cv:=Um c (nxV K c l)
theorem SN {K:Kf} {c:Cv} {n:Int} (h:KOK K) (g:Gd K n c) (l:Int):
  Fv (nxL K c l)=some (Ea c.m0 c.m1 c.m3 c.m4 (nxV K c l))/\((AK K.pa K.pb (nxV K c l) (wrap .i64 (nxV K c l-c.m1))).2=true\/∃r:Int,nxV K c l=wrap .i64 (c.m1+r)/\r=AG K.pa K.pb c.m1 c.m2):=by
 obtain⟨o,D,v,rfl,E⟩:=Q44 h g.mo l c.o2;have D:Fv (nxL K c l)=some (Ea c.m0 c.m1 c.m3 c.m4 v):=D;have e:nxV K c l=v:=by unfold nxV;rw[D];rfl
 rw[e];exact⟨D,E⟩
theorem Zdq {M:Fn} {K:Kf} {c:Cv} {l v:Int} (h:M (nxL K c l)=some (Ea c.m0 c.m1 c.m3 c.m4 v)):Qq7 M (I l::Ab K c)=some (Ab K (Um c v)):=by
 rw[Zig];exact eB h rfl
theorem Qe9 {K:Kf} {c:Cv} {n:Int} (h:KOK K) (g:Gd K n c) (l:Int):H8 (I l::Ab K c)=some (Ab K (Dg K c l)):=Zdq (SN h g l).1
theorem YW {K:Kf} {c:Cv} {n:Int} (h:KOK K) (g:Gd K n c) (D:0<=n/\n<=10000) (l:Int):Gd K (n+1) (Dg K c l):=g.move h D (SN h g l).2
def GK (c:Cv):Cv:={c with next:=wrap .i64 (c.idx+1),on:=false,idx:=0,aM:=false,cnt:=0}
def Py (c:Cv) (n sp:Int):List AC:=(Lo [I c.s0,I c.s1,I c.s2,I c.s3,I n,I sp]).getD []
def HJ (c:Cv) (n sp:Int):Cv:={c with s0:=gA (Py c n sp) 0,s1:=gA (Py c n sp) 1,s2:=gA (Py c n sp) 2,s3:=gA (Py c n sp) 3}
def Q92 (c:Cv) (n sp:Int):Bool:=bA ((Nr [I c.s0,I c.s1,I c.s2,I c.s3,I n,I sp]).getD []) 0
def E_ (K:Kf) (c:Cv):Int×Cv:=
 if c.aM=true then(if c.cnt>1/\c.aI=true then(3,GK c)else(2,c))
 else if(mkK K c.idx).kind≠3 then(3,GK c)
 else if(itK K (mkK K c.idx).item).kind=7 then(if c.cnt<(itK K (mkK K c.idx).item).n then(3,c)else(3,GK c))
 else if(itK K (mkK K c.idx).item).kind=8 then(if Q92 (HJ c (itK K (mkK K c.idx).item).n (itK K (mkK K c.idx).item).speed) (itK K (mkK K c.idx).item).n (itK K (mkK K c.idx).item).speed=true then(3,GK (HJ c (itK K (mkK K c.idx).item).n (itK K (mkK K c.idx).item).speed))else(3,HJ c (itK K (mkK K c.idx).item).n (itK K (mkK K c.idx).item).speed))
 else if(itK K (mkK K c.idx).item).kind=14 then(7,{c with aH:=7})else(3,GK c)
def BL (c:Cv):Cv:={c with cnt:=wrap .i64 (c.cnt+1)}
def AX (K:Kf) (c:Cv):Int×Cv:=E_ K (BL c)
theorem Z3w {S T U:Fn} {K:Kf} {c:Cv} (h:KOK K) (N:0<=c.idx) (O:c.idx<K.p.aC.length)
  (J:∀c:Cv,U (Ab K c)=some (I 3::Ab K (GK c)))
  (V:∀(c:Cv) (L E:Int),i64 E->T [I c.s0,I c.s1,I c.s2,I c.s3,I L,I E]=some (Py c L E)) (X:∀(c:Cv) (L E:Int),i64 E->Out (λo=>bA o 0=Q92 c L E) (S [I c.s0,I c.s1,I c.s2,I c.s3,I L,I E])):
  V8 S T U (Ab K c)=some (I (AX K c).1::Ab K (AX K c).2):=by
 rw[Zs9];have G:=UJ h N O;unfold AX E_;refine eC (λa=> ?_) λa=> ?_
 ·rw[aa (show(BL c).aM=true from a)];refine eC (λb=>eC (λe=> ?_) λe=> ?_) λb=> ?_
  ·rw[aa (show(BL c).cnt>1/\(BL c).aI=true from⟨Bb b,e⟩)];exact eB (J (BL c)) rfl
  ·rw[ab (show¬((BL c).cnt>1/\(BL c).aI=true)from λq=>by have:=q.2;rw[show(BL c).aI=false from e]at this;cases this)];rfl
  ·rw[ab (show¬((BL c).cnt>1/\(BL c).aI=true)from λq=>Bs b q.1)];rfl
 ·rw[ab (show¬(BL c).aM=true by rw[show(BL c).aM=false from a];simp)];refine eT (inM (f:=At) N O) ?_;rw[Lz N O];rw[show(BL c).idx=c.idx from rfl];refine eC (λb=> ?_) λb=> ?_
  ·have b:(mkK K c.idx).kind≠3:=by simpa [gA,nth,Af]using b
   rw[aa b];exact eB (J (BL c)) rfl
  ·have b:(mkK K c.idx).kind=3:=by simpa [gA,nth,Af]using b
   rw[ab (by rw[b];simp)];refine eT (inM (f:=Ag) (l:=K.items) (i:=(mkK K c.idx).item) G.1 G.2.1) ?_;have Y:nth [] (K.items.map Ag) (gA (At (mkK K c.idx)) 2).toNat=Ag (itK K (mkK K c.idx).item):=Ii G.1 G.2.1;rw[Y];have M:(itK K (mkK K c.idx).item).kind=8->i64 (itK K (mkK K c.idx).item).speed:=λD=>by
    have:=Zqu h (mkK K c.idx).item.toNat;rw[Ii G.1 G.2.1]at this;exact this D
   generalize itK K (mkK K c.idx).item=it at*;refine eC (λk=> ?_) λk=> ?_
   ·have k:it.kind=7:=eq_of_beq k;rw[aa k];refine eC (λq=> ?_) λq=> ?_
    ·rw[aa (show(BL c).cnt<it.n from Bb q)];rfl
    ·rw[ab (show¬(BL c).cnt<it.n from Bs q)];exact eB (J (BL c)) rfl
   ·have k:it.kind≠7:=by simpa [gA,nth,Af]using k
    rw[ab k];refine eC (λD=> ?_) λD=> ?_
    ·have D:it.kind=8:=eq_of_beq D;rw[aa D];refine eB (V (BL c) it.n it.speed (M D)) ?_;obtain⟨o,h5,h6⟩:=X (HJ (BL c) it.n it.speed) it.n it.speed (M D);refine eB h5 ?_;rw[<-h6];refine eC (λq=> ?_) λq=> ?_
     ·rw[ab (show¬bA o 0=true by simpa using q)];rfl
     ·rw[aa (show bA o 0=true by simpa using q)];exact eB (J (HJ (BL c) it.n it.speed)) rfl
    ·have D:it.kind≠8:=by simpa [gA,nth,Af]using D
     rw[ab D];refine eC (λk=> ?_) λk=> ?_
     ·rw[aa (show it.kind=14 from eq_of_beq k)];rfl
     ·rw[ab (show it.kind≠14 by simpa [gA,nth,Af]using k)];exact eB (J (BL c)) rfl
theorem Qfy {l:Option (List AC)} (h:l.isSome=true):l=some (l.getD []):=by
 cases l with
 |none=>cases h
 |some o=>rfl
theorem Zm6 (c:Cv) (E:Int) {D:Int} (h:i64 D):Lo [I c.s0,I c.s1,I c.s2,I c.s3,I E,I D]=some (Py c E D):=Qfy (Zj3 _ _ _ _ _ h)
theorem Ztv (K:Kf) (c:Cv):OW (Ab K c)=some (I 3::Ab K (GK c)):=Ztf K c
theorem Z0 {K:Kf} {c:Cv} (h:KOK K) (E:0<=c.idx) (G:c.idx<K.p.aC.length):KO (Ab K c)=some (I (AX K c).1::Ab K (AX K c).2):=
 Z3w h E G (Ztv K) (λc D _ h=>Zm6 c D h) λc D J h=>⟨_,Qfy (Z54 _ _ _ _ _ h),rfl⟩
def EH (K:Kf) (c:Cv) (i:Int):Bool:=
 if(mkK K i).kind=1\/(mkK K i).kind=2\/(mkK K i).kind=6 then c.o3 else if(mkK K i).kind=4 then true
 else if(mkK K i).kind=3 then((itK K (mkK K i).item).kind==11||(itK K (mkK K i).item).kind==12)else false
def CE (K:Kf) (c:Cv) (i:Int):Int×Cv:=AX K {c with on:=true,idx:=i,aM:=EH K c i,cnt:=0}
theorem Z0d {M:Fn} {K:Kf} {c:Cv} {i:Int} (h:KOK K) (L:0<=i) (N:i<K.p.aC.length)
  (S:∀w:Bool,M (Ab K {c with on:=true,idx:=i,aM:=w,cnt:=0})=some (I (AX K {c with on:=true,idx:=i,aM:=w,cnt:=0}).1::Ab K (AX K {c with on:=true,idx:=i,aM:=w,cnt:=0}).2)):
  Qg2 M (I i::Ab K c)=some (I (CE K c i).1::Ab K (CE K c i).2):=by
 rw[Z8c];have G:=UJ h L N;unfold CE;refine eT (inM (f:=At) L N) ?_;rw[Lz L N];have fin:∀{w:Bool} {f:List AC->List AC},w=EH K c i->(∀(m:Int) (c:Cv),f (I m::Ab K c)=I m::Ab K c)->((M (Ab K {c with on:=true,idx:=i,aM:=w,cnt:=0})).bind λo=>some (f o))=some (I (AX K {c with on:=true,idx:=i,aM:=EH K c i,cnt:=0}).1::Ab K (AX K {c with on:=true,idx:=i,aM:=EH K c i,cnt:=0}).2):=λJ hf=>by
  subst J;refine eB (S _) ?_;rw[hf]
 have D:∀{n:Int},(gA (At (mkK K i)) 1==n)=false->(mkK K i).kind≠n:=λe=>by simpa [gA,nth,Af]using e
 have E:∀{n:Int},(gA (At (mkK K i)) 1==n)=true->(mkK K i).kind=n:=λe=>eq_of_beq e;refine eC (λe=>fin (by unfold EH;rw[aa (.inl (E e))]) λ_ _=>rfl) λT=> ?_;refine eC (λe=>fin (by unfold EH;rw[aa (.inr (.inl (E e)))]) λ_ _=>rfl) λU=> ?_;refine eC (λe=>fin (by unfold EH;rw[aa (.inr (.inr (E e)))]) λ_ _=>rfl) λV=> ?_;have no: ¬((mkK K i).kind=1\/(mkK K i).kind=2\/(mkK K i).kind=6):=by
  intro q;rcases q with q|q|q
  ·exact D T q
  ·exact D U q
  ·exact D V q
 refine eC (λe=>fin (by unfold EH;rw[ab no,aa (E e)]) λ_ _=>rfl) λO=> ?_;refine eC (λe=> ?_) λX=>fin (by unfold EH;rw[ab no,ab (D O),ab (D X)]) λ_ _=>rfl;refine eT (inM (f:=Ag) (l:=K.items) (i:=(mkK K i).item) G.1 G.2.1) ?_;have Y:nth [] (K.items.map Ag) (gA (At (mkK K i)) 2).toNat=Ag (itK K (mkK K i).item):=Ii G.1 G.2.1;rw[Y];have J:EH K c i=((itK K (mkK K i).item).kind==11||(itK K (mkK K i).item).kind==12):=by unfold EH;rw[ab no,ab (D O),aa (E e)]
 refine eC (λk=>fin (by rw[J,show((itK K (mkK K i).item).kind==11)=true from k];rfl) λ_ _=>rfl) λk=>fin (by rw[J,show((itK K (mkK K i).item).kind==11)=false from k];rfl) λ_ _=>rfl
theorem Zun {K:Kf} {c:Cv} {i:Int} (h:KOK K) (D:0<=i) (E:i<K.p.aC.length):PK (I i::Ab K c)=some (I (CE K c i).1::Ab K (CE K c i).2):=
 Z0d h D E λ_=>Z0 h D E
def Co (c:Cv):Cv:=if c.g0=0 then{c with o2:=true,g0:=1,g1:=18,g2:= -1}else c
theorem WM (K:Kf) (c:Cv):G_ (Ab K c)=some (Ab K (Co c)):=Zt7 K c
def NT (c:Cv):Int:=one KU [I c.before,I c.s0]
theorem Z5i (c:Cv):KU [I c.before,I c.s0]=some [I (NT c)]:=by
 have key:∃v,KU [I c.before,I c.s0]=some [I v]:=by
  have e:KU [I c.before,I c.s0]=Qiq Kn [I c.before,I c.s0]:=rfl;have h:∀a,(Kn [I a,I 1048576]).isSome=true:=λa=>Zn2 (by omega);rw[e,Z0r];generalize Kn=M at*;have E:∀a,∃o,M [I a,I 1048576]=some o:=λa=>Option.isSome_iff_exists.1 (h a);cases(c.s0== -1)
  ·obtain⟨o,D⟩:=E (wrap .i64 (0-c.before));exact⟨_,eB D rfl⟩
  ·obtain⟨o,D⟩:=E c.before;exact⟨_,eB D rfl⟩
 obtain⟨v,h⟩:=key;exact Qk1 h
def goC (K:Kf) (c:Cv) (g:Sgm):Cv:={c with y0:=g.item,y1:=AA K c,y2:=c.s3,e0:=1,e1:=c.m0,e2:=NT c,e3:=0}
def E6 (K:Kf) (c:Cv) (g:Sgm):Bool:=(itK K g.item).kind==6||(c.s1 !=0&& !decide (wrap .i64 (wrap .i64 (c.s3-NT c)*c.s0)<0))
theorem Zpo {E G:Fn} {K:Kf} {c:Cv} {s:Sgm} (J:0<=s.item) (L:s.item<K.items.length) (N:G [I c.before,I c.s0]=some [I (NT c)]) (M:E (Ab K c)=some [I (AA K c)]):
  Qls E G (I s.to.x::I s.to.y::I s.to.z::I s.len::I s.item::I s.feed::I s.lead::Ab K c)=some (B (E6 K c s)::Ab K (if E6 K c s=true then goC K c s else c)):=by
 rw[Zw3];refine eB N (eT (inM (f:=Ag) J L) ?_);rw[Ii J L];refine eC (λe=> ?_) λe=> ?_
 ·have e:(itK K s.item).kind≠6:=by simpa [gA,nth,Af]using e
  refine eC (λa=> ?_) λa=>eC (λb=> ?_) λb=> ?_
  ·have D:E6 K c s=false:=by unfold E6;rw[beF e,bnF (eq_of_beq a)];rfl
   rw[D];rfl
  ·have D:E6 K c s=false:=by unfold E6;rw[beF e,show decide (wrap .i64 (wrap .i64 (c.s3-NT c)*c.s0)<0)=true from b];simp
   rw[D];rfl
  ·have D:E6 K c s=true:=by
    unfold E6;rw[show decide (wrap .i64 (wrap .i64 (c.s3-NT c)*c.s0)<0)=false from b];simp only[bne,a];simp
   rw[D];exact eB M rfl
 ·have e:(itK K s.item).kind=6:=by simpa [gA,nth,Af]using e
  have D:E6 K c s=true:=by unfold E6;rw[beT e];rfl
  rw[D];exact eB M rfl
theorem Zxg {K:Kf} {c:Cv} {s:Sgm} (h:KOK K) (D:0<=s.item) (E:s.item<K.items.length):
  QJ (I s.to.x::I s.to.y::I s.to.z::I s.len::I s.item::I s.feed::I s.lead::Ab K c)=some (B (E6 K c s)::Ab K (if E6 K c s=true then goC K c s else c)):=
 Zpo D E (Z5i c) (M_ h c)
def Qok (lead way:Int):Int:=one KH [I lead,I way]
theorem Zkr {a b:Int} (D:i64 a) (hb:i64 b):KH [I a,I b]=some [I (Qok a b)]:=by
 have key:∃v,KH [I a,I b]=some [I v]:=by
  have e:KH [I a,I b]=X6 BE [I a,I b]:=rfl;have h:=Qjo (show i64 4096 by unfold i64;omega) hb D 0;rw[e,Zi2];generalize BE=M at*;obtain⟨o,E⟩:=Option.isSome_iff_exists.1 h;exact⟨_,eB E rfl⟩
 obtain⟨v,h⟩:=key;exact Qk1 h
def Qv7 (K:Kf) (d:Cv) (g:Sgm):Int:=wrap .i64 (d.y2+wrap .i64 (wrap .i64 ((if(itK K g.item).n=3 then 1 else-1)*Qok g.lead (wrap .i64 (AA K d-d.y1)))*256))
def Q7 (K:Kf) (c:Cv) (l:Int) (g:Sgm):Cv:={Dg K c l with s3:=Qv7 K (Dg K c l) g}
theorem Znd {D E G:Fn} {K:Kf} {c:Cv} {l:Int} {s:Sgm} (J:0<=s.item) (L:s.item<K.items.length)
  (M:∀v,i64 v->D [I s.lead,I v]=some [I (Qok s.lead v)]) (N:∀c,E (Ab K c)=some [I (AA K c)]) (O:G (I l::Ab K c)=some (Ab K (Dg K c l))):
  Qo2 D E G (I l::I s.to.x::I s.to.y::I s.to.z::I s.len::I s.item::I s.feed::I s.lead::Ab K c)=some (Ab K (Q7 K c l s)):=by
 rw[Zd4];unfold Q7;generalize Dg K c l=d at*;refine eB O (eT (inM (f:=Ag) J L) ?_);show cond (gA (nth [] (K.items.map Ag) s.item.toNat) 19==3) _ _=_;rw[Ii J L];unfold Qv7;refine eC (λe=> ?_) λe=> ?_
 ·rw[aa (show(itK K s.item).n=3 from eq_of_beq e)];exact eB (N d) (eB (M _ (UI _)) rfl)
 ·rw[ab (show(itK K s.item).n≠3 by simpa [gA,nth,Af]using e)];exact eB (N d) (eB (M _ (UI _)) rfl)
theorem Qvx {K:Kf} {c:Cv} {n:Int} (h:KOK K) (g:Gd K n c) (G:0<=n/\n<=10000) (l:Int) {s:Sgm} (D:0<=s.item/\s.item<K.items.length/\i64 s.lead):
  QE (I l::I s.to.x::I s.to.y::I s.to.z::I s.len::I s.item::I s.feed::I s.lead::Ab K c)=some (Ab K (Q7 K c l s)):=
 Znd D.1 D.2.1 (λv E=>Zkr D.2.2 E) (M_ h) (Qe9 h g l)
def thL (K:Kf) (c:Cv) (l lead:Int):List AC:=pxt K.p K.x K.t [I K.pa,I K.pb,I K.pc,I c.o0,I c.o1,B c.o2,B c.o3,B c.o4,I c.m0,I c.m1,I c.m2,I c.m3,I c.m4,I c.m5,I l,I lead,I c.e0,I c.e1,I c.e2,I c.e3,I c.before,I c.s3]
def thO (K:Kf) (c:Cv) (l lead:Int):List AC:=(Iu (thL K c l lead)).getD []
def HT (c:Cv) (o:List AC):Cv:={Um c (gA o 1)with e0:=gA o 6,e1:=gA o 7,e2:=gA o 8,e3:=gA o 9}
def In (K:Kf) (c:Cv) (l lead:Int):Cv:=
 if c.g0≠0 then{Dg K c l with e0:=3}else if gA (thO K c l lead) 10≠0 then Co (HT c (thO K c l lead))else HT c (thO K c l lead)
theorem Qp0 {K:Kf} {c:Cv} {n:Int} (h:KOK K) (g:Gd K n c) (l:Int) {lead:Int} (E:i64 lead):
  Iu (thL K c l lead)=some (thO K c l lead)/\∃v s b z y e:Int,thO K c l lead=Ea c.m0 c.m1 c.m3 c.m4 v++[I s,I b,I z,I y,I e]/\((AK K.pa K.pb v (wrap .i64 (v-c.m1))).2=true\/∃r:Int,v=wrap .i64 (c.m1+r)/\r=AG K.pa K.pb c.m1 c.m2):=by
 obtain⟨o,D,v,s,b,z,y,e,rfl,G⟩:=Zwl h g.mo l E;have D:Iu (thL K c l lead)=some (Ea c.m0 c.m1 c.m3 c.m4 v++[I s,I b,I z,I y,I e]):=D;have e2:thO K c l lead=Ea c.m0 c.m1 c.m3 c.m4 v++[I s,I b,I z,I y,I e]:=by unfold thO;rw[D];rfl
 rw[e2];exact⟨D,v,s,b,z,y,e,rfl,G⟩
theorem Zsd {G J L:Fn} {K:Kf} {c:Cv} {l:Int} {s:Sgm} (M:∀c,G (Ab K c)=some (Ab K (Co c)))
  (N:J (thL K c l s.lead)=some (thO K c l s.lead)) (O:∃v D b z y e:Int,thO K c l s.lead=Ea c.m0 c.m1 c.m3 c.m4 v++[I D,I b,I z,I y,I e]) (S:L (I l::Ab K c)=some (Ab K (Dg K c l))):
  XS G J L (I l::I s.to.x::I s.to.y::I s.to.z::I s.len::I s.item::I s.feed::I s.lead::Ab K c)=some (Ab K (In K c l s.lead)):=by
 rw[Zm8];unfold In;refine eC (λe=> ?_) λe=> ?_
 ·rw[aa (show c.g0≠0 by simpa using e)];generalize Dg K c l=d at*;exact eB S rfl
 ·rw[ab (show¬c.g0≠0 by simpa using e)];obtain⟨v,D,b,z,y,E,T⟩:=O;generalize thO K c l s.lead=o at*;subst T;refine eB N ?_;refine eC (λq=> ?_) λq=> ?_
  ·rw[aa (show gA (Ea c.m0 c.m1 c.m3 c.m4 v++[I D,I b,I z,I y,I E]) 10≠0 by simpa using q)];refine Eq.trans (congrArg (λz=>Option.bind z _) (M (HT c (Ea c.m0 c.m1 c.m3 c.m4 v++[I D,I b,I z,I y,I E])))) rfl
  ·rw[ab (show¬gA (Ea c.m0 c.m1 c.m3 c.m4 v++[I D,I b,I z,I y,I E]) 10≠0 by simpa using q)];rfl
theorem Qxa {K:Kf} {c:Cv} {n:Int} (h:KOK K) (g:Gd K n c) (L:0<=n/\n<=10000) (l:Int) {s:Sgm} (D:i64 s.lead):
  PO (I l::I s.to.x::I s.to.y::I s.to.z::I s.len::I s.item::I s.feed::I s.lead::Ab K c)=some (Ab K (In K c l s.lead)):=by
 obtain⟨E,v,G,b,z,y,e,J,-⟩:=Qp0 h g l D;exact Zsd (WM K) E ⟨v,G,b,z,y,e,J⟩ (Qe9 h g l)
def Fl (K:Kf) (c:Cv) (l:Int) (g:Sgm):Cv:=if(itK K g.item).kind=6 then Q7 K c l g else In K c l g.lead
def DB (K:Kf) (c:Cv) (l:Int):Cv:=
 if(sgK K c).lead=0\/(c.o2=true/\c.y0≠(sgK K c).item)then Dg K c l
 else if c.y0=(sgK K c).item then Fl K c l (sgK K c)
 else if E6 K c (sgK K c)=true then Fl K (goC K c (sgK K c)) l (sgK K c)
 else if c.s1=0 then Co c else c
theorem Gd.go {K:Kf} {n:Int} {c:Cv} (g:Gd K n c) (s:Sgm):Gd K n (goC K c s):=⟨g.way,g.pass,g.task,g.mo,g.m0⟩
theorem Zzh {G J L M U D:Fn} {K:Kf} {c:Cv} {l:Int} (N:(sgK K c).lead≠0->0<=(sgK K c).item/\(sgK K c).item<K.items.length)
  (hG:D (Ab K c)=some (Av (sgK K c)++[B (El K c).isSome])) (V:U (I l::Ab K c)=some (Ab K (Dg K c l)))
  (O:(sgK K c).lead≠0->M (I (sgK K c).to.x::I (sgK K c).to.y::I (sgK K c).to.z::I (sgK K c).len::I (sgK K c).item::I (sgK K c).feed::I (sgK K c).lead::Ab K c)=some (B (E6 K c (sgK K c))::Ab K (if E6 K c (sgK K c)=true then goC K c (sgK K c)else c)))
  (hF:L (Ab K c)=some (Ab K (Co c)))
  (S:(sgK K c).lead≠0->∀d,d=c\/d=goC K c (sgK K c)->J (I l::I (sgK K c).to.x::I (sgK K c).to.y::I (sgK K c).to.z::I (sgK K c).len::I (sgK K c).item::I (sgK K c).feed::I (sgK K c).lead::Ab K d)=some (Ab K (Q7 K d l (sgK K c))))
  (T:(sgK K c).lead≠0->∀d,d=c\/d=goC K c (sgK K c)->G (I l::I (sgK K c).to.x::I (sgK K c).to.y::I (sgK K c).to.z::I (sgK K c).len::I (sgK K c).item::I (sgK K c).feed::I (sgK K c).lead::Ab K d)=some (Ab K (In K d l (sgK K c).lead))):
  Z7 G J L M U D (I l::Ab K c)=some (Ab K (DB K c l)):=by
 rw[Zhf];unfold DB;generalize sgK K c=s at*;refine eB hG ?_;refine eC (λe=> ?_) λe=> ?_
 ·rw[aa (.inl (show s.lead=0 from eq_of_beq e))];generalize Dg K c l=d at*;exact eB V rfl
 ·have e:s.lead≠0:=by simpa [gA,nth,Af]using e
  obtain⟨X,Y⟩:=N e;have O:=O e;have S:=S e;have T:=T e
  have E:∀{d:Cv} {f1 f2:List AC->List AC},d=c\/d=goC K c s->(∀c,f1 (Ab K c)=Ab K c)->(∀c,f2 (Ab K c)=Ab K c)->
    (bif decide (0<=s.item)&&decide (s.item<((K.items.map Ag).length:Int))then(bif gA (nth [] (K.items.map Ag) s.item.toNat) 0==6 then(J (I l::I s.to.x::I s.to.y::I s.to.z::I s.len::I s.item::I s.feed::I s.lead::Ab K d)).bind λo=>some (f1 o)else(G (I l::I s.to.x::I s.to.y::I s.to.z::I s.len::I s.item::I s.feed::I s.lead::Ab K d)).bind λo=>some (f2 o))else none)=some (Ab K (Fl K d l s)):=λhd h1 h2=>by
   refine eT (inM (f:=Ag) X Y) ?_;rw[Ii X Y];unfold Fl;refine eC (λk=> ?_) λk=> ?_
   ·rw[aa (show(itK K s.item).kind=6 from eq_of_beq k)];exact eB (S _ hd) (congrArg some (h1 _))
   ·rw[ab (show(itK K s.item).kind≠6 by simpa [gA,nth,Af]using k)];exact eB (T _ hd) (congrArg some (h2 _))
  have hg:TI c (Av s++[B (El K c).isSome]) M K L J l G=some (Ab K (if c.y0=s.item then Fl K c l s else if E6 K c s=true then Fl K (goC K c s) l s else if c.s1=0 then Co c else c)):=by
   refine eC (λy=> ?_) λy=> ?_
   ·have y:c.y0≠s.item:=by simpa [gA,nth,Af]using y
    rw[ab y];refine eB O ?_;cases hm:E6 K c s
    ·refine eT rfl ?_;rw[ab (by simp),ab (by simp)];refine eC (λz=> ?_) λz=> ?_
     ·rw[aa (show c.s1=0 from eq_of_beq z)];generalize Co c=d at*;exact eB hF rfl
     ·rw[ab (show c.s1≠0 by simpa [gA,nth,Af]using z)];rfl
    ·refine eF rfl ?_;rw[aa rfl,aa rfl];have h:=E (d:=goC K c s) (f1:=λo=>cR 0 o) (f2:=λo=>cR 0 o) (.inr rfl) (λ_=>rfl) (λ_=>rfl);generalize goC K c s=d at*;exact h
   ·have y:c.y0=s.item:=by simpa [gA,nth,Af]using y
    rw[aa y];exact E (f1:=λo=>cR 0 o) (f2:=λo=>cR 0 o) (.inl rfl) (λ_=>rfl) (λ_=>rfl)
  refine eC (λa=>eC (λb=> ?_) λb=> ?_) λa=> ?_
  ·have b:c.y0≠s.item:=by simpa [gA,nth,Af]using b
   rw[aa (.inr ⟨a,b⟩)];generalize Dg K c l=d at*;exact eB V rfl
  ·have b:c.y0=s.item:=by simpa [gA,nth,Af]using b
   rw[ab (λq=>by rcases q with q|q;exact e q;exact q.2 b)];exact hg
  ·rw[ab (λq=>by rcases q with q|q;exact e q;rw[a]at q;cases q.1)];exact hg
theorem Zi6 {K:Kf} {c:Cv} {n:Int} (h:KOK K) (g:Gd K n c) (D:0<=n/\n<=10000) (l:Int):PS (I l::Ab K c)=some (Ab K (DB K c l)):=
 Zzh (λe=>⟨(Gz h e).1,(Gz h e).2.1⟩) (UU h c) (Qe9 h g l) (λe=>Zxg h (Gz h e).1 (Gz h e).2.1) (WM K c)
  (λe d E=>by rcases E with rfl|rfl;exact Qvx h g D l (Gz h e);exact Qvx h (g.go _) D l (Gz h e))
  (λe d E=>by rcases E with rfl|rfl;exact Qxa h g D l (Gz h e).2.2;exact Qxa h (g.go _) D l (Gz h e).2.2)
end Go.Bm
namespace Go.Bm
open Classical
def sT (K:Kf) (t:Trk):Kf:=⟨K.x,K.pa,K.pb,K.pc,K.ramp,K.lag,K.items,K.closed,K.p,K.len,K.set,t⟩
theorem KOK.sT {K:Kf} (h:KOK K) {t:Trk} (D:TH t):KOK (Go.Bm.sT K t):=⟨⟨h.f.p,h.f.x,D⟩,h.plan,h.aE,h.aC,h.count,h.speed,h.len,h.set⟩
def Jn:List Pce->Int->Pt->Pt
 |[],_,d=>d
 |c::l,u,d=>if u>c.at_+c.units then Jn l u d else if c.move≠0\/u=c.at_+c.units then c.dirs else c.was
def Fi (t:Trk) (u:Int):Pt:=Jn t.aD (clT t u) t.dirs
theorem Z4w {t:Trk} (h:TQ t) (u:Int):Qlk (Al Si) (A8 t++[I u])=some (ptR (Fi t u)):=by
 refine Eq.trans (Z3q _ (t.aD.map AI) t.length t.start t.dirs.x t.dirs.y t.dirs.z u) ?_;have J:mx 0 (mn u t.length)=clT t u:=by
  unfold mx mn clT Bj
  (repeat' split)<;>omega
 rw[J];have key:Out (λo=>o=(1,ptR (Fi t u))\/(o=(2, .view Aq (t.aD.map AI)::I t.length::I t.start::I t.dirs.x::I t.dirs.y::I t.dirs.z::[I 0,I 0,I 0])/\Fi t u=t.dirs))
   (Al Si [I (clT t u), .view Aq (t.aD.map AI),I ((t.aD.map AI).length:Int),I ((0:Nat):Int), .view Aq (t.aD.map AI),I t.length,I t.start,I t.dirs.x,I t.dirs.y,I t.dirs.z,I 0,I 0,I 0]):=by
  refine Cl (λi:Nat=>[I (clT t u), .view Aq (t.aD.map AI),I ((t.aD.map AI).length:Int),I (i:Int), .view Aq (t.aD.map AI),I t.length,I t.start,I t.dirs.x,I t.dirs.y,I t.dirs.z,I 0,I 0,I 0])
   (λi=>i<=t.aD.length/\Fi t u=Jn (t.aD.drop i) (clT t u) t.dirs) (λi=>t.aD.length-i) _ ?_ 0 ⟨Nat.zero_le _,rfl⟩
  rintro i ⟨O,hf⟩;rw[Z2e];have S:((t.aD.map AI).length:Int)=t.aD.length:=by rw[af]
  refine .cond (λE=> ?_) λE=> ?_
  ·have E:=Bb E;have D:i<t.aD.length:=by omega
   refine .cond (λ_=> ?_) λe=>(inB (by omega) E e).elim;rw[aj,OA D];have T:=h.count;have U:=h.pos i D;have V:=h.len;have he:eI t.aD i=(pcA t.aD i).at_+(pcA t.aD i).units:=rfl;rw[List.drop_eq_getElem_cons D]at hf;have L:t.aD[i]=pcA t.aD i:=by unfold pcA;rw[List.getD,ah D];rfl
   rw[L]at hf;unfold Jn at hf;generalize pcA t.aD i=c at*;have M:wrap .i64 (gA (AI c) 0+gA (AI c) 1)=c.at_+c.units:=by
    show wrap .i64 (c.at_+c.units)=_;exact Ae (by omega)
   rw[M,Ae (x:=(i:Int)+1) (by omega)];refine .cond (λa=> ?_) λa=> ?_
   ·have a:=Bb a;rw[aa a]at hf;exact .some (.inl ⟨rfl,i+1,rfl,⟨by omega,hf⟩,by omega⟩)
   ·have a:=Bs a;rw[ab a]at hf;refine .cond (λb=> ?_) λb=> .cond (λb2=> ?_) λb2=> ?_
    ·have b:c.move≠0:=by simpa [gA,nth,Af]using b
     rw[aa (.inl b)]at hf;exact .some (.inr ⟨by simp, .inl (by rw[hf];rfl)⟩)
    ·have b2:clT t u=c.at_+c.units:=eq_of_beq b2;rw[aa (.inr b2)]at hf;exact .some (.inr ⟨by simp, .inl (by rw[hf];rfl)⟩)
    ·have b:c.move=0:=by simpa [gA,nth,Af]using b
     have b2:clT t u≠c.at_+c.units:=λe=>by rw[beT e]at b2;cases b2
     rw[ab (λq=>by rcases q with q|q;exact q b;exact b2 q)]at hf;exact .some (.inr ⟨by simp, .inl (by rw[hf];rfl)⟩)
  ·have E:=Bs E;rw[List.drop_of_length_le (by omega)]at hf;exact .some (.inr ⟨by simp, .inr ⟨rfl,hf⟩⟩)
 obtain⟨o,N,G⟩:=key;refine eB N ?_;rcases G with rfl|⟨rfl,G⟩
 ·exact eT rfl rfl
 ·rw[G];exact eF rfl (eT rfl rfl)
def EN (K:Kf) (c:Cv):Bool:=Di c&& !decide (HK K.t (AB c))
def Da (K:Kf) (c:Cv) (to:Int):Trk:=AR K.p K.x (Fi K.t (AB c)) (AA K c) to
def J8 (K:Kf) (c:Cv) (to:Int):List AC:=if EN K c=true then A8 (Da K c to)++[I 0,I 0,I 0,I 0,I 0,I 0,B true]else [.view Aq [],I 0,I 0,I 0,I 0,I 0,I 0,I 0,I 0,I 0,I 0,I 0,B false]
theorem Z6p {D E G J L M:Fn} {K:Kf} {c:Cv} {to:Int} (N:M [I c.m0,I c.m1,I c.m2,I c.m3,I c.m4,I c.m5]=some [B (Di c)]) (O:L (A8 K.t++[I (AB c)])=some [B (decide (HK K.t (AB c)))])
  (S:J (A8 K.t++[I (AB c)])=some (ptR (Fi K.t (AB c)))) (T:G (A8 K.t++[I (AB c)])=some [I (AA K c)])
  (U:∀(d:Pt) (a b:Int),E (Br K.p++AM K.x++[I d.x,I d.y,I d.z,I a,I b])=some (A8 (AR K.p K.x d a b))) (V:D [I 0]=some [I 0,I 0,I 0,I 0,I 0,I 0]):
  Qaj D E G J L M (pxt K.p K.x K.t [I c.m0,I c.m1,I c.m2,I c.m3,I c.m4,I c.m5,I to])=some (J8 K c to):=by
 rw[Z9i];refine eB N ?_;unfold J8 EN Da;cases X:Di c
 ·exact eT rfl rfl
 ·refine eF rfl (eB O ?_);cases Y:decide (HK K.t (AB c))
  ·refine eF rfl (eB S (eB T (eB (U (Fi K.t (AB c)) (AA K c) to) (eB V ?_))));rw[aa (show(true&& !false)=true from rfl)];rfl
  ·exact eT rfl rfl
theorem Q95 {K:Kf} (h:KOK K) (c:Cv) (to:Int):KE (pxt K.p K.x K.t [I c.m0,I c.m1,I c.m2,I c.m3,I c.m4,I c.m5,I to])=some (J8 K c to):=
 Z6p (Qje c) (Zuj h.f.t.q _) (Z4w h.f.t.q _) (RO h.f.t.q _) (λd a b=>Q8s h.f.p h.f.x.ok) (Qb9 0)
theorem Q8i {K:Kf} (h:KOK K) (c:Cv) (to:Int):TH (Da K c to):=Qx1 _ _ _ h.f.x.ok h.f.p
def zM (c:Cv):Cv:={c with m0:=0,m1:=0,m2:=0,m3:=0,m4:=0,m5:=0}
def Ft (c d:Cv):Prop:=d=c\/∃a:Int,c.g0=0/\d={c with g0:=1,g1:=19,g2:=a}
def Mn (K:Kf) (c:Cv) (n:Int):Cv:={c with g0:=gA ((Jv (I n::Ab K c)).getD []) 61,g1:=gA ((Jv (I n::Ab K c)).getD []) 62,g2:=gA ((Jv (I n::Ab K c)).getD []) 63}
theorem brD {c:Cv} {F:Cv->Option (List AC)} {p:Prop} [Decidable p] {X Y:Option (List AC)} (D:p->∃d:Cv,Ft c d/\X=F d) (E: ¬p->∃d:Cv,Ft c d/\Y=F d):∃d:Cv,Ft c d/\(bif decide p then X else Y)=F d:=by
 by_cases h:p
 ·rw[al h];exact D h
 ·rw[am h];exact E h
theorem bdE {c:Cv} {F:Cv->Option (List AC)} {m:Option (List AC)} {f:Fn} {o:List AC} (h:m=some o) (hf:∃d:Cv,Ft c d/\f o=F d):∃d:Cv,Ft c d/\m.bind f=F d:=by
 rw[h];exact hf
theorem Zqh (c:Cv) (l E a1 a2 G b1 b2:Int):∃d:Cv,Ft c d/\Oe [I c.g0,I c.g1,I c.g2,I l,I E,I a1,I a2,I G,I b1,I b2]=some [I d.g0,I d.g1,I d.g2]:=by
 show∃d:Cv,Ft c d/\Ql2 _=_;rw[Zvw];by_cases h:c.g0=0
 ·have D:∀a:Int,∃d:Cv,Ft c d/\some [I 1,I 19,I a]=some [I d.g0,I d.g1,I d.g2]:=λa=>⟨{c with g0:=1,g1:=19,g2:=a}, .inr ⟨a,h,rfl⟩,rfl⟩;have no:∃d:Cv,Ft c d/\some [I c.g0,I c.g1,I c.g2]=some [I d.g0,I d.g1,I d.g2]:=⟨c, .inl rfl,rfl⟩;rw[bnF h];exact brD (F:=λd=>some [I d.g0,I d.g1,I d.g2]) (λ_=>D 0) λ_=>brD (F:=λd=>some [I d.g0,I d.g1,I d.g2]) (λ_=>D 0) λ_=>brD (F:=λd=>some [I d.g0,I d.g1,I d.g2]) (λ_=>D _) λ_=>brD (F:=λd=>some [I d.g0,I d.g1,I d.g2]) (λ_=>D _) λ_=>brD (F:=λd=>some [I d.g0,I d.g1,I d.g2]) (λ_=>D _) λ_=>brD (F:=λd=>some [I d.g0,I d.g1,I d.g2]) (λ_=>D _) λ_=>no
 ·exact⟨c, .inl rfl,by rw[bnT h];rfl⟩
theorem Zdn {MC MM M:Fn} {K:Kf} {c:Cv} {n:Int} (hn:n<=4194304) (O:M (Ab K c)=some [I (AB c)]) (S:∀u,MM (pxt K.p K.x K.t [I u])=some (ptR (Eo K.p K.x K.t u)))
  (T:∀D a1 a2 E b1 b2:Int,∃d:Cv,Ft c d/\MC [I c.g0,I c.g1,I c.g2,I K.lag,I D,I a1,I a2,I E,I b1,I b2]=some [I d.g0,I d.g1,I d.g2]):
  ∃d:Cv,Ft c d/\Qj6 MC MM M (I n::Ab K c)=some (Ab K d):=by
 rw[Zuz];unfold RN;have no:∃d:Cv,Ft c d/\some (Ab K c)=some (Ab K d):=⟨c, .inl rfl,rfl⟩;have J:∀D a1 a2 E b1 b2:Int,∃d:Cv,Ft c d/\((MC [I c.g0,I c.g1,I c.g2,I K.lag,I D,I a1,I a2,I E,I b1,I b2]).bind λo=>some (Ab K {c with g0:=gA o 0,g1:=gA o 1,g2:=gA o 2}))=some (Ab K d):=λD a1 a2 E b1 b2=>by
  obtain⟨d,U,e⟩:=T D a1 a2 E b1 b2;rcases U with rfl|⟨a,V,rfl⟩
  ·exact⟨d, .inl rfl,eB e rfl⟩
  ·exact⟨_, .inr ⟨a,V,rfl⟩,eB e rfl⟩
 have X: ¬n<0->0<=wrap .i64 (n.tdiv 1048576):=λh=>by
  rw[bc (by omega),Ae (by omega)];omega
 generalize wrap .i64 (n.tdiv 1048576)=q at*;have F:Cv->Option (List AC):=λd=>some (Ab K d);refine brD (F:=λd=>some (Ab K d)) (λ_=>no) λY=>brD (F:=λd=>some (Ab K d)) (λ_=>no) λh2=> ?_;refine bdE (F:=λd=>some (Ab K d)) O (bdE (F:=λd=>some (Ab K d)) (S (AB c)) ?_);refine brD (F:=λd=>some (Ab K d)) (λG=>brD (F:=λd=>some (Ab K d)) (λ_=>J ..) λe=>absurd G e) λG=> ?_;refine brD (F:=λd=>some (Ab K d)) (λL=>brD (F:=λd=>some (Ab K d)) (λe=>absurd e G) λ_=>brD (F:=λd=>some (Ab K d)) (λ_=>J ..) λe=>absurd L e) λL=> ?_;refine brD (F:=λd=>some (Ab K d)) (λN=>brD (F:=λd=>some (Ab K d)) (λe=>absurd e G) λ_=>brD (F:=λd=>some (Ab K d)) (λe=>absurd e L) λ_=>brD (F:=λd=>some (Ab K d)) (λ_=>J ..) λe=>absurd N e) λN=> ?_;have:=X Y;omega
theorem Vs {K:Kf} (h:KOK K) (c:Cv) {n:Int} (G:n<=4194304):Jv (I n::Ab K c)=some (Ab K (Mn K c n))/\Ft c (Mn K c n):=by
 obtain⟨d,E,D⟩:=Zdn (MC:=Oe) (MM:=Et) G (Lu K c) (Qe h.f) (λJ a1 a2 L b1 b2=>Zqh c K.lag J a1 a2 L b1 b2);have D:Jv (I n::Ab K c)=some (Ab K d):=D;have e:Mn K c n=d:=by
  unfold Mn;rw[D];rcases E with rfl|⟨a,M,rfl⟩<;>rfl
 rw[e];exact⟨D,E⟩
def Ig (K:Kf) (c:Cv):Cv:={c with aG:=bA ((Ms (Ab K c)).getD []) 77}
def Q9 (K:Kf) (c:Cv) (s:Int):Int:=gA ((Mb (I s::Ab K c)).getD []) 0
end Go.Bm
namespace Go.Bm
def Cx (K:Kf) (c:Cv):Int×Cv:=
 if c.aL=true/\c.m0=wrap .i64 ((AN K c).1*256)then
  (if 0 <= (AN K c).2 then
   (if(mkK K (AN K c).2).item=(CE K c (AN K c).2).2.y0/\(itK K (mkK K (AN K c).2).item).kind=5/\(CE K c (AN K c).2).2.e0=1 then((CE K c (AN K c).2).1,Co (CE K c (AN K c).2).2)else CE K c (AN K c).2)
  else if K.closed=true then(7,{c with aH:=7})else(1,c))
 else(if c.g0≠0/\c.aL=true then 6 else 1,DB K c (AN K c).1)
theorem Z9n {T U V X:Fn} {K:Kf} {c:Cv} (h:KOK K) (J:(AN K c).2= -1\/0<=(AN K c).2/\c.next<=(AN K c).2/\(AN K c).2<K.p.aC.length)
  (hL:X (Ab K c)=some (I (AN K c).1::I (AN K c).2::Ab K c)) (Y:0<=(AN K c).2->(AN K c).2<K.p.aC.length->V (I (AN K c).2::Ab K c)=some (I (CE K c (AN K c).2).1::Ab K (CE K c (AN K c).2).2))
  (hF:∀c,U (Ab K c)=some (Ab K (Co c))) (L:T (I (AN K c).1::Ab K c)=some (Ab K (DB K c (AN K c).1))):
  XX T U V X (Ab K c)=some (I (Cx K c).1::Ab K (Cx K c).2):=by
 rw[Zyz];unfold Cx;generalize DB K c (AN K c).1=mv at*;have a0:=Y;generalize hb:CE K c (AN K c).2=E at*;clear hb;generalize AN K c=D at*;refine eB hL ?_;have G:∀{a:Prop} [Decidable a],¬(c.aL=true/\c.m0=wrap .i64 (D.1*256))->∀{x:Option (List AC)},x=some (I (if c.g0≠0/\c.aL=true then 6 else 1)::Ab K mv)->
   x=some (I (if c.aL=true/\c.m0=wrap .i64 (D.1*256)then(if 0<=D.2 then(if(mkK K D.2).item=E.2.y0/\(itK K (mkK K D.2).item).kind=5/\E.2.e0=1 then(E.1,Co E.2)else E)else if K.closed=true then(7,{c with aH:=7})else(1,c))else(if c.g0≠0/\c.aL=true then 6 else 1,mv)).1::Ab K (if c.aL=true/\c.m0=wrap .i64 (D.1*256)then(if 0<=D.2 then(if(mkK K D.2).item=E.2.y0/\(itK K (mkK K D.2).item).kind=5/\E.2.e0=1 then(E.1,Co E.2)else E)else if K.closed=true then(7,{c with aH:=7})else(1,c))else(if c.g0≠0/\c.aL=true then 6 else 1,mv)).2):=λhn _ hx=>by
  rw[ab hn];exact hx
 refine eC (λs=>eC (λe=> ?_) λe=> ?_) λs=> ?_
 ·have s:c.aL=true:=s;have e:c.m0=wrap .i64 (D.1*256):=eq_of_beq e;rw[aa ⟨s,e⟩];refine eC (λk=> ?_) λk=> ?_
  ·have k:0<=D.2:=Bb k;rw[aa k];have M:D.2<K.p.aC.length:=by
    rcases J with J|J
    ·omega
    ·exact J.2.2
   have N:=UJ h k M;refine eB (Y k M) (eT (inM (f:=At) k M) ?_);have O:nth [] (K.p.aC.map At) D.2.toNat=At (mkK K D.2):=Lz k M;have S:nth [] (K.items.map Ag) (mkK K D.2).item.toNat=Ag (itK K (mkK K D.2).item):=Ii N.1 N.2.1;refine eC (λy=> ?_) λy=> ?_
   ·have y:(mkK K D.2).item=E.2.y0:=by
     have:=eq_of_beq (show(gA (nth [] (K.p.aC.map At) D.2.toNat) 2==E.2.y0)=true from y);rw[O]at this;exact this
    refine eT (show(decide (0<=gA (nth [] (K.p.aC.map At) D.2.toNat) 2)&&decide (gA (nth [] (K.p.aC.map At) D.2.toNat) 2<((K.items.map Ag).length:Int)))=true by rw[O];exact inM (f:=Ag) (l:=K.items) (i:=(mkK K D.2).item) N.1 N.2.1) ?_;have ek:gA (nth [] (K.items.map Ag) (gA (nth [] (K.p.aC.map At) D.2.toNat) 2).toNat) 0=(itK K (mkK K D.2).item).kind:=by
     rw[O];show gA (nth [] (K.items.map Ag) (mkK K D.2).item.toNat) 0=_;rw[S];rfl
    refine eC (λq=> ?_) λq=> ?_
    ·have q:(itK K (mkK K D.2).item).kind=5:=by rw[<-ek];exact eq_of_beq q
     refine eC (λz=> ?_) λz=> ?_
     ·have z:E.2.e0=1:=eq_of_beq z;rw[aa ⟨y,q,z⟩];exact eB (hF E.2) rfl
     ·have z:E.2.e0≠1:=λe=>by have:(E.2.e0==1)=false:=z;rw[beT e]at this;cases this
      rw[ab (λw=>z w.2.2)];rfl
    ·have q:(itK K (mkK K D.2).item).kind≠5:=λe=>by
      have:(gA (nth [] (K.items.map Ag) (gA (nth [] (K.p.aC.map At) D.2.toNat) 2).toNat) 0==5)=false:=q;rw[ek,beT e]at this;cases this
     rw[ab (λw=>q w.2.1)];rfl
   ·have y:(mkK K D.2).item≠E.2.y0:=λe=>by
     have:(gA (nth [] (K.p.aC.map At) D.2.toNat) 2==E.2.y0)=false:=y;rw[O]at this;rw[show(gA (At (mkK K D.2)) 2==E.2.y0)=true from beT e]at this;cases this
    rw[ab (λw=>y w.1)];rfl
  ·have k: ¬0<=D.2:=Bs k;rw[ab k];refine eC (λq=> ?_) λq=> ?_
   ·rw[aa (show K.closed=true from q)];rfl
   ·rw[ab (show¬K.closed=true by rw[show K.closed=false from q];simp)];rfl
 ·have e:c.m0≠wrap .i64 (D.1*256):=λe'=>by
   have:(c.m0==wrap .i64 (D.1*256))=false:=e;rw[beT e']at this;cases this
  refine G (a:=True) (λw=>e w.2) ?_;refine eC (λq=> ?_) λq=> ?_
  ·have q:c.g0≠0:=λe=>by
    have:(c.g0 !=0)=true:=q;rw[bnF e]at this;cases this
   refine eB L (eT (show c.aL=true from s) ?_);rw[aa ⟨q,show c.aL=true from s⟩];rfl
  ·have q:c.g0=0:=Decidable.byContradiction λe=>by
    have:(c.g0 !=0)=false:=q;rw[bnT e]at this;cases this
   refine eB L ?_;rw[ab (λw=>w.1 q)];rfl
 ·have s:c.aL=false:=s;refine G (a:=True) (λw=>by rw[s]at w;cases w.1) ?_;refine eC (λq=> ?_) λq=> ?_
  ·refine eB L (eF (show c.aL=false from s) ?_);rw[ab (λw=>by rw[s]at w;cases w.2)];rfl
  ·refine eB L ?_;rw[ab (λw=>by rw[s]at w;cases w.2)];rfl
theorem Zas {K:Kf} {c:Cv} {n:Int} (h:KOK K) (g:Gd K n c) (D:0<=n/\n<=10000):Ki (Ab K c)=some (I (Cx K c).1::Ab K (Cx K c).2):=
 Z9n h (Qur K c) (Zuy h c) (λE G=>Zun h E G) (WM K) (Zi6 h g D _)
def swI (s:Int) (it:Itm):Int:=one JB (I s::Ag it)
theorem Zwt (s:Int) (it:Itm):JB (I s::Ag it)=some [I (swI s it)]:=by
 have key:∃v,JB (I s::Ag it)=some [I v]:=by
  show∃v,UF (I s::Ag it)=some [I v];rw[Zcb];by_cases D:it.kind=10
  ·rw[Bn (bnF D)];by_cases E:it.n<0
   ·rw[BO (al E)];exact⟨_,rfl⟩
   ·rw[Bn (am E)];by_cases G:it.n>=16
    ·rw[BO (al G)];exact⟨_,rfl⟩
    ·rw[Bn (am G),Bn (am (by simp[IntKind.wrap,IntKind.signed,IntKind.bits];omega))];cases it.on<;>exact⟨_,rfl⟩
  ·rw[BO (bnT D)];exact⟨_,rfl⟩
 obtain⟨v,h⟩:=key;exact Qk1 h
def BB (K:Kf) (s:Int):List Mrk->Cv->List Int×Cv
 |[],c=>([],c)
 |m::l,c=>if m.at_>s\/(m.at_=s/\c.next<=c.aJ/\Ca m.kind c=true)then([],c)
  else if m.kind=5 then(m.item::(BB K s l {c with outs:=swI c.outs (itK K m.item),aJ:=c.aJ+1}).1,(BB K s l {c with outs:=swI c.outs (itK K m.item),aJ:=c.aJ+1}).2)
  else BB K s l {c with aJ:=c.aJ+1}
def Bx (K:Kf) (c:Cv) (s:Int):List Int×Cv:=BB K s (K.p.aC.drop c.aJ.toNat) c
theorem Z4o {J L:Fn} {K:Kf} {c:Cv} (h:KOK K) (T:0<=c.aJ/\c.aJ<=K.p.aC.length) (s:Int)
  (V:∀(c:Cv) (at_ k it:Int),L [I at_,I k,I it,I c.o0,I c.o1,B c.o2,B c.o3,B c.o4]=some [B (Ca k c)]) (X:∀(s:Int) (it:Itm),J (I s::Ag it)=some [I (swI s it)]):
  Qpy J L (Al (R3 J L)) (I s::Ab K c)=some (.view Aa ((Bx K c s).1.map Ao)::Ab K (Bx K c s).2):=by
 rw[Z9h];have key:Out (λo=>o=(1, .view Aa ((Bx K c s).1.map Ao)::Ab K (Bx K c s).2)) (Al (R3 J L) (.view Aa (([]:List Int).map Ao)::I s::Ab K c)):=by
  have hc:=h.count;refine Cl (λz:List Int×Cv=> .view Aa (z.1.map Ao)::I s::Ab K z.2)
   (λz=>0<=z.2.aJ/\z.2.aJ<=K.p.aC.length/\(z.1.length:Int)<=z.2.aJ/\(Bx K c s).1=z.1++(BB K s (K.p.aC.drop z.2.aJ.toNat) z.2).1/\(Bx K c s).2=(BB K s (K.p.aC.drop z.2.aJ.toNat) z.2).2)
   (λz=>(K.p.aC.length-z.2.aJ).toNat) _ ?_ ([],c) ⟨T.1,T.2,by simp;omega,rfl,rfl⟩
  rintro⟨l,d⟩ ⟨g1,g2,Y,E,G⟩;dsimp only at g1 g2 Y E G;refine Out.eqv (Zot J L _ _ K d) ?_;refine .cond (λk=> ?_) λk=> ?_
  ·have k:d.aJ<((K.p.aC.map At).length:Int):=Bb k;rw[af]at k;have U:d.aJ.toNat<K.p.aC.length:=by omega
   have em:mkK K d.aJ=K.p.aC[d.aJ.toNat]:=by unfold mkK;rw[List.getD,ah U];rfl
   have M:=UJ h g1 k;rw[List.drop_eq_getElem_cons U,<-em]at E G;unfold BB at E G;refine .cond (λ_=> ?_) λe=>(inB g1 (by rw[af];exact k) e).elim;rw[Lz g1 k];generalize O:mkK K d.aJ=m at*;have wp:wrap .i64 (d.aJ+1)=d.aJ+1:=Ae (by omega);have N:(d.aJ+1).toNat=d.aJ.toNat+1:=by omega
   have stop:(m.at_>s\/(m.at_=s/\d.next<=d.aJ/\Ca m.kind d=true))->∀{x:List AC},x= .view Aa (l.map Ao)::Ab K d->Out (λo:Nat×List AC=>(o.1=0/\∃D:List Int×Cv,o.2= .view Aa (D.1.map Ao)::I s::Ab K D.2/\(0<=D.2.aJ/\D.2.aJ<=K.p.aC.length/\(D.1.length:Int)<=D.2.aJ/\(Bx K c s).1=D.1++(BB K s (K.p.aC.drop D.2.aJ.toNat) D.2).1/\(Bx K c s).2=(BB K s (K.p.aC.drop D.2.aJ.toNat) D.2).2)/\(K.p.aC.length-D.2.aJ).toNat<(K.p.aC.length-d.aJ).toNat)\/(o.1≠0/\o=(1, .view Aa ((Bx K c s).1.map Ao)::Ab K (Bx K c s).2))) (some (1,x)):=λS _ hx=>by
    rw[aa S]at E G;subst hx;refine .some (.inr ⟨by simp,?_⟩);rw[E,G,List.append_nil]
   have go: ¬(m.at_>s\/(m.at_=s/\d.next<=d.aJ/\Ca m.kind d=true))->Out (λo:Nat×List AC=>(o.1=0/\∃D:List Int×Cv,o.2= .view Aa (D.1.map Ao)::I s::Ab K D.2/\(0<=D.2.aJ/\D.2.aJ<=K.p.aC.length/\(D.1.length:Int)<=D.2.aJ/\(Bx K c s).1=D.1++(BB K s (K.p.aC.drop D.2.aJ.toNat) D.2).1/\(Bx K c s).2=(BB K s (K.p.aC.drop D.2.aJ.toNat) D.2).2)/\(K.p.aC.length-D.2.aJ).toNat<(K.p.aC.length-d.aJ).toNat)\/(o.1≠0/\o=(1, .view Aa ((Bx K c s).1.map Ao)::Ab K (Bx K c s).2))) (Pn K d (l.map Ao) J s):=λS=>by
    rw[ab S]at E G;unfold Pn;rw[Lz g1 k,O,wp];refine .cond (λq=> ?_) λq=> ?_
    ·have q:m.kind=5:=eq_of_beq q;rw[aa q]at E G;refine .cond (λ_=> ?_) λe=>by rw[Cy (by simp;omega)]at e;cases e
     refine .cond (λ_=> ?_) λe=>(inB (show 0<=gA (At m) 2 from M.1) (show gA (At m) 2<((K.items.map Ag).length:Int) by rw[af];exact M.2.1) e).elim;rw[show nth [] (K.items.map Ag) (gA (At m) 2).toNat=Ag (itK K m.item)from Ii M.1 M.2.1];refine .bind (p:=λo=>o=_) ⟨_,X d.outs (itK K m.item),rfl⟩ λo e=> ?_;subst e;refine .some (.inl ⟨rfl,(l++[m.item],{d with outs:=swI d.outs (itK K m.item),aJ:=d.aJ+1}),?_,⟨by dsimp only;omega,by dsimp only;omega,by simp;omega,?_,?_⟩,by dsimp only;omega⟩)
     ·rw[bz];rfl
     ·dsimp only;rw[E,N];simp
     ·dsimp only;rw[G,N]
    ·have q:m.kind≠5:=by simpa [gA,nth,Af]using q
     rw[ab q]at E G;refine .some (.inl ⟨rfl,(l,{d with aJ:=d.aJ+1}),rfl,⟨by dsimp only;omega,by dsimp only;omega,by dsimp only;omega,?_,?_⟩,by dsimp only;omega⟩)
     ·dsimp only;rw[E,N]
     ·dsimp only;rw[G,N]
   refine .cond (λa=>stop (.inl (Bb a)) rfl) λa=> ?_;have a: ¬m.at_>s:=Bs a;refine .cond (λb=> .cond (λe=> ?_) λe=>go λw=> ?_) λb=>go λw=> ?_
   ·refine .bind (p:=λo=>o=_) ⟨_,V d _ _ _,rfl⟩ λo q=> ?_;subst q;refine .cond (λq=>stop (.inr ⟨eq_of_beq b,Bb e,q⟩) rfl) λq=>go λw=> ?_;have q:Ca m.kind d=false:=q;rcases w with w|w
    ·exact a w
    ·rw[q]at w;cases w.2.2
   ·rcases w with w|w
    ·exact a w
    ·exact Bs e w.2.1
   ·rcases w with w|w
    ·exact a w
    ·have:(m.at_==s)=false:=b;rw[beT w.1]at this;cases this
  ·have k: ¬d.aJ<((K.p.aC.map At).length:Int):=Bs k;rw[af]at k;rw[List.drop_of_length_le (by omega)]at E G;refine .some (.inr ⟨by simp,?_⟩);rw[E,G];simp[BB]
 obtain⟨o,h1,rfl⟩:=key;exact eB h1 rfl
theorem Qxw {K:Kf} {c:Cv} (h:KOK K) (D:0<=c.aJ/\c.aJ<=K.p.aC.length) (s:Int):Nw (I s::Ab K c)=some (.view Aa ((Bx K c s).1.map Ao)::Ab K (Bx K c s).2):=
 Z4o h D s (λc at_ k it=>Qwb at_ k it c) Zwt
def A0 (K:Kf) (c:Cv):Int×Cv:=
 if c.g0=2 then(6,stand c)else if c.aH≠0 then(c.aH,c)
 else if c.aG=true/\c.aL=true then(8,{c with aH:=8})else if c.on=true then AX K c else(0,c)
theorem Zni (K:Kf) (c:Cv):(E_ K c).1≠0:=by
 unfold E_
 (repeat' split)<;>simp
theorem Q9i (K:Kf) (c:Cv):(AX K c).1≠0:=Zni K (BL c)
abbrev CJ (K:Kf) (frm i:Int) (c:Cv):List AC:=I frm::I 5::I i::(B9++(B9++Ab K c))
abbrev LD (K:Kf) (frm mode:Int) (c:Cv):List AC:=I frm::(B9++([.view kPt [], .view Aa [],I mode,I 0,I 0,I 0,I 0,I 0,I 0]++Ab K c))
theorem Z87 {M:Lp} {N O D E G J L S T U V X:Fn} {K:Kf} {c:Cv} (frm:Int)
  (Y:L (Ab K c)=some (if c.g0=2 then I 6::B true::Ab K (stand c)else I 0::B false::Ab K c))
  (hO:J (Ab K c)=some (I c.aH::B (c.aH !=0)::Ab K c))
  (hP:G (Ab K c)=some (if c.aG=true/\c.aL=true then I 8::B true::Ab K {c with aH:=8}else I 0::B false::Ab K c))
  (hB:E (Ab K c)=some (if c.on=true then I (AX K c).1::B true::Ab K (AX K c).2 else I 0::B false::Ab K c))
  (hG:D (Ab K c)=some (I 0::B false::Ab K c)):
  Al (E7 N O D E G J L S T U V X M) (CJ K frm 0 c)=some (1,LD K frm (A0 K c).1 (A0 K c).2):=by
 have w:∀i:Int,0<=i->i<5->wrap .i64 (i+1)=i+1:=λi _ _=>Ae (by omega);have e:=λi=>Q6s N O D E G J L S T U V X M frm 5 i [] [] 0 0 0 0 0 0 0 [] [] 0 0 0 0 0 0 0 K c;have s0:c.g0≠2->E7 N O D E G J L S T U V X M (CJ K frm 0 c)=some (0,CJ K frm 1 c):=λh=>by
  refine Eq.trans (e 0) (eT rfl (eT rfl (eB Y ?_)));rw[ab h];rfl
 have s1:c.aH=0->E7 N O D E G J L S T U V X M (CJ K frm 1 c)=some (0,CJ K frm 2 c):=λh=>by
  refine Eq.trans (e 1) (eT rfl (eF rfl (eT rfl (eB hO ?_))));rw[h];rfl
 have s2: ¬(c.aG=true/\c.aL=true)->E7 N O D E G J L S T U V X M (CJ K frm 2 c)=some (0,CJ K frm 3 c):=λh=>by
  refine Eq.trans (e 2) (eT rfl (eF rfl (eF rfl (eT rfl (eB hP ?_)))));rw[ab h];rfl
 have s3:c.on=false->E7 N O D E G J L S T U V X M (CJ K frm 3 c)=some (0,CJ K frm 4 c):=λh=>by
  refine Eq.trans (e 3) (eT rfl (eF rfl (eF rfl (eF rfl (eT rfl (eB hB ?_))))));rw[ab (by rw[h];simp)];rfl
 have s4:E7 N O D E G J L S T U V X M (CJ K frm 4 c)=some (0,CJ K frm 5 c):=by
  refine Eq.trans (e 4) (eT rfl (eF rfl (eF rfl (eF rfl (eF rfl (eT rfl (eB hG ?_)))))));rfl
 have s5:E7 N O D E G J L S T U V X M (CJ K frm 5 c)=some (1,LD K frm 0 c):=by
  exact Eq.trans (e 5) (eF rfl rfl)
 unfold A0;by_cases h:c.g0=2
 ·rw[aa h];refine A7 (Eq.trans (e 0) (eT rfl (eT rfl (eB Y ?_)))) (by simp);rw[aa h];rfl
 rw[ab h,Bv (s0 h)];by_cases h:c.aH=0
 ·rw[ab (by simpa using h),Bv (s1 h)];by_cases h:c.aG=true/\c.aL=true
  ·rw[aa h];refine A7 (Eq.trans (e 2) (eT rfl (eF rfl (eF rfl (eT rfl (eB hP ?_)))))) (by simp);rw[aa h];rfl
  ·rw[ab h,Bv (s2 h)];cases h:c.on
   ·rw[ab (by simp),Bv (s3 h),Bv s4];exact A7 s5 (by simp)
   ·rw[aa rfl];refine A7 (Eq.trans (e 3) (eT rfl (eF rfl (eF rfl (eF rfl (eT rfl (eB hB ?_))))))) (by simp);rw[aa h];generalize AX K c=wk;rfl
 ·rw[aa h];refine A7 (Eq.trans (e 1) (eT rfl (eF rfl (eT rfl (eB hO ?_))))) (by simp);rw[bnT h];rfl
theorem Z6e {K:Kf} {c:Cv} {n:Int} (h:KOK K) (g:Gd K n c):KQ (Ab K c)=some (if c.on=true then I (AX K c).1::B true::Ab K (AX K c).2 else I 0::B false::Ab K c):=by
 have key:∀{M:Fn},(c.on=true->M (Ab K c)=some (I (AX K c).1::Ab K (AX K c).2))->UW M (Ab K c)=some (if c.on=true then I (AX K c).1::B true::Ab K (AX K c).2 else I 0::B false::Ab K c):=by
  intro M D;rw[Q0e];cases e:c.on
  ·rw[ab (by simp)];rfl
  ·rw[aa rfl];have D:=D e;generalize AX K c=E at*;exact eB D rfl
 exact key λe=>Z0 h (g.task e).1 (g.task e).2
abbrev FO (c:Cv):Cv:={c with aI:=false,aK:=false}
def DS (c:Cv) (E:List Evn):Cv:=E.foldl (λc e=>evC c e.kind e.n) (FO c)
def Qb1 (E:List Evn):Prop:=E.length<=1000000/\∀e∈E,e.kind≠7/\e.kind≠12/\e.kind≠13
theorem Zem {L M D N O S T U V X Y G:Fn} {K:Kf} {c:Cv} {E:List Evn} (hE:Qb1 E)
  (hV:∀(c:Cv) (x:Int) {k:Int} (n:Int),k≠7/\k≠12/\k≠13->G (I x::I k::I n::Ab K c)=some (Ab K (evC c k n))):
  Al (Nq L M D N O S T U V X Y G) (.view kPt (E.map evR)::I (E.map evR).length::I 0::(B9++Ab K (FO c)))=some (1,B9++Ab K (DS c E)):=by
 have key:Out (λo=>o=(1,B9++Ab K (DS c E))) (Al (Nq L M D N O S T U V X Y G) (.view kPt (E.map evR)::I (E.map evR).length::I ((0:Nat):Int)::(B9++Ab K (DS c (E.take 0))))):=by
  refine Cl (λi:Nat=> .view kPt (E.map evR)::I (E.map evR).length::I (i:Int)::(B9++Ab K (DS c (E.take i)))) (λi=>i<=E.length) (λi=>E.length-i) _ ?_ 0 (by simp);intro i J;have hl:=hE.1;refine Out.eqv (Qzb L M D N O S T U V X Y G (E.map evR) (E.map evR).length i [] [] 0 0 0 0 0 0 0 K (DS c (E.take i))) ?_;refine .cond (λk=> ?_) λk=> ?_
  ·have k:(i:Int)<((E.map evR).length:Int):=Bb k;have J:i<E.length:=by rw[af]at k;omega
   refine .cond (λ_=> ?_) λe=>(inB (by omega) k e).elim;rw[Qfs E J];refine .bind (p:=λo=>o=_) ⟨_,hV (DS c (E.take i)) E[i].cycle E[i].n (hE.2 _ (bm J)),rfl⟩ λo e=> ?_;subst e;have e1:DS c (E.take (i+1))=evC (DS c (E.take i)) E[i].kind E[i].n:=by
    unfold DS;rw[List.take_add_one,ah J,List.foldl_append];rfl
   rw[Ae (x:=(i:Int)+1) (by omega)];refine .some (.inl ⟨rfl,i+1,?_,by omega,by omega⟩);rw[e1];have st:∀d:Cv,B9++cR 0 (Ab K d)=B9++Ab K d:=λ_=>rfl;exact congrArg (λz=>AC.view kPt (E.map evR)::I (E.map evR).length::I ((i:Int)+1)::z) (st (evC (DS c (E.take i)) E[i].kind E[i].n))
  ·have k: ¬(i:Int)<((E.map evR).length:Int):=Bs k;rw[af]at k;rw[List.take_of_length_le (by omega)];generalize DS c E=d;exact .some (.inr ⟨by simp,rfl⟩)
 obtain⟨o,h1,rfl⟩:=key;exact h1
def Mw (K:Kf) (frm u:Int):Rw:=wA ((Kj (pxt K.p K.x K.t [I frm,I u])).getD []) 0
theorem Q67 {K:Kf} (h:KOK K) (frm u:Int) (D:u-frm<=1000000000000):Out (λo=>wA o 0=Mw K frm u) (Kj (pxt K.p K.x K.t [I frm,I u])):=
 ⟨_,Qfy (Z79 h.f frm u D),rfl⟩
abbrev F8 (K:Kf) (c:Cv):Pt:=Eo K.p K.x K.t (AB c)
theorem Z8t {D E G J L:Fn} {K:Kf} {c:Cv} (O:c.way=0) (S:c.aK=false) {frm mode:Int}
  (T:L (Ab K c)=some [I (AB c)]) (U:J (Ab K c)=some [I (AA K c)]) (M:Out (λo=>wA o 0=Mw K frm (AB c)) (G (pxt K.p K.x K.t [I frm,I (AB c)])))
  (N:∀s,E (I s::Ab K c)=some (.view Aa ((Bx K c s).1.map Ao)::Ab K (Bx K c s).2)) (V:∀s,∃n q:Int,(Bx K c s).2={c with aJ:=n,outs:=q}) (X:∀u,D (pxt K.p K.x K.t [I u])=some (ptR (Eo K.p K.x K.t u))):
  R1 D E G J L (I frm::(Ab K c++[.view kPt [], .view Aa [],I mode,I 0,I 0,I 0,I 0,I 0,I 0]))=
   some (Ab K (Bx K c (AA K c)).2++HR (Mw K frm (AB c)) ((Bx K c (AA K c)).1.map Ao) mode (AA K c) (F8 K c) c.s3 c.g1):=by
 refine Eq.trans (Q5g D E G J L frm [] [] mode 0 0 0 0 0 0 K c) ?_;obtain⟨o,M,Y⟩:=M;rw[<-Y];refine eB T (eB U (eT (show(!c.aK)=true by rw[S];rfl) (eB M (eT (show(c.way==0)=true from beT O) ?_))));have N:=N (AA K c);obtain⟨n,q,hq⟩:=V (AA K c);generalize Bx K c (AA K c)=ps at*;refine eB N ?_;rw[hq];refine eB (X (AB c)) ?_;rw[show F8 K c=Eo K.p K.x K.t (AB c)from rfl];generalize Eo K.p K.x K.t (AB c)=mt;rfl
theorem Qhn (K:Kf) (s:Int):∀(l:List Mrk) (c:Cv),∃n q:Int,(BB K s l c).2={c with aJ:=n,outs:=q}
 |[],c=>⟨c.aJ,c.outs,rfl⟩
 |m::l,c=>by
  unfold BB;split
  ·exact⟨c.aJ,c.outs,rfl⟩
  ·split
   ·obtain⟨n,q,h⟩:=Qhn K s l {c with outs:=swI c.outs (itK K m.item),aJ:=c.aJ+1};exact⟨n,q,h⟩
   ·obtain⟨n,q,h⟩:=Qhn K s l {c with aJ:=c.aJ+1};exact⟨n,q,h⟩
theorem Rs (K:Kf) (c:Cv) (s:Int):∃n q:Int,(Bx K c s).2={c with aJ:=n,outs:=q}:=Qhn K s _ c
theorem Zl2 {K:Kf} {c:Cv} {n:Int} (h:KOK K) (g:Gd K n c) (D:0<=n/\n<=10010) (E:c.aK=false) {frm mode:Int} (hf: -300000000000<=frm/\frm<=300000000000):
  Li (I frm::(Ab K c++[.view kPt [], .view Aa [],I mode,I 0,I 0,I 0,I 0,I 0,I 0]))=
   some (Ab K (Bx K c (AA K c)).2++HR (Mw K frm (AB c)) ((Bx K c (AA K c)).1.map Ao) mode (AA K c) (F8 K c) c.s3 c.g1):=
 Z8t g.way E (Lu K c) (M_ h c) (Q67 h frm (AB c) (by have:=Yf g D;omega)) (λs=>Qxw h g.pass s) (Rs K c) (Qe h.f)
def E0 (c:Cv):Cv:=if c.aG=true\/c.g0≠0 then{c with o2:=true}else c
def Bc (c:Cv):Cv:={c with before:=c.s3}
def Fb (K:Kf) (c:Cv):Cv:=if HP K c=true then c else spS c K.ramp
def Gh (c:Cv):Cv:={c with aL:=Di c}
def IG (K:Kf) (c:Cv) (E:List Evn):Cv:=Gh (Fb K (Bc (E0 (DS c E))))
def stC (K:Kf) (c:Cv) (E:List Evn):Int×Cv:=if(A0 K (IG K c E)).1=0 then Cx K (A0 K (IG K c E)).2 else A0 K (IG K c E)
def KW (K:Kf) (c:Cv) (E:List Evn):Cv:=(Bx K (stC K c E).2 (AA K (stC K c E).2)).2
def Zzi (K:Kf) (c:Cv) (E:List Evn):List Int:=(Bx K (stC K c E).2 (AA K (stC K c E).2)).1
def tkC (K:Kf) (c:Cv) (E:List Evn):List AC:=
 HR (Mw K (AB (DS c E)) (AB (stC K c E).2)) ((Zzi K c E).map Ao) (stC K c E).1 (AA K (stC K c E).2) (F8 K (stC K c E).2) (stC K c E).2.s3 (stC K c E).2.g1
theorem Z09 {D:Lp} {L M:Fn} {K:Kf} {d:Cv} {frm:Int} {o:Nat×List AC} (E:∃e,o.2=B9++Ab K e)
  (J:D (CJ K frm 0 d)=some (1,LD K frm (A0 K d).1 (A0 K d).2))
  (O:(A0 K d).1=0->L (Ab K (A0 K d).2)=some (I (Cx K (A0 K d).2).1::Ab K (Cx K (A0 K d).2).2))
  {s:Int×Cv} (G:s=if(A0 K d).1=0 then Cx K (A0 K d).2 else A0 K d)
  {pul outs:Rw} {pos sp ft:Int} {mt:Pt} {q:Cv}
  (N:M (I frm::(Ab K s.2++[.view kPt [], .view Aa [],I s.1,I 0,I 0,I 0,I 0,I 0,I 0]))=some (Ab K q++HR pul outs s.1 pos mt sp ft)):
  GQ D o L M (I frm) (Ab K d)=some (HR pul outs s.1 pos mt sp ft++Ab K q):=by
 obtain⟨o1,o2⟩:=o;obtain⟨e,E⟩:=E;dsimp only at E;subst E;refine eB J (eT rfl ?_);generalize A0 K d=r at*;generalize Cx K r.2=w at*;by_cases h:r.1=0
 ·rw[aa h]at G;subst G;refine eT (show(r.1==0)=true from beT h) (eB (O h) (eB N rfl))
 ·rw[ab h]at G;subst G;exact eF (show(s.1==0)=false from beF h) (eB N rfl)
theorem Z9g {J L M V X Y MU N O S T MV:Fn} {U D:Lp} {K:Kf} {c:Cv} {E:List Evn}
  (h3:U (.view kPt (E.map evR)::I (E.map evR).length::I 0::(B9++Ab K (FO c)))=some (1,B9++Ab K (DS c E)))
  (hT:∀c,T (Ab K c)=some [B (HP K c)]) (hX:∀(c:Cv) (ramp:Int),S [I c.s0,I c.s1,I c.s2,I c.s3,I ramp]=some [I (spS c ramp).s0,I (spS c ramp).s1,I (spS c ramp).s2,I (spS c ramp).s3])
  (hN:∀c,O (Ab K c)=some [I (AB c)]) (hS:∀c:Cv,N [I c.m0,I c.m1,I c.m2,I c.m3,I c.m4,I c.m5]=some [B (Di c)])
  (G:∀o:Nat×List AC,(∃e,o.2=B9++Ab K e)->GQ D o L J (I (AB (DS c E))) (Ab K (IG K c E))=some (tkC K c E++Ab K (KW K c E))):
  UK J L M V X Y MU N O S T MV U D (.view kPt (E.map evR)::Ab K c)=some (tkC K c E++Ab K (KW K c E)):=by
 refine Eq.trans (Qzr J L M V X Y MU N O S T MV U D (E.map evR) K c) ?_;refine eB h3 (eT rfl ?_);unfold IG at G;generalize tkC K c E=tk at*;generalize KW K c E=sc at*;generalize DS c E=d at*
 have rest:∀b:Cv,E0 d=b->AB b=AB d->Di b=Di d->
   ((T (Ab K (Bc b))).bind λo => bif !bA o 0 then (S [I b.s0, I b.s1, I b.s2, I b.s3, I K.ramp]).bind λo2 => (O (Ab K { Bc b with s0 := gA o2 0, s1 := gA o2 1, s2 := gA o2 2, s3 := gA o2 3 })).bind λo3 => (N [I d.m0, I d.m1, I d.m2, I d.m3, I d.m4, I d.m5]).bind λo4 => GQ D (1, B9 ++ Ab K d) L J (jA o3 0) (Ab K { Bc b with s0 := gA o2 0, s1 := gA o2 1, s2 := gA o2 2, s3 := gA o2 3, aL := bA o4 0 })
    else(O (Ab K (Bc b))).bind λo3=>(N [I d.m0,I d.m1,I d.m2,I d.m3,I d.m4,I d.m5]).bind λo4=>GQ D (1,B9++Ab K d) L J (jA o3 0) (Ab K {Bc b with aL:=bA o4 0}))=some (tk++Ab K sc):=λb hb hu hs=>by
  have G:=G (1,B9++Ab K d) ⟨d,rfl⟩;rw[hb]at G;refine eB (hT (Bc b)) ?_;cases ht:HP K (Bc b)
  ·have e1:Fb K (Bc b)=spS (Bc b) K.ramp:=by unfold Fb;rw[ab (by rw[ht];simp)]
   rw[e1]at G;refine eT rfl (eB (hX b K.ramp) ?_);refine Eq.trans (congrArg (λz=>Option.bind z _) (hN (spS (Bc b) K.ramp))) (eB rfl (eB (hS d) ?_));have e2:AB (spS (Bc b) K.ramp)=AB d:=hu;have e3:({spS (Bc b) K.ramp with aL:=Di d}:Cv)=Gh (spS (Bc b) K.ramp):=by
    unfold Gh;rw[show Di (spS (Bc b) K.ramp)=Di b from rfl,hs]
   rw[<-e3,<-e2]at G;exact G
  ·have e1:Fb K (Bc b)=Bc b:=by unfold Fb;rw[aa ht]
   rw[e1]at G;refine eF rfl ?_;refine Eq.trans (congrArg (λz=>Option.bind z _) (hN (Bc b))) (eB rfl (eB (hS d) ?_));have e2:AB (Bc b)=AB d:=hu;have e3:({Bc b with aL:=Di d}:Cv)=Gh (Bc b):=by
    unfold Gh;rw[show Di (Bc b)=Di b from rfl,hs]
   rw[<-e3,<-e2]at G;exact G
 refine eC (λt=> ?_) λt=>eC (λq=> ?_) λq=> ?_
 ·have t:d.aG=true:=t;exact rest {d with o2:=true} (by unfold E0;rw[aa (.inl t)]) rfl rfl
 ·have q:d.g0≠0:=λe=>by
   have:(d.g0 !=0)=true:=q;rw[bnF e]at this;cases this
  exact rest {d with o2:=true} (by unfold E0;rw[aa (.inr q)]) rfl rfl
 ·have t:d.aG=false:=t;have q:d.g0=0:=Decidable.byContradiction λe=>by
   have:(d.g0 !=0)=false:=q;rw[bnT e]at this;cases this
  exact rest d (by unfold E0;rw[ab (λw=>by rcases w with w|w;rw[t]at w;cases w;exact w q)]) rfl rfl
structure Kp (c d : Cv) : Prop where
 way:d.way=c.way
 aK:d.aK=c.aK
 aJ:d.aJ=c.aJ
 outs:d.outs=c.outs
theorem Kp.rfl {c:Cv}:Kp c c:=⟨Eq.refl _,Eq.refl _,Eq.refl _,Eq.refl _⟩
theorem Kp.trans {a b c:Cv} (h:Kp a b) (g:Kp b c):Kp a c:=⟨g.way.trans h.way,g.aK.trans h.aK,g.aJ.trans h.aJ,g.outs.trans h.outs⟩
structure Sm (c d : Cv) : Prop where
 kp:Kp c d
 m0:d.m0=c.m0
 m1:d.m1=c.m1
 m2:d.m2=c.m2
 m3:d.m3=c.m3
 m4:d.m4=c.m4
 on:d.on=c.on
 idx:d.idx=c.idx
 aH:d.aH=c.aH
 aG:d.aG=c.aG
 next:d.next=c.next
theorem Sm.trans {a b c:Cv} (h:Sm a b) (g:Sm b c):Sm a c:=
 ⟨h.kp.trans g.kp,g.m0.trans h.m0,g.m1.trans h.m1,g.m2.trans h.m2,g.m3.trans h.m3,g.m4.trans h.m4,g.on.trans h.on,g.idx.trans h.idx,g.aH.trans h.aH,g.aG.trans h.aG,g.next.trans h.next⟩
theorem Sm.rfl {c:Cv}:Sm c c:=⟨Kp.rfl,Eq.refl _,Eq.refl _,Eq.refl _,Eq.refl _,Eq.refl _,Eq.refl _,Eq.refl _,Eq.refl _,Eq.refl _,Eq.refl _⟩
theorem Gd.sm {K:Kf} {n:Int} {c d:Cv} (g:Gd K n c) (h:Sm c d):Gd K n d:=g.same h.kp.way h.kp.aJ h.on h.idx h.m0 h.m1 h.m2
theorem S1 (c:Cv) (k n:Int):Sm c (evC c k n):=⟨⟨Eq.refl _,Eq.refl _,Eq.refl _,Eq.refl _⟩,Eq.refl _,Eq.refl _,Eq.refl _,Eq.refl _,Eq.refl _,Eq.refl _,Eq.refl _,Eq.refl _,Eq.refl _,Eq.refl _⟩
theorem Qys:∀(E:List Evn) (c:Cv),Sm c (E.foldl (λc e=>evC c e.kind e.n) c)
 |[],_=>Sm.rfl
 |e::E,c=>(S1 c e.kind e.n).trans (Qys E _)
theorem Zct (c:Cv) (E:List Evn):Sm (FO c) (DS c E):=Qys E _
theorem Q36 (c:Cv):Sm c (E0 c):=by
 unfold E0;split
 ·exact⟨⟨rfl,rfl,rfl,rfl⟩,rfl,rfl,rfl,rfl,rfl,rfl,rfl,rfl,rfl,rfl⟩
 ·exact Sm.rfl
theorem Zbi (K:Kf) (c:Cv):Sm c (Fb K c):=by
 unfold Fb;split
 ·exact Sm.rfl
 ·exact⟨⟨rfl,rfl,rfl,rfl⟩,rfl,rfl,rfl,rfl,rfl,rfl,rfl,rfl,rfl,rfl⟩
theorem Qy3 (K:Kf) (c:Cv) (E:List Evn):Sm (FO c) (IG K c E):=
 (Zct c E).trans ((Q36 _).trans (Sm.trans (b:=Bc (E0 (DS c E))) ⟨⟨rfl,rfl,rfl,rfl⟩,rfl,rfl,rfl,rfl,rfl,rfl,rfl,rfl,rfl,rfl⟩ ((Zbi K _).trans ⟨⟨rfl,rfl,rfl,rfl⟩,rfl,rfl,rfl,rfl,rfl,rfl,rfl,rfl,rfl,rfl⟩)))
theorem Gd.clear {K:Kf} {n:Int} {c:Cv} (g:Gd K n c):Gd K n (FO c):=⟨g.way,g.pass,g.task,g.mo,g.m0⟩
theorem Q5o {K:Kf} {n:Int} {c:Cv} (g:Gd K n c) (E:List Evn):Gd K n (IG K c E):=g.clear.sm (Qy3 K c E)
theorem Zf2 {K:Kf} {n:Int} {c:Cv} (g:Gd K n c):Gd K n (E_ K c).2/\Kp c (E_ K c).2:=by
 have done:∀d:Cv,Gd K n d->Kp c d->Gd K n (GK d)/\Kp c (GK d):=λd g k=>⟨⟨g.way,g.pass,λh=>(by cases h),g.mo,g.m0⟩,k.trans ⟨rfl,rfl,rfl,rfl⟩⟩;have cmd:∀D sp:Int,Gd K n (HJ c D sp)/\Kp c (HJ c D sp):=λD sp=>⟨⟨g.way,g.pass,g.task,g.mo,g.m0⟩,⟨rfl,rfl,rfl,rfl⟩⟩;unfold E_;split
 ·split
  ·exact done c g Kp.rfl
  ·exact⟨g,Kp.rfl⟩
 ·split
  ·exact done c g Kp.rfl
  ·split
   ·split
    ·exact⟨g,Kp.rfl⟩
    ·exact done c g Kp.rfl
   ·split
    ·split
     ·exact done _ (cmd _ _).1 (cmd _ _).2
     ·exact cmd _ _
    ·split
     ·exact⟨⟨g.way,g.pass,g.task,g.mo,g.m0⟩,⟨rfl,rfl,rfl,rfl⟩⟩
     ·exact done c g Kp.rfl
theorem Q9y {K:Kf} {n:Int} {c:Cv} (g:Gd K n c):Gd K n (AX K c).2/\Kp c (AX K c).2:=by
 have h:=Zf2 (K:=K) (c:=BL c) ⟨g.way,g.pass,g.task,g.mo,g.m0⟩;exact⟨h.1,h.2.way,h.2.aK,h.2.aJ,h.2.outs⟩
theorem Q0r {K:Kf} {n:Int} {c:Cv} (g:Gd K n c) {i:Int} (D:0<=i) (E:i<K.p.aC.length):Gd K n (CE K c i).2/\Kp c (CE K c i).2:=by
 have h:=Q9y (K:=K) (c:={c with on:=true,idx:=i,aM:=EH K c i,cnt:=0}) ⟨g.way,g.pass,λ_=>⟨D,E⟩,g.mo,g.m0⟩;exact⟨h.1,⟨h.2.way,h.2.aK,h.2.aJ,h.2.outs⟩⟩
theorem NZ {K:Kf} {n:Int} {c:Cv} (g:Gd K n c):Gd K n (Co c)/\Kp c (Co c):=by
 unfold Co;split
 ·exact⟨⟨g.way,g.pass,g.task,g.mo,g.m0⟩,⟨rfl,rfl,rfl,rfl⟩⟩
 ·exact⟨g,Kp.rfl⟩
theorem Z4a (K:Kf) (c:Cv) (l:Int):Kp c (Dg K c l):=⟨rfl,rfl,rfl,rfl⟩
theorem Gd.e0 {K:Kf} {n:Int} {c:Cv} (g:Gd K n c) (x:Int):Gd K n {c with e0:=x}:=⟨g.way,g.pass,g.task,g.mo,g.m0⟩
theorem Gd.s3 {K:Kf} {n:Int} {c:Cv} (g:Gd K n c) (x:Int):Gd K n {c with s3:=x}:=⟨g.way,g.pass,g.task,g.mo,g.m0⟩
theorem Q76 {K:Kf} {n:Int} {c:Cv} (h:KOK K) (g:Gd K n c) (E:0<=n/\n<=10000) (l:Int) {s:Sgm} (I:i64 s.lead):Gd K (n+1) (Fl K c l s)/\Kp c (Fl K c l s):=by
 have G:=YW h g E l;unfold Fl;split
 ·exact⟨G.s3 _,⟨rfl,rfl,rfl,rfl⟩⟩
 ·obtain⟨-,v,M,b,z,y,e,J,L⟩:=Qp0 h g l I;have D:Gd K (n+1) (HT c (thO K c l s.lead)):=by
   have e1:gA (thO K c l s.lead) 1=v:=by rw[J];rfl
   have:=g.move h E L;unfold HT Um;rw[e1];generalize thO K c l s.lead=o;exact this.same rfl rfl rfl rfl rfl rfl rfl
  unfold In;split
  ·exact⟨G.e0 3,⟨rfl,rfl,rfl,rfl⟩⟩
  ·split
   ·exact⟨(NZ D).1,Kp.trans (b:=HT c (thO K c l s.lead)) ⟨rfl,rfl,rfl,rfl⟩ (NZ D).2⟩
   ·exact⟨D,⟨rfl,rfl,rfl,rfl⟩⟩
theorem Zrb {K:Kf} {n:Int} {c:Cv} (h:KOK K) (g:Gd K n c) (D:0<=n/\n<=10000) (l:Int):Gd K (n+1) (DB K c l)/\Kp c (DB K c l):=by
 unfold DB;split
 ·exact⟨YW h g D l,Z4a K c l⟩
 ·rename_i G;have E:(sgK K c).lead≠0:=λe=>G (.inl e);split
  ·exact Q76 h g D l (Gz h E).2.2
  ·split
   ·have:=Q76 h (g.go (sgK K c)) D l (Gz h E).2.2;exact⟨this.1,Kp.trans (b:=goC K c (sgK K c)) ⟨rfl,rfl,rfl,rfl⟩ this.2⟩
   ·split
    ·exact⟨(NZ (g.up D.1)).1,(NZ g).2⟩
    ·exact⟨g.up D.1,Kp.rfl⟩
theorem TR {K:Kf} {n:Int} {c:Cv} (h:KOK K) (g:Gd K n c) (D:0<=n/\n<=10000):Gd K (n+1) (Cx K c).2/\Kp c (Cx K c).2:=by
 have E:=Qur K c;unfold Cx;split
 ·split
  ·rename_i k;have I:(AN K c).2<K.p.aC.length:=by
    rcases E with E|E
    ·omega
    ·exact E.2.2
   have G:=Q0r (g.up D.1) k I;split
   ·exact⟨(NZ G.1).1,G.2.trans (NZ G.1).2⟩
   ·exact G
  ·split
   ·exact⟨⟨g.way,g.pass,g.task,(g.up D.1).mo,(g.up D.1).m0⟩,⟨rfl,rfl,rfl,rfl⟩⟩
   ·exact⟨g.up D.1,Kp.rfl⟩
 ·exact Zrb h g D _
theorem Qzm {K:Kf} {n:Int} {c:Cv} (h:KOK K) (g:Gd K n c) (D:0<=n/\n<=10000):Gd K n (A0 K c).2/\Kp c (A0 K c).2:=by
 unfold A0;split
 ·exact⟨(g.stand h D).1,⟨rfl,rfl,rfl,rfl⟩⟩
 ·split
  ·exact⟨g,Kp.rfl⟩
  ·split
   ·exact⟨⟨g.way,g.pass,g.task,g.mo,g.m0⟩,⟨rfl,rfl,rfl,rfl⟩⟩
   ·split
    ·exact Q9y g
    ·exact⟨g,Kp.rfl⟩
theorem Qvj {K:Kf} {n:Int} {c:Cv} (h:KOK K) (g:Gd K n c) (D:0<=n/\n<=10000) (E:List Evn):Gd K (n+1) (stC K c E).2/\Kp (FO c) (stC K c E).2:=by
 have G:=Qzm h (Q5o g E) D;have kp:=(Qy3 K c E).kp.trans G.2;unfold stC;split
 ·have:=TR h G.1 D;exact⟨this.1,kp.trans this.2⟩
 ·exact⟨G.1.up D.1,kp⟩
theorem SR (K:Kf) (s:Int):∀(l:List Mrk) (c:Cv),c.aJ<=(BB K s l c).2.aJ/\(BB K s l c).2.aJ<=c.aJ+l.length
 |[],c=>by simp[BB]
 |m::l,c=>by
  unfold BB;split
  ·simp only[bh];omega
  ·split
   ·have:=SR K s l {c with outs:=swI c.outs (itK K m.item),aJ:=c.aJ+1};simp only[bh]at this⊢;omega
   ·have:=SR K s l {c with aJ:=c.aJ+1};simp only[bh]at this⊢;omega
theorem Zti {K:Kf} {n:Int} {c:Cv} (h:KOK K) (g:Gd K n c) (G:0<=n/\n<=10000) (E:List Evn):Gd K (n+1) (KW K c E):=by
 have D:=(Qvj h g G E).1;unfold KW;generalize(stC K c E).2=d at*;obtain⟨I,q,e⟩:=Rs K d (AA K d);have hb:=SR K (AA K d) (K.p.aC.drop d.aJ.toNat) d;rw[bq]at hb;have hb:d.aJ<=(Bx K d (AA K d)).2.aJ/\(Bx K d (AA K d)).2.aJ<=d.aJ+((K.p.aC.length-d.aJ.toNat:Nat):Int):=hb;rw[e]at hb⊢;have J:=D.pass;exact⟨D.way,by dsimp only at hb⊢;omega,D.task,D.mo,D.m0⟩
theorem Qlc {K:Kf} {c:Cv} {n:Int} (h:KOK K) (g:Gd K n c) (D:0<=n/\n<=10000) {E:List Evn} (J:Qb1 E):
  Gy (.view kPt (E.map evR)::Ab K c)=some (tkC K c E++Ab K (KW K c E)):=by
 have G:=Q5o g E;have L:=Qzm h G D;have I:=Qvj h g D E;have hf: -300000000000<=AB (DS c E)/\AB (DS c E)<=300000000000:=Yf (g.clear.sm (Zct c E)) (by omega);refine Z9g (Zem J Qup) (Q5n h) Q6j (Lu K) Qje λo M=> ?_;refine Z09 (s:=stC K c E) M (Z87 _ (Q07 K _) (Qvi K _) (Qze K _) (Z6e h G) (Q06 G.way)) (λ_=>Zas h L.1 D) rfl ?_;exact Zl2 h I.1 (by omega) I.2.aK hf
theorem Z0v (K:Kf) (c:Cv) (J:K.p.aE.length<=1000000) (i:Int):∃v:Int,Ok (I i::Ab K c)=some (I v::Ab K c):=by
 have key:Out (λo=>∃v:Int,o=(1,I v::Ab K c)) (Al Tu (I i::I 0:: .view Ah (K.p.aE.map Av)::I ((K.p.aE.map Av).length:Int)::I ((0:Nat):Int)::Ab K c)):=by
  refine Cl (λs:Int×Nat=>I i::I s.1:: .view Ah (K.p.aE.map Av)::I ((K.p.aE.map Av).length:Int)::I (s.2:Int)::Ab K c) (λs=>s.2<=K.p.aE.length) (λs=>K.p.aE.length-s.2) _ ?_ (0,0) (Nat.zero_le _);rintro⟨v,k⟩ E;dsimp only at E;refine Out.eqv (Z2p i v (K.p.aE.map Av) ((K.p.aE.map Av).length:Int) k K c) ?_;have L:((K.p.aE.map Av).length:Int)=K.p.aE.length:=by rw[af]
  refine .cond (λD=> ?_) λ_=> .some (.inr ⟨by simp,v,rfl⟩);have D:=Bb D;refine .cond (λ_=> ?_) λe=>(inB (by omega) D e).elim;refine .cond (λ_=> .some (.inr ⟨by simp,v,rfl⟩)) λ_=> ?_;rw[Ae (x:=(k:Int)+1) (by omega)];exact .some (.inl ⟨rfl,(_,k+1),rfl,by dsimp only;omega,by dsimp only;omega⟩)
 obtain⟨o,G,v,rfl⟩:=key;refine⟨v,?_⟩;show Qdg (Al Tu) _=_;rw[Zie];exact eB G (eT rfl rfl)
theorem Zkt (K:Kf) (c:Cv) (L:K.p.aE.length<=1000000) (s:Int):Mb (I s::Ab K c)=some [I (Q9 K c s)]:=by
 have key:Out (λo=>∃v:Int,o=(1,I v::Ab K c)) (Al Lc (I s::I 0::I 0:: .view Ah (K.p.aE.map Av)::I ((K.p.aE.map Av).length:Int)::I ((0:Nat):Int)::Ab K c)):=by
  refine Cl (λz:Int×Int×Nat=>I s::I z.1::I z.2.1:: .view Ah (K.p.aE.map Av)::I ((K.p.aE.map Av).length:Int)::I (z.2.2:Int)::Ab K c) (λz=>z.2.2<=K.p.aE.length) (λz=>K.p.aE.length-z.2.2) _ ?_ (0,0,0) (Nat.zero_le _);rintro⟨v,w,k⟩ G;dsimp only at G;refine Out.eqv (Zih s v w (K.p.aE.map Av) ((K.p.aE.map Av).length:Int) k K c) ?_;have M:((K.p.aE.map Av).length:Int)=K.p.aE.length:=by rw[af]
  refine .cond (λD=> ?_) λ_=> .some (.inr ⟨by simp,w,rfl⟩);have D:=Bb D;refine .cond (λ_=> ?_) λe=>(inB (by omega) D e).elim;rw[Ae (x:=(k:Int)+1) (by omega)];refine .cond (λ_=> .cond (λ_=> ?_) λ_=> ?_) λ_=> ?_;all_goals exact .some (.inl ⟨rfl,(_,_,k+1),rfl,by dsimp only;omega,by dsimp only;omega⟩)
 obtain⟨o,J,v,rfl⟩:=key;have E:Mb (I s::Ab K c)=some [I v]:=by
  show Y5 (Al Lc) _=_;refine(Zqi _ s K c).trans ?_;exact eB J rfl
 have e:Q9 K c s=v:=by unfold Q9;rw[E];rfl
 rw[e];exact E
theorem Ztp {MB J L:Fn} {K:Kf} {c:Cv} (h:KOK K) (N:L (Ab K c)=some (Av (sgK K c)++[B (El K c).isSome])) (O:J (Ab K c)=some [I (AA K c)]) (S:∀i,∃v:Int,MB (I i::Ab K c)=some (I v::Ab K c)):
  ∃b:Bool,(c.aG=true->b=true)/\Qk8 MB J L (Ab K c)=some (Ab K {c with aG:=b}):=by
 have no:∃b:Bool,(c.aG=true->b=true)/\some (Ab K c)=some (Ab K {c with aG:=b}):=⟨c.aG,id,rfl⟩;have E:∀{m:Option (List AC)} {f:Fn} {o:List AC},m=some o->(∃b:Bool,(c.aG=true->b=true)/\f o=some (Ab K {c with aG:=b}))->∃b:Bool,(c.aG=true->b=true)/\m.bind f=some (Ab K {c with aG:=b}):=λh hf=>by rw[h];exact hf
 have D:∀{b:Bool} {X Y:Option (List AC)},(b=true->∃d:Bool,(c.aG=true->d=true)/\X=some (Ab K {c with aG:=d}))->(b=false->∃d:Bool,(c.aG=true->d=true)/\Y=some (Ab K {c with aG:=d}))->∃d:Bool,(c.aG=true->d=true)/\(bif b then X else Y)=some (Ab K {c with aG:=d}):=fun{b} _ _ T U=>by
  cases b
  ·exact U rfl
  ·exact T rfl
 rw[Zfe];refine E N (D (λM=>D (λ_=>D (λ_=>D (λ_=>E O ?_) λ_=>no) λe=> ?_) λ_=>no) λ_=>no)
 ·obtain⟨v,V⟩:=S (sgK K c).item;refine E V (D (λ_=>⟨true,λ_=>rfl,rfl⟩) λ_=>⟨c.aG,id,rfl⟩)
 ·cases G:El K c with
  |none=>rw[G]at M;cases M
  |some g=>
   obtain⟨q1,q2,-⟩:=h.aE g (V4 G);have eg:sgK K c=g:=by unfold sgK;rw[G];rfl
   have e:(decide (0<=(sgK K c).item)&&decide ((sgK K c).item<((K.items.map Ag).length:Int)))=false:=e;rw[eg,inM (f:=Ag) q1 q2]at e;cases e
theorem Zwu {K:Kf} (h:KOK K) (c:Cv):Ms (Ab K c)=some (Ab K (Ig K c))/\(c.aG=true->(Ig K c).aG=true):=by
 obtain⟨b,hb,D⟩:=Ztp (MB:=Ok) h (UU h c) (M_ h c) (Z0v K c (by have:=h.f.p.count;omega));have D:Ms (Ab K c)=some (Ab K {c with aG:=b}):=D;have e:Ig K c={c with aG:=b}:=by unfold Ig;rw[D];rfl
 rw[e];exact⟨D,hb⟩
def E1 (K:Kf) (c:Cv) (n:Int):Bool:=(El K c).isSome&&decide (0<n)&&decide (c.way=0)&& !c.on&&decide (c.aH=0)&&c.o2&&decide ((sgK K c).lead=0)&&EN K c
def PZ (K:Kf) (c:Cv) (n:Int):Int:=mx (mx 0 (wrap .i64 (AA K c-n))) (Q9 K c (AA K c))
def C5 (K:Kf) (c:Cv) (n:Int):Kf×Cv:=if E1 K c n=true then(sT K (Da K c (PZ K c n)),{zM c with o2:=false,way:=1,home:=AA K c})else(K,c)
theorem Zok {M N O S:Fn} {K:Kf} {c:Cv} {n:Int} (T:S (Ab K c)=some (Av (sgK K c)++[B (El K c).isSome])) (U:O (Ab K c)=some [I (AA K c)])
  (V:∀s,N (I s::Ab K c)=some [I (Q9 K c s)]) (D:∀to,M (pxt K.p K.x K.t [I c.m0,I c.m1,I c.m2,I c.m3,I c.m4,I c.m5,I to])=some (J8 K c to)):
  Qc0 M N O S (I n::Ab K c)=some (Ab (C5 K c n).1 (C5 K c n).2):=by
 rw[Zd0];have no:E1 K c n=false->some (Ab K c)=some (Ab (C5 K c n).1 (C5 K c n).2):=λe=>by unfold C5;rw[ab (by rw[e];simp)]
 refine eB T ?_;refine eC (λe=> ?_) λe1=> ?_
 ·have e:(!(El K c).isSome)=true:=e;exact no (by unfold E1;rw[Bool.not_eq_true']at e;rw[e];rfl)
 have e1:(El K c).isSome=true:=by simpa [bA,nth,C_]using e1
 refine eC (λe=>no ?_) λe2=> ?_
 ·unfold E1;rw[am (show¬0<n by have:=Bb e;omega)];simp
 have e2:0<n:=by have:=Bs e2;omega
 refine eC (λe=>no ?_) λe3=> ?_
 ·unfold E1;rw[am (show¬c.way=0 by simpa using e)];simp
 have e3:c.way=0:=by simpa using e3
 refine eC (λe=>no ?_) λG=> ?_
 ·unfold E1;rw[show c.on=true from e];simp
 have G:c.on=false:=G;refine eC (λe=>no ?_) λJ=> ?_
 ·unfold E1;rw[am (show¬c.aH=0 by simpa using e)];simp
 have J:c.aH=0:=by simpa using J
 refine eC (λe=>no ?_) λL=> ?_
 ·unfold E1;rw[show c.o2=false by simpa using e];simp
 have L:c.o2=true:=by simpa using L
 refine eC (λe=>no ?_) λe7=> ?_
 ·unfold E1;rw[am (show¬(sgK K c).lead=0 by simpa [gA,nth,Af]using e)];simp
 have e7:(sgK K c).lead=0:=by simpa [gA,nth,Af]using e7
 have E:E1 K c n=EN K c:=by
  unfold E1;rw[e1,al e2,al e3,G,al J,L,al e7];rfl
 refine eB U (eB (V (AA K c)) ?_);have D:=D (PZ K c n);unfold J8 at D;unfold C5;rw[E];cases hb:EN K c
 ·rw[hb,ab (by simp)]at D;exact eB D (eT rfl rfl)
 ·rw[hb,aa rfl]at D;rw[aa rfl];generalize Da K c (PZ K c n)=t at*;exact eB D (eF rfl (by kernel_rfl))
theorem Zza {K:Kf} (h:KOK K) (c:Cv) (n:Int):Q3 (I n::Ab K c)=some (Ab (C5 K c n).1 (C5 K c n).2):=
 Zok (UU h c) (M_ h c) (Zkt K c (by have:=h.f.p.count;omega)) (Q95 h c)
def evA (s:Kf×Cv) (k n:Int):Kf×Cv:=
 if k=13 then(s.1,Mn s.1 (evC s.2 k n) n)else if k=12 then(s.1,Ig s.1 (evC s.2 k n))else if k=7 then C5 s.1 (evC s.2 k n) n else(s.1,evC s.2 k n)
theorem Zdc {G J L E S:Fn} {K:Kf} (c:Cv) (x:Int) {k:Int} (n:Int)
  (T:k≠11->S [I c.o0,I c.o1,B c.o2,B c.o3,B c.o4,I x,I k,I n]=some [I (evC c k n).o0,I (evC c k n).o1,B (evC c k n).o2,B (evC c k n).o3,B (evC c k n).o4])
  (U:E [I c.g0,I c.g1,I c.g2,I x,I k,I n]=some [I (evC c k n).g0,I (evC c k n).g1,I (evC c k n).g2])
  (M:k=13->L (I n::Ab K (evC c k n))=some (Ab K (Mn K (evC c k n) n))) (N:k=12->J (Ab K (evC c k n))=some (Ab K (Ig K (evC c k n))))
  (O:k=7->G (I n::Ab K (evC c k n))=some (Ab (C5 K (evC c k n) n).1 (C5 K (evC c k n) n).2)) (D:k=13\/k=12\/k=7):
  Sx G J L E S (I x::I k::I n::Ab K c)=some (Ab (evA (K,c) k n).1 (evA (K,c) k n).2):=by
 rw[Qxe];have V:(evC c k n).aI=c.aI:=by
  show(if k=4 then true else c.aI)=c.aI;rw[ab (by omega)]
 have X:({c with o0:=(evC c k n).o0,o1:=(evC c k n).o1,o2:=(evC c k n).o2,o3:=(evC c k n).o3,o4:=(evC c k n).o4,g0:=(evC c k n).g0,g1:=(evC c k n).g1,g2:=(evC c k n).g2}:Cv)=evC c k n:=by
  have e:(evC c k n)={c with o0:=(evC c k n).o0,o1:=(evC c k n).o1,o2:=(evC c k n).o2,o3:=(evC c k n).o3,o4:=(evC c k n).o4,g0:=(evC c k n).g0,g1:=(evC c k n).g1,g2:=(evC c k n).g2,aI:=(evC c k n).aI}:=rfl;rw[V]at e;exact e.symm
 refine eB (T (by omega)) (eB U ?_);show cond (k==13) ((L (I n::Ab K {c with o0:=(evC c k n).o0,o1:=(evC c k n).o1,o2:=(evC c k n).o2,o3:=(evC c k n).o3,o4:=(evC c k n).o4,g0:=(evC c k n).g0,g1:=(evC c k n).g1,g2:=(evC c k n).g2})).bind _) (cond (k==11) _ (cond (k==12) ((J (Ab K {c with o0:=(evC c k n).o0,o1:=(evC c k n).o1,o2:=(evC c k n).o2,o3:=(evC c k n).o3,o4:=(evC c k n).o4,g0:=(evC c k n).g0,g1:=(evC c k n).g1,g2:=(evC c k n).g2})).bind _) (cond (k==7) ((G (I n::Ab K {c with o0:=(evC c k n).o0,o1:=(evC c k n).o1,o2:=(evC c k n).o2,o3:=(evC c k n).o3,o4:=(evC c k n).o4,g0:=(evC c k n).g0,g1:=(evC c k n).g1,g2:=(evC c k n).g2})).bind _) _)))=_;rw[X];unfold evA;dsimp only;generalize evC c k n=d at*;rcases D with D|D|D
 ·rw[aa D];have M:=M D;generalize Mn K d n=e at*;exact eT (beT D) (eB M rfl)
 ·rw[ab (by omega),aa D];have N:=N D;generalize Ig K d=e at*;exact eF (beF (by omega)) (eF (beF (by omega)) (eT (beT D) (eB N rfl)))
 ·rw[ab (by omega),ab (by omega),aa D];have O:=O D;generalize C5 K d n=e at*;exact eF (beF (by omega)) (eF (beF (by omega)) (eF (beF (by omega)) (eT (beT D) (eB O rfl))))
theorem Zxn {K:Kf} (h:KOK K) (c:Cv) (x k:Int) {n:Int} (E:n<=4194304):Jr (I x::I k::I n::Ab K c)=some (Ab (evA (K,c) k n).1 (evA (K,c) k n).2):=by
 by_cases D:k≠7/\k≠12/\k≠13
 ·have e:evA (K,c) k n=(K,evC c k n):=by
   unfold evA;rw[ab D.2.2,ab D.2.1,ab D.1]
  rw[e];exact Qup c x n D
 ·exact Zdc c x n (λh=>Qsz Qr2 c x k n h) (Qtt (by show PR []=_;rw[W3]) Q4e c x k n) (λ_=>(Vs h _ E).1) (λ_=>(Zwu h _).1) (λ_=>Zza h _ n) (by omega)
end Go.Bm
