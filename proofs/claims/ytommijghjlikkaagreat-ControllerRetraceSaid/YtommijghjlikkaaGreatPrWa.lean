/- laid together -/
import Derived.Test.YtommijghjlikkaaGreatPrPh
import Derived.Test.YtommijghjlikkaaGreatPrTk
import Derived.Test.YtommijghjlikkaaGreatPrLc
import Derived.Test.YtommijghjlikkaaGreatMx3
import Derived.Test.YtommijghjlikkaaGreatMy1
set_option linter.unusedVariables false
set_option linter.unusedSimpArgs false
set_option maxRecDepth 100000
open Go.IntKind (wrap)
variable {K:Go.Bm.Kf} {a k b v u j:Int} {p:Go.Bm.Pth} {t:Go.Bm.Trk} {i r:Nat} {d:Go.Bm.Cv} {M Z W T S P O:Go.Bm.Fn} {l:Go.Bm.Rw} {N:Go.Bm.Lp} {g:Go.Bm.Pt}
namespace Go.Bm
open Classical
def La (aA:List Itm):Nat->Option Nat
 |0=>none
 |i+1=>if(itA aA i).aP=10 then La aA i else some i
noncomputable def JR (aA:List Itm):Int:=
 match La aA aA.length with
 |some i=>if smI (itA aA i)/\(itA aA i).blend≠0 then Ay (AZ aA).aF-AJ (Bq (itA aA i)) (AF (itA aA i).to)else Ay (AZ aA).aF
 |none=>Ay (AZ aA).aF
theorem Qak {aA:List Itm}:∀{n:Nat},La aA n=some i->i<n/\(itA aA i).aP≠10/\∀j,i<j->j<n->(itA aA j).aP=10
 |0,h=>by cases h
 |n+1,h=>by
  unfold La at h;split at h
  ·rename_i c;obtain⟨I,E,G⟩:=Qak h;refine⟨by omega,E,λj g1 g2=> ?_⟩;by_cases e:j=n
   ·rw[e];exact c
   ·exact G j g1 (by omega)
  ·rename_i c;cases h
   exact⟨by omega,c,λj g1 g2=>by omega⟩
theorem Zs7 {aA:List Itm} (h:(itA aA i).aP=10):(Au aA (i+1)).len=(Au aA i).len/\Dj aA (i+1)=Dj aA i:=by
 have E: ¬AK (itA aA i):=λg=>by have:=g.2;omega
 constructor
 ·rw[Au];unfold DO;rw[aa E]
 ·rw[Dj,aa E]
theorem Q2z {aA:List Itm}:∀(k:Nat),(∀j,i<=j->j<i+k->(itA aA j).aP=10)->(Au aA (i+k)).len=(Au aA i).len/\Dj aA (i+k)=Dj aA i
 |0,_=>⟨rfl,rfl⟩
 |k+1,h=>by
  obtain⟨E,G⟩:=Q2z k λj g1 g2=>h j g1 (by omega);obtain⟨I,J⟩:=Zs7 (h (i+k) (by omega) (by omega));exact⟨I.trans E,J.trans G⟩
theorem Zl8 {aA:List Itm} (E:∀j<aA.length,¬Cc (itA aA j)):Ay (AZ aA).aF=(Au aA aA.length).len:=by
 have h:=KH E aA.length (db _);unfold AZ;by_cases hb:(Au aA aA.length).begun=true
 ·exact(h.begun hb).2.2.2
 ·obtain⟨g1,g2,-⟩:=h.empty (by simpa using hb);simp only[g1,g2];rfl
theorem Zo6 {it:Itm} (h:it.fr≠it.to):AF it.to≠Bq it:=by
 intro g;unfold AF Bq at g;injection g with g1 g2 E;exact h (D7.2 ⟨by omega,by omega,by omega⟩)
theorem Znp (it:Itm) (h:smI it) (aU aZ aX:Int) (s:(List Sgm×Int×Pt)×Int):
  (EA it aU aZ aX (EA it aU aZ aX s (Bq it)) (AF it.to)).2=(EA it aU aZ aX (EA it aU aZ aX s (Bq it)) (AF it.to)).1.2.1-AJ (Bq it) (AF it.to):=by
 have E:=Zo6 h.2;have I:(EA it aU aZ aX s (Bq it)).2=(A9 aU aZ aX s.1 (Bq it)).2.1:=ab ⟨h,rfl⟩;have G:(A9 aU aZ aX s.1 (Bq it)).2.2=Bq it:=by
  unfold A9;split
  ·rename_i c;exact c.symm
  ·rfl
 have J:(EA it aU aZ aX s (Bq it)).1=A9 aU aZ aX s.1 (Bq it):=rfl;generalize EA it aU aZ aX s (Bq it)=t at*;have M:(EA it aU aZ aX t (AF it.to)).2=t.2:=aa λg=>E g.2;have N:(EA it aU aZ aX t (AF it.to)).1=A9 aU aZ aX t.1 (AF it.to):=rfl;rw[M,N,I,J];rw[<-G]at E⊢;rw[G];generalize A9 aU aZ aX s.1 (Bq it)=u at*;have O:A9 aU aZ aX u (AF it.to)=(u.1++[⟨AF it.to,AJ u.2.2 (AF it.to),aU,aZ,aX⟩],u.2.1+AJ u.2.2 (AF it.to),AF it.to):=aa E;rw[O,G];simp only;omega
theorem Z24 {aA:List Itm} (M:La aA aA.length=some i) (G:smI (itA aA i)):Dj aA aA.length=(Au aA aA.length).len-AJ (Bq (itA aA i)) (AF (itA aA i).to):=by
 obtain⟨O,-,I⟩:=Qak M;obtain⟨k,N⟩:∃k,aA.length=i+1+k:=⟨aA.length-(i+1),by omega⟩;have J:AK (itA aA i):=⟨by have:=G.1;omega,by have:=G.1;omega⟩;obtain⟨g1,g2⟩:=Q2z (aA:=aA) (i:=i+1) k λj e1 e2=>I j (by omega) (by omega);have E: ¬0<=CD aA i:=by
  intro c;have S:=Uw c;rcases Qah aA i with h|⟨-,-,m,m1,m2,m3,m4,m5⟩
  ·omega
  ·have:=I m m2 m3;have:=m4.1;omega
 rw[N,g1,g2];have e1:Dj aA (i+1)=(FY aA i (Au aA i) (Dj aA i)).2:=ab J;have e2:(Au aA (i+1)).len=(FY aA i (Au aA i) (Dj aA i)).1.2.1:=by
  rw[Zcs,Au];unfold DO;rw[ab J]
 rw[e1,e2];unfold FY;have e3:C3 aA i (Au aA i).frm=JI aA i (Au aA i).frm++[Bq (itA aA i)]++[AF (itA aA i).to]:=by
  unfold C3;rw[ab G];unfold Nl;rw[aa E];unfold CB;rw[aa (by have:=G.1;omega)];rfl
 rw[e3,kn,kn,fj,List.foldl_nil,fj,List.foldl_nil];exact Znp _ G _ _ _ _
theorem Q5t {O U:Fn} {aA:List Itm} {aF aD:Rw} {st:Pt} {b:Bool} {len sp E:Int} (Y:aA.length<=1000) (V:∀it,O (Af it)=some [B (decide (smI it))]):
  ∀n:Nat,n<=aA.length->∃o:Nat×List AC,Ak (P3 O U) [.vC Ag aF, .vC AO aD, .vC Aj (aA.map Af),I ((n:Int)-1),I st.x,I st.y,I st.z,B b,I len,I sp,I E]=some o/\
   match La aA n with
   |some i=>o=(1,[I (if smI (itA aA i)/\(itA aA i).blend≠0 then E else len)])
   |none=>o=(2,[.vC Ag aF, .vC AO aD,I st.x,I st.y,I st.z,B b,I len,I sp,I E])
 |0,_=>by
  refine⟨_,Be (o:=(2,_)) ?_ (by simp),rfl⟩;rw[Q9p,Bg (by omega)]
 |n+1,hn=>by
  have S:n<aA.length:=by omega
  have hr:=FQ S;have X:=V (itA aA n);simp only[Af]at X;have T:(0:Int)<=(n:Int)/\(n:Int)<(aA.length:Int):=by omega
  have e:((n+1:Nat):Int)-1=n:=by omega
  have G:P3 O U [.vC Ag aF, .vC AO aD, .vC Aj (aA.map Af),I n,I st.x,I st.y,I st.z,B b,I len,I sp,I E]=
    if(itA aA n).aP=10 then some (0,[.vC Ag aF, .vC AO aD, .vC Aj (aA.map Af),I ((n:Int)-1),I st.x,I st.y,I st.z,B b,I len,I sp,I E])
    else some (1,[I (if smI (itA aA n)/\(itA aA n).blend≠0 then E else len)]):=by
   rw[Q9p];simp only[go_sem,af,ak,hr,X,ab T];rw[ab,Ae];by_cases J:(itA aA n).aP=10
   ·rw[ab J,ab J]
   ·rw[aa J,aa J];by_cases M:smI (itA aA n)
    ·rw[ab M];by_cases N:(itA aA n).blend≠0
     ·rw[ab N,ab ⟨M,N⟩]
     ·rw[aa N,aa (λg=>N g.2)]
    ·rw[aa M,aa (λg=>M g.1)]
  rw[e];unfold La;by_cases J:(itA aA n).aP=10
  ·rw[ab J]at G⊢;rw[Bz G];exact Q5t Y V n (by omega)
  ·rw[aa J]at G⊢;exact⟨_,Be G (by simp),rfl⟩
theorem Zum {aA:List Itm} (hl:aA.length<=15) (hS:∀it,M (Af it)=some [B (decide (smI it))]) (h:∃o,Z [.vC Aj (aA.map Af)]=some o/\Kn aA o):
  Qlu M Z (Ak (P3 M Z)) [.vC Aj (aA.map Af)]=some [I (if Do aA=0 then JR aA else 0)]:=by
 obtain⟨o,Y,J⟩:=h;unfold Kn at J;by_cases c:Do aA=0
 ·rw[ab c]at J⊢;have E:=(NA c).2;have O:=Zl8 E;have S:=λi T hs=>Z24 (aA:=aA) (i:=i) T hs;have X:= @Q5t M Z aA ((AZ aA).aF.map Av) ((AZ aA).aD.map Aw) (AZ aA).aQ (Au aA aA.length).begun (Au aA aA.length).len (Au aA aA.length).aS (Dj aA aA.length) (by omega) hS aA.length (by omega);obtain⟨r,r1,G⟩:=X;rw[Q99,Y];subst J;have hw:V ((aA.length:Int)-1)=(aA.length:Int)-1:=Ae;unfold JR;rw[O];generalize Ak (P3 M Z)=N at*;simp only[go_sem,af,hw,r1];rw[aa (by simp)];cases T:La aA aA.length with
  |none=>
   rw[T]at G;simp only at G;subst G;rfl
  |some i=>
   rw[T]at G;simp only at G;subst G;simp only[go_sem];by_cases U:smI (itA aA i)/\(itA aA i).blend≠0
   ·rw[ab U,ab U,S i T U.1]
   ·rw[aa U,aa U]
 ·rw[aa c]at J⊢;subst J;rw[Q99,Y];simp only[go_sem];rw[ab c]
theorem Zo2 {aA:List Itm} (E:aA.length<=15):Oc [.vC Aj (aA.map Af)]=some [I (if Do aA=0 then JR aA else 0)]:=Zum E Vi (Zdv E)
def okU (s:Spk):Prop:=s.u.natAbs<=1000000/\s.w.natAbs<=1000000/\(0<=s.r/\s.r<=1000000)/\s.h.natAbs<=200000
theorem okU.s {s:Spk} (h:okU s):okS s:=⟨by have:=h.1;omega,by have:=h.2.1;omega,⟨h.2.2.1.1,by have:=h.2.2.1.2;omega⟩,by have:=h.2.2.2;omega⟩
theorem Zu1 {a b:Spk} (E:okU a) (hb:okU b) {u w:Int} (G:u.natAbs<=100000000) (I:w.natAbs<=100000000):okU (GB a b u w):=by
 unfold GB;split
 ·exact⟨by simp,by simp,by simp,by simp⟩
 ·rename_i h;have J:=E.2.2;have M:=hb.2.2
  have N:0<=hf a.r b.r/\hf a.r b.r<=1000000:=by unfold hf;omega
  have O:(hf a.h b.h).natAbs<=200000:=by unfold hf;omega
  obtain⟨⟨-,S⟩,-,T⟩:=Qsm G I (r:=hf a.r b.r) (by omega) h;exact⟨by simp only;omega,by simp only;omega,N,O⟩
theorem Zev {a b:Spk} (E:okU a) (hb:okU b) {dir:Int} (G:dir=1\/dir= -1) (full:Bool):okU (Ea a b dir full):=
 Zu1 E hb (Ms E.s hb.s G full).1 (Ms E.s hb.s G full).2
theorem Yl (G:v=1\/v= -1):∀(k:Nat) (full:Bool) {a b:Spk},okU a->okU b->∀s∈C7 v k full a b,okU s
 |0,_,a,b,_,hb,s,E=>by simp[C7]at E;subst E;exact hb
 |k+1,full,a,b,I,hb,s,E=>by
  unfold C7 at E;have J:=Zev I hb G full;split at E
  ·simp at E;subst E;exact hb
  ·rcases bq.1 E with E|E
   ·exact Yl G k false I J s E
   ·exact Yl G k false J hb s E
theorem Z46 {n:Nat} (J:n<=300000000000):0<=FL n/\FL n<=1000000:=by
 obtain⟨r,-,E,G,-⟩:=Sc (n:=n) (by omega);have I:=Ro E G;rw[Q1 I];have:r<1000000:=by
  by_cases c:r<1000000
  ·exact c
  ·have:=fv (show 1000000<=r by omega) (show 1000000<=r by omega);omega
 split<;>omega
theorem Qk9 {pl:Int} (h:bd i g):(plU pl g).natAbs<=i/\(plW pl g).natAbs<=i/\(plH pl g).natAbs<=i:=Gl h
theorem Qqi {it:Itm} (E:bd 4200 it.ce) (G:bd 4200 g):okU (Eg it g):=by
 obtain⟨O,S,T⟩:=Qk9 (pl:=it.aG) E;obtain⟨U,V,X⟩:=Qk9 (pl:=it.aG) G;have I:(dU it g*16).natAbs<=134400:=by unfold dU;omega
 have J:(dW it g*16).natAbs<=134400:=by unfold dW;omega
 have Y:=DL I;have q2:=DL J;obtain⟨-,-,N,-⟩:=OF (A3 E (by omega)) (A3 G (by omega));obtain⟨n,M⟩:=cg N;refine⟨df I (by decide),df J (by decide),?_,?_⟩
 ·show 0<=FL _/\FL _<=_;rw[M];refine Z46 ?_;unfold sq2 at M;omega
 ·show(plH it.aG g*16).natAbs<=_;omega
theorem Z5w {it:Itm} {s:Spk} (E:bd 4200 it.ce) (G:okU s):bd B24 (Ja it s):=by
 obtain⟨I,J,-⟩:=Qk9 (pl:=it.aG) (EW E);obtain⟨s1,s2,-,M⟩:=G;exact Qma (by unfold B24;omega) (by unfold B24;omega) (by unfold B24;omega)
theorem Zw5 {it:Itm} (h:Made it) (hf:bd 4084 it.fr):∀p∈CB it,bd B24 p:=by
 have J:=Qvi h hf;intro p G;unfold CB at G;split at G
 ·rename_i M;simp only[ba]at G;obtain⟨s,I,rfl⟩:=G;have E:bd 4200 it.ce:=A3 (Ve (h.arc M) (by omega) hf).2 (by omega);refine Z5w E ?_;rcases av.1 I with rfl|I
  ·exact Qqi E (A3 hf (by omega))
  ·exact Yl (h.arc M).dir 16 _ (Qqi E (A3 hf (by omega))) (Qqi E (A3 J (by omega))) s I
 ·simp at G;rcases G with rfl|rfl
  ·exact A3 (EW hf) (by decide)
  ·exact A3 (EW J) (by decide)
def V0 (n:Nat) (g:Sgm):Prop:=bd B24 g.to/\0<=g.aU/\g.aU<n/\i64 g.aX
theorem Q73 {n:Nat} {aU aZ aX:Int} (I:0<=aU/\aU<n) (M:i64 aX):∀(E:List Pt) (s:List Sgm×Int×Pt),(∀p∈E,bd B24 p)->(∀g∈s.1,V0 n g)->∀g∈(E.foldl (A9 aU aZ aX) s).1,V0 n g
 |[],s,_,h=>h
 |q::E,s,N,h=>by
  rw[fj];refine Q73 I M E _ (λp J=>N p (by simp[J])) ?_;unfold A9;split
  ·exact h
  ·intro g G;simp only[bq,dw]at G;rcases G with G|rfl
   ·exact h g G
   ·exact⟨N q (by simp),I.1,I.2,M⟩
structure PIn (n : Nat) (s : BSt) : Prop where
 aQ:bd B24 s.aQ
 aF:∀g∈s.aF,V0 n g
 aD:∀m∈s.aD,0<=m.aU/\m.aU<n/\i64 m.at_
theorem Zxy {aA:List Itm} (I:drawn (itA aA i)) (hf:Mq aA i a) (G:∀k<aA.length,AK (itA aA k)->drawn (itA aA k)) (J:∀p∈CB (itA aA i),bd B24 p):∀p∈C3 aA i a,bd B24 p:=by
 unfold C3;by_cases O:smI (itA aA i)
 ·rw[ab O];intro p E;rcases bq.1 E with E|E
  ·rcases bq.1 E with E|E
   ·unfold JI at E;rcases hf with rfl|⟨f,rfl,S,M⟩
    ·rw[aa]at E;exact J p (eu E)
    ·rw[ab]at E;exact(LY (aA:=aA) (i:=(f:Int).toNat) (k:=i) (by simpa using M) I).1 p (d6 E)
   ·simp at E;subst E;exact LS I.1.2.1 I.1.2.2.1
  ·unfold Nl at E;by_cases h:0<=CD aA i
   ·rw[ab h]at E;obtain⟨k,T,U,N⟩:=V3 G h;exact(LY (aA:=aA) (i:=i) (k:=(CD aA i).toNat) I (by rw[T];simpa using N)).1 p (eu E)
   ·rw[aa h]at E;exact J p (d6 E)
 ·rw[aa O];exact J
theorem Z67 {it:Itm} (hf:it.aP=1\/1<=it.aZ/\it.aZ<=60000000):i64 (JV it):=by
 unfold JV;split
 ·rename_i h;unfold syI at h;unfold mn i64;split<;>omega
 ·unfold i64;omega
theorem Zq7 {aA:List Itm} {s:BSt} (hi:i<aA.length) (U:aA.length<=15) (E:∀j<aA.length,¬Cc (itA aA j)) (O:∀j<aA.length,AK (itA aA j)->∀p∈CB (itA aA j),bd B24 p) (M:BOK aA i s) (h:PIn aA.length s):PIn aA.length (DO aA i s):=by
 have J:∀k<aA.length,AK (itA aA k)->drawn (itA aA k):=λk T G=>(L5 (E k T) G).1;have N:=Zca hi E M;have hlen:=M.len;have I:=N.len;unfold DO at I⊢;by_cases G:AK (itA aA i)
 ·rw[ab G]at I⊢;have S:=J i hi G;refine⟨?_,Q73 ⟨by omega,by omega⟩ (Z67 (L5 (E i hi) G).2) _ _ (Zxy S M.frm J (O i hi G)) h.aF,?_⟩
  ·show bd B24 (if s.begun=true then s.aQ else AF (itA aA i).fr);split
   ·exact h.aQ
   ·exact EW S.1.2.1
  ·intro m G;simp only[bq,dw]at G;rcases G with G|rfl
   ·exact h.aD m G
   ·refine⟨by simp only;omega,by simp only;omega,?_⟩;simp only at I⊢;unfold i64;omega
 ·rw[aa G];refine⟨h.aQ,h.aF,?_⟩;intro m G;simp only[bq,dw]at G;rcases G with G|rfl
  ·exact h.aD m G
  ·refine⟨by simp only;omega,by simp only;omega,?_⟩;simp only;unfold i64;omega
theorem Q24 {aA:List Itm} (I:aA.length<=15) (E:∀j<aA.length,¬Cc (itA aA j)) (G:∀j<aA.length,AK (itA aA j)->∀p∈CB (itA aA j),bd B24 p):∀i,i<=aA.length->PIn aA.length (Au aA i)
 |0,_=>by rw[Au];exact⟨by unfold bd;simp,λg h=>(by cases h),λg h=>(by cases h)⟩
 |i+1,hi=>by rw[Au];exact Zq7 (by omega) I E G (OT E i (by omega)) (Q24 I E G i (by omega))
theorem Zt8 {aA:List Itm} (J:aA.length<=15) (M:Do aA=0) (G:∀j<aA.length,AK (itA aA j)->∀p∈CB (itA aA j),bd B24 p):bd B24 (AZ aA).aQ/\(∀g∈(AZ aA).aF,V0 aA.length g)/\(∀m∈(AZ aA).aD,0<=m.aU/\m.aU<aA.length/\i64 m.at_)/\(AZ aA).aD.length=aA.length:=by
 have E:=(NA M).2;have I:=Q24 J E G aA.length (db _);exact⟨I.aQ,I.aF,I.aD,(OT E aA.length (db _)).aD⟩
theorem Zpi {aA:List Itm} (N:aA.length<=15) (M:Do aA=0):i64 (JR aA):=by
 have I:=WC N M;have S:=Qqk (Vr I.aQ I.aF);have G:=I.count;have E:=(NA M).2;have h0:i64 (Ay (AZ aA).aF):=by unfold i64;omega
 unfold JR;split
 ·rename_i i e;split
  ·rename_i c;obtain⟨hi,-,-⟩:=Qak e;have O:AK (itA aA i):=⟨by have:=c.1.1;omega,by have:=c.1.1;omega⟩;obtain⟨J,-⟩:=L5 (E i hi) O;have:=IP (A3 (LS J.1.2.1 J.1.2.2.1) (by decide)) (A3 (EW J.1.2.2.1) (by decide));unfold i64;omega
  ·exact h0
 ·exact h0
theorem UJ (n lo hi:Int):Hr [I n,I lo,I hi]=some [B (decide (lo<=n/\n<=hi))]:=by
 show Qcu [I n,I lo,I hi]=_;rw[Zf3];by_cases E:lo<=n<;>by_cases G:n<=hi<;>simp[E,G]
theorem Zi6 (J:∀n lo hi:Int,M [I n,I lo,I hi]=some [B (decide (lo<=n/\n<=hi))]) {a:Axs} (h:AxOK a) (E:a.aW≠[]):
  ∃o,Ak (Qa4 M) (.vC Aa (a.aW.map Ao)::I a.aW.length::I 0::BD a)=some o/\o.1=2:=by
 have T:=h.aO E;refine(?_:Out (λo:Nat×List AC=>o.1=2) _);refine Co (λi:Nat=> .vC Aa (a.aW.map Ao)::I a.aW.length::I (i:Int)::BD a) (λi=>i<=a.aW.length) (λi=>a.aW.length-i) _ ?_ 0 (by simp);intro i hi;have hc:=h.count;rw[Zox];dsimp only[jA,gA,bA,wA];have N:∀j:Nat,j<a.aW.length->Ah (nth .dead (nth [] (a.aW.map Ao) j) 0)=a.aW.getD j 0:=λj O=>by
  have e:nth [] (a.aW.map Ao) j=Ao a.aW[j]:=by
   rw[Gm [] (a.aW.map Ao) j (by rw[af];exact O),gj]
  rw[e,List.getD,ai O];rfl
 refine .cond (λk=> ?_) λ_=> .some (.inr ⟨by simp,rfl⟩);have k:(i:Int)<(a.aW.length:Int):=Bi k;have S:((a.aW.map Ao).length:Int)=a.aW.length:=by rw[af]
 refine .cond (λ_=> ?_) λe=>(inB (by omega) (by rw[S];exact k) e).elim;have U: -4096<=a.aW.getD i 0/\a.aW.getD i 0<=4096:=by
  refine h.aW.1 _ ?_;rw[List.getD,ai (by omega)];exact bn _
 rw[ak,N i (by omega),J];simp only[ag,gA,wA,bA,jA,FB,Dh];rw[am U];refine .cond (λe=>by cases e) λ_=> ?_;have nx:∀{x:List AC},x= .vC Aa (a.aW.map Ao)::I a.aW.length::I ((i:Int)+1)::BD a->Out (λo:Nat×List AC=>(o.1=0/\∃G:Nat,o.2= .vC Aa (a.aW.map Ao)::I a.aW.length::I (G:Int)::BD a/\G<=a.aW.length/\a.aW.length-G<a.aW.length-i)\/(o.1≠0/\o.1=2)) (some (0,x)):=λe=>
  .some (.inl ⟨rfl,i+1,by rw[e];rfl,by omega,by omega⟩)
 rw[Ae (x:=(i:Int)+1)];refine .cond (λg=> ?_) λ_=>nx rfl;have g:(i:Int)>0:=Bi g;rw[Ae (x:=(i:Int)-1)];refine .cond (λ_=> ?_) λe=>(inB (by omega) (by rw[S];omega) e).elim;obtain⟨j,rfl⟩:∃j:Nat,i=j+1:=⟨i-1,by omega⟩;have hd:=h.aW.2 j (by omega);have V: -4096<=a.aW.getD j 0/\a.aW.getD j 0<=4096:=by
  refine h.aW.1 _ ?_;rw[List.getD,ai (by omega)];exact bn _
 have X:(((j+1:Nat):Int)-1).toNat=j:=by omega
 rw[X,N j (by omega),J];simp only[ag,gA,wA,bA,jA,FB,Dh];have Y:a.aO.tdiv 4=a.aO/4:=bh (by omega);rw[Y,Ae (x:=a.aO/4),Ae (x:=0-a.aO/4),Ae (x:=a.aW.getD (j+1) 0-a.aW.getD j 0)];refine .cond (λe=> ?_) λ_=>nx rfl;rw[am (show 0-a.aO/4<=a.aW.getD (j+1) 0-a.aW.getD j 0/\a.aW.getD (j+1) 0-a.aW.getD j 0<=a.aO/4 by omega)]at e;cases e
theorem Yav (G:∀n lo hi:Int,M [I n,I lo,I hi]=some [B (decide (lo<=n/\n<=hi))]) {a:Axs} (h:AxOK a)
  (O:a.aW≠[]->∃o,N (.vC Aa (a.aW.map Ao)::I a.aW.length::I 0::BD a)=some o/\o.1=2):Qan M N (BD a)=some [B true]:=by
 have J:=h.aO;have U:=h.aV;have V:=h.count
 rw[Zls];by_cases e:a.aW=[]
 ·rw[e];rfl
 ·have X:0<a.aW.length:=List.length_pos_iff.2 e;obtain⟨o,S,T⟩:=O e;have J:=J e;have E:N [.vC Aa (a.aW.map Ao),I (a.aW.map Ao).length,I 0,I a.step,I a.aS,I a.accel,I a.jerk,I a.low,I a.aY,I a.bB,I a.aV,I a.aO, .vC Aa (a.aW.map Ao)]=some o:=by rw[af];exact S
  rw[BI (by rw[af];simp;omega),BI (by rw[af];simp;omega),G,G,E];simp only[ag,gA,wA,bA,jA,FB,Dh];rw[am (show-16777216<=a.aV/\a.aV<=16777216 by omega),am (show 4<=a.aO/\a.aO<=16777216 by omega),T];rfl
theorem Zuj {a:Axs} (h:AxOK a):QU (BD a)=some [B true]:=Yav UJ h λE=>Zi6 UJ h E
theorem Zmf (E:∀n lo hi:Int,Z [I n,I lo,I hi]=some [B (decide (lo<=n/\n<=hi))]) {a:Axs} (h:AxOK a) (G:M (BD a)=some [B true]):Qfr M Z (BD a)=some [B true]:=by
 have J:=h.step;have hb:=h.bB;obtain⟨N,O,S,T,U,V,X,Y⟩:=h.lim
 rw[Z8p];simp only[E,ag,FB,Dh];rw[am (show 4<=a.step/\a.step<=4096 by omega),am (show 1<=a.aS/\a.aS<=1048576 by omega),am (show 2<=a.accel/\a.accel<=1048576 by omega),am (show 4<=a.jerk/\a.jerk<=1048576 by omega),am (show a.low>= -16777216 by omega),am (show a.aY<=16777216 by omega),am (show a.low<=a.aY by omega),am (show 0<=a.bB/\a.bB<=64 by omega)];simp only[aj];rw[G];rfl
theorem Zhh {a:Axs} (h:AxOK a):Rd (BD a)=some [B true]:=Zmf UJ h (Zuj h)
theorem Zoy (E:∀n lo hi:Int,M [I n,I lo,I hi]=some [B (decide (lo<=n/\n<=hi))]) {a:Axs} (h:AxOK a) {q:Int} (G:q.natAbs<=B24):Qky M (BD a++[I q])=some [B true]:=by
 obtain⟨-,-,-,-,-,-,J,N⟩:=h.lim;refine cx (Zjg M ..) ?_;rw[E,am (show a.low<=q/\q<=a.aY by unfold B24 at G;omega)];rfl
theorem Zln {a:Axs} (h:AxOK a) {q:Int} (E:q.natAbs<=B24):H9 (BD a++[I q])=some [B true]:=Zoy UJ h E
theorem Zji {x:Ax3} (O:bd B24 p.aQ) (S:∀g∈p.aF,bd B24 g.to) (Y:p.aF.length<=1000000):
  Out (λo:Nat×List AC=>o.1=1/\∃E:List Pt,o.2= .vC kPt (E.map ptR)::AI x/\(∀q∈E,bd B24 q)/\E.length<=1000001) (Ak (QT M) (.vC kPt [ptR p.aQ]:: .vC Ag (p.aF.map Av)::I (p.aF.map Av).length::I 0::AI x)):=by
 refine Co (λs:Nat×List Pt=> .vC kPt (s.2.map ptR):: .vC Ag (p.aF.map Av)::I (p.aF.map Av).length::I (s.1:Int)::AI x) (λs=>s.1<=p.aF.length/\(∀q∈s.2,bd B24 q)/\s.2.length=s.1+1) (λs=>p.aF.length-s.1) _ ?_ (0,[p.aQ]) ⟨by simp,by simpa using O,rfl⟩;rintro⟨i,E⟩ ⟨T,N,U⟩;dsimp only at T N U;refine Out.eqv (Zu6 M ..) ?_;have J:((p.aF.map Av).length:Int)=p.aF.length:=by rw[af]
 refine .cond (λk=> ?_) λ_=> .some (.inr ⟨by simp,rfl,E,rfl,N,by omega⟩);have k:(i:Int)<((p.aF.map Av).length:Int):=Bi k;rw[J]at k;refine .cond (λ_=> ?_) λe=>(inB (by omega) (by rw[J];exact k) e).elim;have V:nth [] (p.aF.map Av) (i:Int).toNat=Av p.aF[i]:=by
  rw[ak,Gm [] _ i (by rw[af];omega),gj]
 rw[V];have X:=S _ (bn (show i<p.aF.length by omega));refine .cond (λ_=> ?_) λe=>by rw[Dl (by simp;omega)]at e;cases e
 refine .some (.inl ⟨rfl,(i+1,E++[p.aF[i].to]),?_,⟨by dsimp only;omega,?_,by simp;omega⟩,by dsimp only;omega⟩)
 ·rw[Ae (x:=(i:Int)+1),de];rfl
 ·intro q G;dsimp only at G;simp only[bq,dw]at G;rcases G with G|rfl
  ·exact N q G
  ·exact X
theorem Zsh (J:∀{a:Axs} {q:Int},AxOK a->q.natAbs<=B24->M (BD a++[I q])=some [B true]) {x:Ax3} (O:Ax3M x) {E:List Pt} (S:∀q∈E,bd B24 q) (Y:E.length<=1000001):
  Out (λo:Nat×List AC=>o.1=2) (Ak (VB M N) (.vC kPt (E.map ptR)::I (E.map ptR).length::I 0::AI x)):=by
 refine Co (λi:Nat=> .vC kPt (E.map ptR)::I (E.map ptR).length::I (i:Int)::AI x) (λi=>i<=E.length) (λi=>E.length-i) _ ?_ 0 (by simp);intro i h1;refine Out.eqv (Zx3 M N ..) ?_;have G:((E.map ptR).length:Int)=E.length:=by rw[af]
 refine .cond (λk=> ?_) λ_=> .some (.inr ⟨by simp,rfl⟩);have k:(i:Int)<((E.map ptR).length:Int):=Bi k;rw[G]at k;refine .cond (λ_=> ?_) λe=>(inB (by omega) (by rw[G];exact k) e).elim;have T:nth [] (E.map ptR) (i:Int).toNat=ptR E[i]:=by
  rw[ak,Gm [] _ i (by rw[af];omega),gj]
 rw[T];obtain⟨U,V,X⟩:=S _ (bn (show i<E.length by omega));refine .bind (p:=λo=>o=[B true]) ⟨_,J O.a U,rfl⟩ λo e=> ?_;subst e;refine .cond (λe=>by cases e) λ_=> ?_;refine .bind (p:=λo=>o=[B true]) ⟨_,J O.b V,rfl⟩ λo e=> ?_;subst e;refine .cond (λe=>by cases e) λ_=> ?_;refine .bind (p:=λo=>o=[B true]) ⟨_,J O.c X,rfl⟩ λo e=> ?_;subst e;refine .cond (λe=>by cases e) λ_=> ?_;exact .some (.inl ⟨rfl,i+1,by rw[Ae (x:=(i:Int)+1)];rfl,by omega,by omega⟩)
theorem Zr0 {N3 N8:Lp} {x:Ax3}
  (N:Out (λo:Nat×List AC=>o.1=1/\∃E:List Pt,o.2= .vC kPt (E.map ptR)::AI x/\(∀q∈E,bd B24 q)/\E.length<=1000001) (N3 (.vC kPt [ptR p.aQ]:: .vC Ag (p.aF.map Av)::I (p.aF.map Av).length::I 0::AI x)))
  (O:∀{E:List Pt},(∀q∈E,bd B24 q)->E.length<=1000001->Out (λo:Nat×List AC=>o.1=2) (N8 (.vC kPt (E.map ptR)::I (E.map ptR).length::I 0::AI x))):
  Out (λo=>o=[B true]) (Qaj M N3 N8 (AI x++BC p)):=by
 refine Out.eqv (Zuf M N3 N8 ..) ?_;refine .bind N λo q=> ?_;obtain⟨o1,o2⟩:=o;obtain⟨G,E,J,S,T⟩:=q;dsimp only at G J;subst G J;refine .cond (λ_=> ?_) λe=>by cases e
 refine .bind (O S T) λo q=> ?_;rw[q];exact .some rfl
theorem Zfo {x:Ax3} (E:Ax3M x) (G:bd B24 p.aQ) (I:∀g∈p.aF,bd B24 g.to) (J:p.aF.length<=1000000):Qv (AI x++BC p)=some [B true]:=by
 obtain⟨o,h,rfl⟩:=Zr0 (M:=H9) (N3:=Ak (QT H9)) (N8:=Ak (VB H9 (Ak (QT H9)))) (Zji (x:=x) G I J) (λN O=>Zsh (λS T=>Zln S T) E N O);exact h
theorem Z7u:∃v:Int,FF [I 30000]=some [I v]/\60000<=v:=by
 have key:∀{M:Fn} {v:Int},M [I 30000,I 1048576,I 60000,I 2]=some [I v,B true]->Us M [I 30000]=some [I v]:=λh=>by
  rw[Q4d,h];rfl
 refine⟨_,key (Uo (by unfold i64;omega) (by unfold i64;omega) (by omega) (by decide)),?_⟩;unfold BA;omega
theorem Zod {x:Ax3} (E:Ax3M x) {pa pb pc ramp lag:Int} (U:Plan3 pa pb pc) (J:1<=ramp/\ramp<=60000) (N:0<=lag/\lag<=40)
  (G:∀{a:Axs},AxOK a->W (BD a)=some [B true]) (O:Z [I pa,I pb,I pc]=some [B true]) (S:∃v:Int,M [I 30000]=some [I v]/\60000<=v):Out (λo=>o=[B true]) (Xf M Z W (AI x++[I pa,I pb,I pc,I ramp,I lag])):=by
 refine Out.eqv (Zz2 M Z W ..) ?_;refine .bind (p:=λo=>o=[B true]) ⟨_,G E.a,rfl⟩ λo e=> ?_;subst e;refine .cond (λe=>by cases e) λ_=> .bind (p:=λo=>o=[B true]) ⟨_,G E.b,rfl⟩ λo e=> ?_;subst e;refine .cond (λe=>by cases e) λ_=> .bind (p:=λo=>o=[B true]) ⟨_,G E.c,rfl⟩ λo e=> ?_;subst e;refine .cond (λe=>by cases e) λ_=> .bind (p:=λo=>o=[B true]) ⟨_,O,rfl⟩ λo e=> ?_;subst e;obtain⟨v,T,V⟩:=S;refine .cond (λ_=> .cond (λ_=> ?_) λe=>absurd J.1 (Bp e)) λe=>by cases e
 refine .bind (p:=λo=>o=[I v]) ⟨_,T,rfl⟩ λo e=> ?_;subst e;refine .cond (λ_=> .cond (λ_=> ?_) λe=>absurd N.1 (Bp e)) λe=>absurd (show ramp<=v by omega) (Bp e);exact .some (by rw[am (show lag<=1048576 by omega)])
theorem Zzi {x:Ax3} (G:Ax3M x) {pa pb pc ramp lag:Int} (E:Plan3 pa pb pc) (J:1<=ramp/\ramp<=60000) (M:0<=lag/\lag<=40):RU (AI x++[I pa,I pb,I pc,I ramp,I lag])=some [B true]:=by
 have N:FE [I pa,I pb,I pc]=some [B true]:=by rw[Rf,am (show 1<=pa/\pa<=65536/\2<=pb/\pb<=65536/\1<=pc/\pc<=16777216 from⟨E.a.1,E.a.2,E.b.1,E.b.2,E.c.1,E.c.2⟩)]
 obtain⟨o,h,rfl⟩:=Zod G E J M Zhh N Z7u;exact h
theorem Z17 {x:Ax3} (O:Ax3M x) (E G J M N:Int):QM (AI x++[I E,I G,I J,I M,I N])=some (AI x++[I E,I G,I J,I M,I N]):=by
 have S:=O.a.count;have hb:=O.b.count;have T:=O.c.count
 have key:Qcl (AI x++[I E,I G,I J,I M,I N])=some (AI x++[I E,I G,I J,I M,I N]):=by
  refine cx (Zet ..) ?_;rw[Dl (by rw[af];omega),Dl (by rw[af];omega),Dl (by rw[af];omega)];rfl
 exact key
abbrev Q1a (K:Kf):Kf:=⟨K.x,K.pa,K.pb,K.pc,K.ramp,K.lag,[],false,⟨⟨0,0,0⟩,[],[]⟩,0,0,⟨[],0,0,⟨0,0,0⟩⟩⟩
abbrev YX (K:Kf):Kf:=⟨K.x,K.pa,K.pb,K.pc,K.ramp,K.lag,K.aA,K.closed,K.p,K.len,K.set,⟨[],0,0,⟨0,0,0⟩⟩⟩
abbrev Cy:Cv:=⟨0,0,0,0,0,0,100,100,false,false,false,0,0,-1,1,0,0,0,0,0,0,0,0,false,0,false,0,false,0,-1,0,0,0,0,0,0,0,false,false,false⟩
noncomputable abbrev kfP (x:Ax3) (pa pb pc ramp lag:Int) (aA:List Itm) (closed:Bool):Kf:=⟨x,pa,pb,pc,ramp,lag,aA,closed,AZ aA,Ay (AZ aA).aF,JR aA,AL (AZ aA) x ⟨1,1,1⟩ 0 (Ay (AZ aA).aF)⟩
theorem Zuk (X:K.aA.length<=15) (i0:List Itm) (G:Bool) (J:Pth) (N s0:Int) (E:Trk) (c:Cv)
  (O:T [.vC Aj (K.aA.map Af)]=some (BC K.p++[I 0])) (S:W (AI K.x++BC K.p)=some [B true]) (U:Z (BC K.p)=some [I K.len]) (V:M [.vC Aj (K.aA.map Af)]=some [I K.set]):
  Q6 M Z W T (.vC Aj (K.aA.map Af)::B K.closed::Ab ⟨K.x,K.pa,K.pb,K.pc,K.ramp,K.lag,i0,G,J,N,s0,E⟩ c)=some (I 0::Ab ⟨K.x,K.pa,K.pb,K.pc,K.ramp,K.lag,K.aA,K.closed,K.p,K.len,K.set,E⟩ c):=by
 have key:Out (λo=>o=I 0::Ab ⟨K.x,K.pa,K.pb,K.pc,K.ramp,K.lag,K.aA,K.closed,K.p,K.len,K.set,E⟩ c) (Q6 M Z W T (.vC Aj (K.aA.map Af)::B K.closed::Ab ⟨K.x,K.pa,K.pb,K.pc,K.ramp,K.lag,i0,G,J,N,s0,E⟩ c)):=by
  refine Out.eqv (Zig M Z W T _ _ ⟨K.x,K.pa,K.pb,K.pc,K.ramp,K.lag,i0,G,J,N,s0,E⟩ c) ?_;refine .bind (p:=λo=>o=_) ⟨_,O,rfl⟩ λo e=> ?_;subst e;refine .cond (λe=>by cases e) λ_=> ?_;refine .bind (p:=λo=>o=_) ⟨_,S,rfl⟩ λo e=> ?_;subst e;refine .cond (λe=>by cases e) λ_=> .cond (λ_=> ?_) λe=>by rw[Dl (by rw[af];omega)]at e;cases e
  refine .bind (p:=λo=>o=_) ⟨_,U,rfl⟩ λo e=> ?_;subst e;refine .bind (p:=λo=>o=_) ⟨_,V,rfl⟩ λo e=> ?_;subst e;exact .some rfl
 obtain⟨o,h,rfl⟩:=key;exact h
theorem Zei (E:K.aA.length<=15) (c:Cv)
  (G:T [.vC Aj (K.aA.map Af)]=some (BC K.p++[I 0])) (J:W (AI K.x++BC K.p)=some [B true]) (N:Z (BC K.p)=some [I K.len]) (O:M [.vC Aj (K.aA.map Af)]=some [I K.set]):
  Q6 M Z W T (.vC Aj (K.aA.map Af)::B K.closed::Ab (Q1a K) c)=some (I 0::Ab (YX K) c):=
 Zuk E [] false ⟨⟨0,0,0⟩,[],[]⟩ 0 0 ⟨[],0,0,⟨0,0,0⟩⟩ c G J N O
theorem Zt7
  (E:O (AI K.x++[I K.pa,I K.pb,I K.pc,I K.ramp,I K.lag])=some [B true]) (G:P (AI K.x++[I K.pa,I K.pb,I K.pc,I K.ramp,I K.lag])=some (AI K.x++[I K.pa,I K.pb,I K.pc,I K.ramp,I K.lag]))
  (J:S []=some [I 100,I 100,B false,B false,B false]) (N:T []=some [I 0,I 0,I (-1)])
  (U:W (.vC Aj (K.aA.map Af)::B K.closed::Ab (Q1a K) Cy)=some (I 0::Ab (YX K) Cy))
  (V:Z (BC K.p++AI K.x++[I 1,I 1,I 1,I 0,I K.len])=some (Ba K.t)) (X:M [I 0]=some [I 0,I 0,I 0,I 0,I 0,I 0]):
  TI M Z W T S P O (AI K.x++[I K.pa,I K.pb,I K.pc,I K.ramp,I K.lag]++[.vC Aj (K.aA.map Af),B K.closed])=some (I 0::Ab K Cy):=by
 have key:Out (λo=>o=I 0::Ab K Cy) (TI M Z W T S P O (AI K.x++[I K.pa,I K.pb,I K.pc,I K.ramp,I K.lag]++[.vC Aj (K.aA.map Af),B K.closed])):=by
  refine Out.eqv (Zfb M Z W T S P O ..) ?_;refine .bind (p:=λo=>o=_) ⟨_,E,rfl⟩ λo e=> ?_;subst e;refine .cond (λe=>by cases e) λ_=> ?_;refine .bind (p:=λo=>o=_) ⟨_,G,rfl⟩ λo e=> ?_;subst e;refine .bind (p:=λo=>o=_) ⟨_,J,rfl⟩ λo e=> ?_;subst e;refine .bind (p:=λo=>o=_) ⟨_,N,rfl⟩ λo e=> ?_;subst e;refine .bind (p:=λo=>o=I 0::Ab (YX K) Cy) ⟨_,U,rfl⟩ λo e=> ?_;subst e;refine .cond (λe=>by cases e) λ_=> ?_;refine .bind (p:=λo=>o=_) ⟨_,V,rfl⟩ λo e=> ?_;subst e;refine .bind (p:=λo=>o=_) ⟨_,X,rfl⟩ λo e=> ?_;subst e;exact .some (by kernel_rfl)
 obtain⟨o,h,rfl⟩:=key;exact h
structure MachOK (x : Ax3) (pa pb pc ramp lag : Int) : Prop where
 x:Ax3M x
 plan:Plan3 pa pb pc
 ramp:1<=ramp/\ramp<=60000
 lag:0<=lag/\lag<=40
theorem Zbh {x:Ax3} (E:MachOK x a k b v u) {aA:List Itm} (M:aA.length<=15) (N:Do aA=0) (S:∀j<aA.length,AK (itA aA j)->∀p∈CB (itA aA j),bd B24 p) (T:∀it∈aA,it.aP=8->i64 it.aS) (closed:Bool):
  F6 (AI x++[I a,I k,I b,I v,I u]++[.vC Aj (aA.map Af),B closed])=some (I 0::Ab (kfP x a k b v u aA closed) Cy)/\KOK (kfP x a k b v u aA closed):=by
 have G:=WC M N;obtain⟨i1,V,X,i4⟩:=Zt8 M N S;have hs:=Qqk (Vr G.aQ G.aF);have O:=G.count;refine⟨?_,?_⟩
 ·have Y:N0 [.vC Aj (aA.map Af)]=some (BC (AZ aA)++[I 0]):=by rw[Ztk M,ab N]
  have hS:Oc [.vC Aj (aA.map Af)]=some [I (JR aA)]:=by rw[Zo2 M,ab N]
  have hR:=Zfo E.x i1 (λg h=>(V g h).1) (by omega);have hT:=Q9t (d:=⟨1,1,1⟩) (from_:=0) (to:=Ay (AZ aA).aF) G E.x.ok;have J:=Zei (K:=kfP x a k b v u aA closed) M Cy Y hR (Q87 G.ok) hS;have hO:QI []=some [I 100,I 100,B false,B false,B false]:=by show Qg3 []=_;rw[Z3r]
  have hG:Kx []=some [I 0,I 0,I (-1)]:=by show Qg []=_;rw[XQ]
  have U:HA [I 0]=some [I 0,I 0,I 0,I 0,I 0,I 0]:=Qdk 0;exact Zt7 (K:=kfP x a k b v u aA closed) (Zzi E.x E.plan E.ramp E.lag) (Z17 E.x ..) hO hG J hT U
 ·refine⟨⟨G,E.x,Qy1 _ _ _ E.x.ok G⟩,E.plan,λg h=>(V g h).2,X,?_,?_,?_,Zpi M N⟩
  ·show(AZ aA).aD.length<=1000000;omega
  ·exact T
  ·show i64 (Ay (AZ aA).aF);unfold i64;omega
theorem Zb7 {x:Ax3} (E:MachOK x a k b v u) {aA:List Itm} (J:aA.length<=15) {M:Pt} (hi:Items 4084 M aA) (closed:Bool):
  F6 (AI x++[I a,I k,I b,I v,I u]++[.vC Aj (aA.map Af),B closed])=some (I 0::Ab (kfP x a k b v u aA closed) Cy)/\KOK (kfP x a k b v u aA closed):=
 Zbh E J (Q6x (by omega) hi (show aA.length <= 20000 by omega)) (λj N E => by
  rcases hi.made _ (Zdl N)with⟨-,g2,-,O,-⟩|g
  ·exact Zw5 g2 O
  ·exact absurd E (Qyt g)) (λit G S=>by
  rcases hi.made it G with⟨-,-,g,-⟩|g
  ·rw[g.2.2.2.1];unfold i64;omega
  ·have:=g.spin S;unfold i64;omega) closed
end Go.Bm
namespace Go.Bm
structure Evn where
 (cycle aP n:Int)
abbrev evR (e:Evn):List AC:=[I e.cycle,I e.aP,I e.n]
structure EvOK (e : Evn) : Prop where
 aP:1<=e.aP/\e.aP<=13
 n: -5<=e.n/\e.n<=4194304
theorem Q4p (E:List Evn) {i:Nat} (h:i<E.length):nth [] (E.map evR) (i:Int).toNat=evR E[i]:=by
 rw[ak,Gm [] _ i (by rw[af];exact h),gj]
theorem Zmp {E MF:Fn} (G:JC l E) (M:MF [.vC Aa l]=some [.vC Aa l,I 0]):
  ∃a b c:Int,Wi E MF [.vC Aa l]=some [I a,I b,I c]/\(1<=a/\a<=900)/\(2<=b/\b<=201)/\(1<=c/\c<=16000):=by
 obtain⟨v,k1,g1,v0,O,-⟩:=G 0 (n:=900) (by omega);obtain⟨w,k2,g2,w0,S,-⟩:=G k1 (n:=200) (by omega);obtain⟨y,T,N,y0,y1,-⟩:=G k2 (n:=16000) (by omega);have J:E [I 900, .vC Aa l,I 0]=some [I v, .vC Aa l,I k1]:=g1;refine⟨1+v,2+w,1+y,?_,by omega,by omega,by omega⟩;rw[Zzj,M];simp only[ag,gA,wA,bA,jA,FB,IT,HO,CI];rw[J];simp only[ag,FB,IT,HO];rw[g2];simp only[ag,FB,IT,HO];rw[N];simp only[ag,FB,IT,HO];rw[Ae (x:=1+v),Ae (x:=2+w),Ae (x:=1+y)]
theorem Zj8 {G MP J MF:Fn} {l m:Rw} (M:JC m G) (N:MF [.vC Aa m]=some [.vC Aa m,I 0]) {x:Ax3} (O:J [.vC Aa l]=some (AI x)) (S:Ax3M x) {a b c:Int} (T:MP [.vC Aa m]=some [I a,I b,I c]) (V:1<=a/\a<=900) (X:2<=b/\b<=201) (Y:1<=c/\c<=16000) (U:m.length<=100000):
  ∃ramp lag:Int,YZ G MP J MF [.vC Aa l, .vC Aa m]=some (AI x++[I a,I b,I c,I ramp,I lag])/\MachOK x a b c ramp lag:=by
 obtain⟨k0,E⟩:∃k0:Nat,mn 3 (m.length:Int)=k0:=⟨(mn 3 (m.length:Int)).toNat,by unfold mn;split<;>omega⟩;obtain⟨v,k1,g1,v0,v1,-⟩:=M k0 (n:=60000) (by omega);obtain⟨w,k2,g2,w0,w1,-⟩:=M k1 (n:=40) (by omega);refine⟨1+v,w,?_,⟨S,⟨by omega,by omega,by omega⟩,by omega,by omega⟩⟩;rw[Zzc,N,O,T];simp only[ag,gA,wA,bA,jA,FB,IT,HO,CI];rw[E,g1];simp only[ag,FB,IT,HO];rw[g2];simp only[ag,FB,IT,HO];rw[Ae (x:=1+v)];rfl
theorem Z31 (L:List (Rw)) (E:L.length<=1000):Out (λo=>o.1=1/\o.2=[B false]\/o.1=2/\∀l∈L,l.length<=60) (Ak Ud [.vC [Kd.sl Aa] (L.map λl=>[.vC Aa l]),I L.length,I ((0:Nat):Int)]):=by
 refine Co (λi:Nat=>[.vC [Kd.sl Aa] (L.map λl=>[.vC Aa l]),I L.length,I (i:Int)]) (λi=>i<=L.length/\∀l∈L.take i,l.length<=60) (λi=>L.length-i) _ ?_ 0 (by simp);rintro i ⟨J,G⟩;rw[Zz0];refine .cond (λc=> ?_) λc=> .some (.inr ⟨by simp, .inr ⟨rfl,?_⟩⟩)
 ·have c:(i:Int)<(L.length:Int):=Bi c;have hi:i<L.length:=by omega
  refine .cond (λ_=> ?_) λe=>(inB (by omega) (by rw[af];exact c) e).elim;rw[ak,Gm [] _ i (by rw[af];exact hi),gj];refine .cond (λ_=> .some (.inr ⟨by simp, .inl ⟨rfl,rfl⟩⟩)) λq=> ?_;have q: ¬(L[i].length:Int)>60:=Bp q;rw[Ae (x:=(i:Int)+1)];refine .some (.inl ⟨rfl,i+1,rfl,⟨by omega,?_⟩,by omega⟩);intro l E;rw[jc,ai hi]at E;rcases bq.1 E with E|E
  ·exact G l E
  ·simp at E;subst E;omega
 ·have c: ¬(i:Int)<(L.length:Int):=Bp c;rw[i8 (by omega)]at G;exact G
theorem Z3j {L:List (Rw)} (I:L.length<=1000):∃b:Bool,Lh [.vC [Kd.sl Aa] (L.map λl=>[.vC Aa l])]=some [B b]/\(b=true->∀l∈L,l.length<=60):=by
 obtain⟨o,J,M⟩:=Z31 L I;have e:Lh [.vC [Kd.sl Aa] (L.map λl=>[.vC Aa l])]=WZ (Ak Ud) [.vC [Kd.sl Aa] (L.map λl=>[.vC Aa l])]:=rfl;rw[e,Zy9,af];rw[show(0:Int)=((0:Nat):Int)from rfl,J];obtain⟨o1,o2⟩:=o;rcases M with⟨E,G⟩|⟨E,G⟩
 ·dsimp only at E G;subst E G;exact⟨false,rfl,λh=>by cases h⟩
 ·dsimp only at E G;subst E;exact⟨true,rfl,λ_=>G⟩
theorem Ze1 (a b c d:Rw):∃q:Bool,J6 [.vC Aa a, .vC Aa b, .vC Aa c, .vC Aa d]=some [B q]/\(q=true->a.length<=60/\b.length<=60/\c.length<=60/\d.length<=60):=by
 obtain⟨q,I,E⟩:=Z3j (L:=[a,b,c,d]) (by simp);refine⟨q,?_,λh=>⟨E h a (by simp),E h b (by simp),E h c (by simp),E h d (by simp)⟩⟩;show Qph Lh _=_;rw[Zyv];have G:Lh [.vC [Kd.sl Aa] [[.vC Aa a],[.vC Aa b],[.vC Aa c],[.vC Aa d]]]=some [B q]:=I;rw[G];rfl
abbrev Zoi:Itm:=⟨0,0,⟨0,0,0⟩,⟨0,0,0⟩,0,⟨0,0,0⟩,0,false,0,false,0,0,0,0,0,false⟩
def itK (K:Kf) (i:Int):Itm:=K.aA.getD i.toNat Zoi
def mkK (K:Kf) (i:Int):Mrk:=K.p.aD.getD i.toNat ⟨0,0,0⟩
theorem J1 (h0:0<=a) (E:a<K.aA.length):nth [] (K.aA.map Af) a.toNat=Af (itK K a):=by
 have h:a.toNat<K.aA.length:=by omega
 rw[Q0l K h];unfold itK;rw[List.getD,ai h];rfl
theorem NZ (h0:0<=a) (E:a<K.p.aD.length):nth [] (K.p.aD.map Aw) a.toNat=Aw (mkK K a):=by
 have h:a.toNat<K.p.aD.length:=by omega
 rw[Z3q K h];unfold mkK;rw[List.getD,ai h];rfl
theorem R3 (h:KOK K) {i:Int} (h0:0<=i) (E:i<K.p.aD.length):0<=(mkK K i).aU/\(mkK K i).aU<K.aA.length/\i64 (mkK K i).at_:=by
 have hi:i.toNat<K.p.aD.length:=by omega
 unfold mkK;rw[List.getD,ai hi];exact h.aD _ (bn hi)
theorem inR {n:Nat} (h0:0<=a) (E:a<(n:Int)):(decide (0<=a)&&decide (a<(n:Int)))=true:=by
 rw[am h0,am E];rfl
theorem inM {β:Type} {f:β->List AC} {i:Int} {l:List β} (h0:0<=i) (E:i<(l.length:Int)):(decide (0<=i)&&decide (i<((l.map f).length:Int)))=true:=inR h0 (by rw[af];exact E)
def DF (K:Kf) (c:Cv):Option Sgm:=K.p.aF[(Bo K.p.aF (max (At K c) 0)).1]?
def sgK (K:Kf) (c:Cv):Sgm:=(DF K c).getD sg0
theorem SC {c:Cv} {g:Sgm} (h:DF K c=some g):g∈K.p.aF:=cq h
theorem GA (h:KOK K) {c:Cv} (E:(sgK K c).aX≠0):0<=(sgK K c).aU/\(sgK K c).aU<K.aA.length/\i64 (sgK K c).aX:=by
 unfold sgK at E⊢;cases e:DF K c with
 |none=>rw[e]at E;exact absurd rfl E
 |some g=>exact h.aF g (SC e)
theorem Z3t {c:Cv} (G:Z (Ab K c)=some [I (At K c)])
  (J:M (BC K.p++[I (At K c)])=if K.p.aF=[]then some [I (-1),I 0]else some [I (Bo K.p.aF (max (At K c) 0)).1,I (Bo K.p.aF (max (At K c) 0)).2]):
  Qrn M Z (Ab K c)=some (Av (sgK K c)++[B (DF K c).isSome]):=by
 rw[Zkz];refine eB G (cx (ii (λz=>Option.bind z _) (show M (BC K.p++[I (At K c)])=_ from J)) ?_);by_cases e:K.p.aF=[]
 ·have e2:DF K c=none:=by unfold DF;rw[e];rfl
  unfold sgK;rw[ab e,e2];rfl
 ·have E:=Qca K.p.aF (max (At K c) 0) e;have e2:DF K c=some K.p.aF[(Bo K.p.aF (max (At K c) 0)).1]:=ai E;unfold sgK;rw[aa e,e2];refine eB rfl (eF (an (show¬((Bo K.p.aF (max (At K c) 0)).1:Int)<0 by omega)) (eT (inM (f:=Av) (l:=K.p.aF) (i:=((Bo K.p.aF (max (At K c) 0)).1:Int)) (by omega) (by omega)) ?_));have N:nth [] (K.p.aF.map Av) ((Bo K.p.aF (max (At K c) 0)).1:Int).toNat=Av K.p.aF[(Bo K.p.aF (max (At K c) 0)).1]:=by
   rw[ak,Gm [] _ _ (by rw[af];exact E),gj]
  show some (AT Ag (nth [] (K.p.aF.map Av) ((Bo K.p.aF (max (At K c) 0)).1:Int).toNat)++[B true])=_;rw[N];rfl
theorem VG (h:KOK K) (c:Cv):Fg (Ab K c)=some (Av (sgK K c)++[B (DF K c).isSome]):=
 Z3t (Nk h c) (Wg h.f.p.ok (VR h.f _))
def HT (K:Kf) (c:Cv):Bool:=(DF K c).isSome&&((itK K (sgK K c).aU).aP==6&&c.y0==(sgK K c).aU)
theorem Ze8 {c:Cv} (h:KOK K) (I:M (Ab K c)=some (Av (sgK K c)++[B (DF K c).isSome])):V4 M (Ab K c)=some [B (HT K c)]:=by
 rw[Zep,I];unfold HT sgK;cases e:DF K c with
 |none=>rfl
 |some g=>
  obtain⟨E,G,-⟩:=h.aF g (SC e);refine eB rfl (eT rfl (eT (inM (f:=Af) E G) ?_));show cond (gA (nth [] (K.aA.map Af) g.aU.toNat) 0==6) (some [B (c.y0==g.aU)]) (some [B false])=some [B (true&&((itK K g.aU).aP==6&&c.y0==g.aU))];rw[J1 E G];show cond ((itK K g.aU).aP==6) (some [B (c.y0==g.aU)]) (some [B false])=_;cases((itK K g.aU).aP==6)<;>rfl
theorem Q6u (h:KOK K) (c:Cv):Ln (Ab K c)=some [B (HT K c)]:=Ze8 h (VG h c)
def spV (c:Cv) (ramp:Int):Int:=if c.s1<c.s2 then mn (V (c.s1+ramp)) c.s2 else mx (V (c.s1-ramp)) c.s2
def spS (c:Cv) (ramp:Int):Cv:={c with s1:=spV c ramp,s3:=V (c.s3+V (c.s0*spV c ramp))}
theorem Q7o (c:Cv) (ramp:Int):Kw [I c.s0,I c.s1,I c.s2,I c.s3,I ramp]=some [I (spS c ramp).s0,I (spS c ramp).s1,I (spS c ramp).s2,I (spS c ramp).s3]:=by
 show YM _=_;rw[Ztj];show _=some [I c.s0,I (spV c ramp),I c.s2,I (V (c.s3+V (c.s0*spV c ramp)))];unfold spV;by_cases h:c.s1<c.s2
 ·rw[Ca (am h),ab h]
 ·rw[BI (an h),aa h]
def AR (c:Cv):Bool:=c.m1==0&&(c.m2==0&&(c.m3==c.m0&&c.m4==c.m0))
theorem Qkk (c:Cv):HY [I c.m0,I c.m1,I c.m2,I c.m3,I c.m4,I c.m5]=some [B (AR c)]:=by
 show Qdc _=_;rw[Z0o];unfold AR;cases(c.m1==0)<;>cases(c.m2==0)<;>cases(c.m3==c.m0)<;>rfl
def P8 (b:Bool) (n:Int):Bool:=if n=0 then false else if n=1 then true else b
theorem Qsx (b:Bool) (n:Int):Qk [B b,I n]=some [B (P8 b n)]:=by
 show Zp _=_;rw[Zjd];unfold P8;by_cases h:n=0
 ·rw[ab h,Ca (by simpa using h)]
 ·rw[aa h,BI (by simpa using h)];by_cases h:n=1
  ·rw[ab h,Ca (by simpa using h)]
  ·rw[aa h,BI (by simpa using h)]
def LH (k n:Int):Bool:=k==9||(k==8&&(decide (0<=n)&&decide (n<=2)))
def evC (c:Cv) (k n:Int):Cv:={c with
 o0:=if k=1/\0<=n/\n<=200 then n else c.o0
 o1:=if k=2/\0<=n/\n<=100 then n else c.o1
 o2:=if k=3\/k=11 then true else if k=4 then false else c.o2
 o3:=if k=5 then P8 c.o3 n else c.o3
 o4:=if k=6 then P8 c.o4 n else c.o4
 g0:=if k=10 then 2 else if k=11 then 0 else if LH k n=true then(if c.g0=2 then 2 else 1)else c.g0
 g1:=if k=10 then 22 else if k=11 then 0 else if LH k n=true/\c.g0≠2/\c.g1=0 then(if k=9 then 21 else 20)else c.g1
 g2:=if k=10 then-1 else if k=11 then-1 else if LH k n=true/\c.g0≠2/\c.g1=0 then(if k=9 then-1 else n)else c.g2
 aJ:=if k=4 then true else c.aJ}
theorem Qtt (T:∀(b:Bool) (n:Int),M [B b,I n]=some [B (P8 b n)]) (c:Cv) (x k n:Int) (U:k≠11):
  SQ M [I c.o0,I c.o1,B c.o2,B c.o3,B c.o4,I x,I k,I n]=some [I (evC c k n).o0,I (evC c k n).o1,B (evC c k n).o2,B (evC c k n).o3,B (evC c k n).o4]:=by
 rw[Q2t];unfold evC;simp only[T];by_cases E:k=1
 ·subst E;by_cases a:0<=n<;>by_cases b:n<=200<;>simp[a,b]
 ·by_cases G:k=2
  ·subst G;by_cases a:0<=n<;>by_cases b:n<=100<;>simp[a,b]
  ·by_cases J:k=3
   ·subst J;simp
   ·by_cases N:k=4
    ·subst N;simp
    ·by_cases O:k=5
     ·subst O;simp[gA,bA,nth,Dh]
     ·by_cases S:k=6
      ·subst S;simp[gA,bA,nth,Dh]
      ·simp only[beF E,beF G,beF J,beF N,beF O,beF S,ao];simp[E,G,J,N,O,S,U]
theorem Z9g (c:Cv) (x n:Int):
  SQ M [I c.o0,I c.o1,B c.o2,B c.o3,B c.o4,I x,I 11,I n]=some [I c.o0,I c.o1,B c.o2,B c.o3,B c.o4]:=by
 rw[Q2t];rfl
theorem Q5m (a b d e f:Int):Q8 [I a,I b,I d,I e,I f]=some (if a=2 then [I a,I b,I d]else if b=0 then [I 1,I e,I f]else [I 1,I b,I d]):=by
 show YV _=_;rw[Ztz];by_cases h:a=2
 ·rw[ab h,Ca (by simpa using h)]
 ·rw[aa h,BI (by simpa using h)];by_cases h:b=0
  ·rw[ab h,Ca (by simpa using h)]
  ·rw[aa h,BI (by simpa using h)]
theorem Qun (O:M []=some [I 0,I 0,I (-1)]) (S:∀a b d e f:Int,Z [I a,I b,I d,I e,I f]=some (if a=2 then [I a,I b,I d]else if b=0 then [I 1,I e,I f]else [I 1,I b,I d])) (c:Cv) (x k n:Int):
  Qhh M Z [I c.g0,I c.g1,I c.g2,I x,I k,I n]=some [I (evC c k n).g0,I (evC c k n).g1,I (evC c k n).g2]:=by
 rw[Zi8];unfold evC;simp only[S,O];by_cases E:k=10
 ·subst E;rfl
 ·by_cases G:k=9
  ·subst G;by_cases a:c.g0=2<;>by_cases b:c.g1=0<;>simp[LH,a,b,gA,jA,nth,Ah]
  ·by_cases J:k=8
   ·subst J;by_cases u:0<=n<;>by_cases v:n<=2<;>by_cases a:c.g0=2<;>by_cases b:c.g1=0<;>simp[LH,a,b,u,v,gA,jA,nth,Ah]
   ·by_cases N:k=11
    ·subst N;rfl
    ·simp only[beF E,beF G,beF J,beF N,ao];simp[LH,E,G,J,N]
theorem Zy5 (c:Cv) (x:Int) {k:Int} (n:Int) (E:k≠7/\k≠12/\k≠13)
  (O:k≠11->S [I c.o0,I c.o1,B c.o2,B c.o3,B c.o4,I x,I k,I n]=some [I (evC c k n).o0,I (evC c k n).o1,B (evC c k n).o2,B (evC c k n).o3,B (evC c k n).o4])
  (G:k=11->S [I c.o0,I c.o1,B c.o2,B c.o3,B c.o4,I x,I k,I n]=some [I c.o0,I c.o1,B c.o2,B c.o3,B c.o4])
  (N:T [I c.g0,I c.g1,I c.g2,I x,I k,I n]=some [I (evC c k n).g0,I (evC c k n).g1,I (evC c k n).g2]):
  S9 M Z W T S (I x::I k::I n::Ab K c)=some (Ab K (evC c k n)):=by
 rw[Qyb];by_cases h:k=11
 ·rw[G h,N];subst h;rfl
 ·rw[O h,N];simp only[ag];rw[BI (by simpa using E.2.2),BI (by simpa using h),BI (by simpa using E.2.1),BI (by simpa using E.1)];by_cases J:k=4
  ·subst J;rfl
  ·rw[BI (by simpa using J)];have e:(evC c k n).aJ=c.aJ:=by unfold evC;simp[J]
   rw[<-e];rfl
theorem Qvj (c:Cv) (x:Int) {k:Int} (n:Int) (E:k≠7/\k≠12/\k≠13):JD (I x::I k::I n::Ab K c)=some (Ab K (evC c k n)):=
 Zy5 c x n E (λh=>Qtt Qsx c x k n h) (λh=>by subst h;exact Z9g c x n) (Qun (by show Qg []=_;rw[XQ]) Q5m c x k n)
end Go.Bm
noncomputable section
namespace Go.Bm
def one (M:Fn) (l:List AC):Int:=gA ((M l).getD []) 0
theorem Ql4 {l:List AC} (h:M l=some [I v]):M l=some [I (one M l)]:=by
 unfold one;rw[h];rfl
def BS (k:Int) (c:Cv):Bool:=k==1||(k==3||(k==6||(k==4&&(c.o4||c.o3)||k==2&&c.o3)))
theorem Qxa (at_ k it:Int) (c:Cv):I6 [I at_,I k,I it,I c.o0,I c.o1,B c.o2,B c.o3,B c.o4]=some [B (BS k c)]:=by
 show Qnb _=_;rw[Z76];unfold BS;by_cases E:k=1
 ·subst E;rfl
 by_cases G:k=3
 ·subst G;rfl
 by_cases J:k=6
 ·subst J;rfl
 by_cases M:k=4
 ·subst M;cases c.o4<;>cases c.o3<;>rfl
 by_cases N:k=2
 ·subst N;cases c.o3<;>rfl
 simp[beF E,beF G,beF J,beF M,beF N]
def DR (c:Cv) (known frm:Int):List Mrk->Nat->Int×Int
 |[],_=>(known,-1)
 |m::l,i=>if BS m.aP c=true/\frm<=m.at_/\m.at_<=known then(m.at_,i)else DR c known frm l (i+1)
def BK (K:Kf) (c:Cv) (known frm:Int):Int×Int:=DR c known frm (K.p.aD.drop (max c.next 0).toNat) (max c.next 0).toNat
theorem Zim (T:K.p.aD.length<=1000000) (c:Cv) (U:∀at_ k it:Int,M [I at_,I k,I it,I c.o0,I c.o1,B c.o2,B c.o3,B c.o4]=some [B (BS k c)]) (known frm:Int):
  Qgv M (Ak (Su M)) [.vC kPt (K.p.aD.map Aw),I c.next,I c.o0,I c.o1,B c.o2,B c.o3,B c.o4,I known,I frm]=some [I (BK K c known frm).1,I (BK K c known frm).2]:=by
 rw[Zib];have N:mx c.next 0=max c.next 0:=by unfold mx;split<;>omega
 have key:Out (λo=>(if o.1=1 then o.2=[I (BK K c known frm).1,I (BK K c known frm).2]else o.1=2/\o.2=[I (BK K c known frm).1]/\(BK K c known frm).2= -1)) (Ak (Su M) [.vC kPt (K.p.aD.map Aw),I known,I frm,I (max c.next 0),I c.o0,I c.o1,B c.o2,B c.o3,B c.o4]):=by
  refine Co (λs:Int=>[.vC kPt (K.p.aD.map Aw),I known,I frm,I s,I c.o0,I c.o1,B c.o2,B c.o3,B c.o4]) (λs=>0<=s/\BK K c known frm=DR c known frm (K.p.aD.drop s.toNat) s.toNat) (λs=>(K.p.aD.length-s).toNat) _ ?_ (max c.next 0) ⟨by omega,rfl⟩;rintro i ⟨g,E⟩;rw[Zol];refine .cond (λk=> ?_) λk=> ?_
  ·have k:i<((K.p.aD.map Aw).length:Int):=Bi k;rw[af]at k;have hi:i.toNat<K.p.aD.length:=by omega
   rw[Ae (x:=i+1) (by have:=T;omega)];have em:mkK K i=K.p.aD[i.toNat]:=by unfold mkK;rw[List.getD,ai hi];rfl
   rw[il hi,<-em]at E;unfold DR at E;refine .cond (λ_=> ?_) λe=>(inB g (by rw[af];exact k) e).elim;rw[NZ g k];refine .bind (p:=λo=>o=_) ⟨_,U _ _ _,rfl⟩ λo e=> ?_;subst e;have next:BK K c known frm=DR c known frm (K.p.aD.drop (i.toNat+1)) (i.toNat+1)->Out (λo:Nat×List AC=>(o.1=0/\∃G:Int,o.2=[.vC kPt (K.p.aD.map Aw),I known,I frm,I G,I c.o0,I c.o1,B c.o2,B c.o3,B c.o4]/\(0<=G/\BK K c known frm=DR c known frm (K.p.aD.drop G.toNat) G.toNat)/\(K.p.aD.length-G).toNat<(K.p.aD.length-i).toNat)\/(o.1≠0/\(if o.1=1 then o.2=[I (BK K c known frm).1,I (BK K c known frm).2]else o.1=2/\o.2=[I (BK K c known frm).1]/\(BK K c known frm).2= -1))) (some (0,[.vC kPt (K.p.aD.map Aw),I known,I frm,I (i+1),I c.o0,I c.o1,B c.o2,B c.o3,B c.o4])):=λe=>
    .some (.inl ⟨rfl,i+1,rfl,⟨by omega,by rw[e,show(i+1).toNat=i.toNat+1 by omega]⟩,by omega⟩)
   refine .cond (λa=> .cond (λb=> .cond (λd=> ?_) λd=> ?_) λb=> ?_) λa=> ?_
   ·have a:BS (mkK K i).aP c=true:=a;have b:frm<=(mkK K i).at_:=Bi b;have d:(mkK K i).at_<=known:=Bi d;rw[ab ⟨a,b,d⟩]at E;refine .some (.inr ⟨by simp,?_⟩);rw[ab rfl,E];show [I (mkK K i).at_,I i]=[I (mkK K i).at_,I (i.toNat:Int)];rw[Int.toNat_of_nonneg g]
   ·have d: ¬(mkK K i).at_<=known:=Bp d;rw[aa (λh=>d h.2.2)]at E;exact next E
   ·have b: ¬frm<=(mkK K i).at_:=Bp b;rw[aa (λh=>b h.2.1)]at E;exact next E
   ·have a:BS (mkK K i).aP c=false:=a;rw[aa (λh=>by rw[a]at h;cases h.1)]at E;exact next E
  ·have k: ¬i<((K.p.aD.map Aw).length:Int):=Bp k;rw[af]at k;rw[fc (by omega)]at E;refine .some (.inr ⟨by simp,?_⟩);rw[aa (by simp),E];exact⟨rfl,rfl,rfl⟩
 obtain⟨⟨o1,o2⟩,V,J⟩:=key;rw[N];refine eB V ?_;by_cases e:o1=1
 ·subst e;have J:o2=_:=J;subst J;rfl
 ·rw[aa e]at J;obtain⟨O,S,X⟩:=J;dsimp only at O S;subst O S;rw[X];rfl
theorem Z2t (h:KOK K) (c:Cv) (known frm:Int):Qy [.vC kPt (K.p.aD.map Aw),I c.next,I c.o0,I c.o1,B c.o2,B c.o3,B c.o4,I known,I frm]=some [I (BK K c known frm).1,I (BK K c known frm).2]:=
 Zim h.count c (λat_ k it=>Qxa at_ k it c) known frm
theorem Q4r {c:Cv} (E:i64 a):∀{l:List Mrk} {i:Nat},(∀m∈l,i64 m.at_)->i64 (DR c a k l i).1
 |[],_,_=>E
 |m::l,i,h=>by
  unfold DR;split
  ·exact h m (by simp)
  ·exact Q4r E λq G=>h q (by simp[G])
theorem Q7s {c:Cv} {known frm:Int}:∀{l:List Mrk} {i:Nat},(DR c known frm l i).2= -1\/((i:Int)<=(DR c known frm l i).2/\(DR c known frm l i).2<(i+l.length:Nat))
 |[],_=> .inl rfl
 |m::l,i=>by
  unfold DR;split
  ·exact .inr ⟨bz _,by simp only[bj];omega⟩
  ·rcases Q7s (l:=l) (i:=i+1) (c:=c) (known:=known) (frm:=frm)with h|⟨E,G⟩
   ·exact .inl h
   ·exact .inr ⟨by omega,by simp only[bj];omega⟩
theorem Zus {c:Cv} {known frm:Int}:(BK K c known frm).2= -1\/(0<=(BK K c known frm).2/\c.next<=(BK K c known frm).2/\(BK K c known frm).2<K.p.aD.length):=by
 unfold BK;rcases Q7s (c:=c) (known:=known) (frm:=frm) (l:=K.p.aD.drop (max c.next 0).toNat) (i:=(max c.next 0).toNat)with h|⟨G,E⟩
 ·exact .inl h
 ·rw[co]at E;exact .inr ⟨by omega,by omega,by omega⟩
def NX (K:Kf) (c:Cv):Int:=one F9 [I K.pa,I K.pb,I K.pc,I c.m0,I c.m1,I c.m2,I c.m3,I c.m4,I c.m5]
def EZ (K:Kf):Int:=if K.closed=true then K.len else K.set
def DU (r:Int):Int:=V ((V (V (r+256)-1)).tdiv 256)
def G7 (K:Kf) (r:Int):Int:=if AU K.t (Az K.t (DU r))≠DU r then V (Az K.t (DU r)+1)else Az K.t (DU r)
def AG (K:Kf) (c:Cv):Int×Int:=(AU K.t (BK K c (EZ K) (G7 K (NX K c))).1,(BK K c (EZ K) (G7 K (NX K c))).2)
theorem X5 (K:Kf) (c:Cv):(AG K c).2= -1\/(0<=(AG K c).2/\c.next<=(AG K c).2/\(AG K c).2<K.p.aD.length):=Zus
theorem Z4r (h:KOK K):i64 (EZ K):=by unfold EZ;split;exact h.len;exact h.set
theorem Qvp (h:KOK K) {c:Cv} {frm:Int}:i64 (BK K c (EZ K) frm).1:=by
 unfold BK;exact Q4r (Z4r h) λm E=>(h.aD m (d6 E)).2.2
theorem Zic {c:Cv} {b:Bool} (h:KOK K)
  (N:T [I K.pa,I K.pb,I K.pc,I c.m0,I c.m1,I c.m2,I c.m3,I c.m4,I c.m5]=some [I a,B b])
  (O:∀u,W (Ba K.t++[I u])=some [I (Az K.t u)]) (G:∀{z:Int},i64 z->Z (Ba K.t++[I z])=some [I (AU K.t z)])
  (J:∀known frm,M [.vC kPt (K.p.aD.map Aw),I c.next,I c.o0,I c.o1,B c.o2,B c.o3,B c.o4,I known,I frm]=some [I (BK K c known frm).1,I (BK K c known frm).2]):
  Qaw M Z W T (Ab K c)=some (I (AU K.t (BK K c (EZ K) (G7 K a)).1)::I (BK K c (EZ K) (G7 K a)).2::Ab K c):=by
 have key:∀known:Int,known=EZ K->U7 T K c W Z M (I known)=some (I (AU K.t (BK K c (EZ K) (G7 K a)).1)::I (BK K c (EZ K) (G7 K a)).2::Ab K c):=λknown S=>by
  subst S;refine eB N (eB (O (DU a)) (eB (G (VR h.f _)) ?_));have e1:G7 K a=if AU K.t (Az K.t (DU a))≠DU a then V (Az K.t (DU a)+1)else Az K.t (DU a):=rfl;by_cases E:AU K.t (Az K.t (DU a))=DU a
  ·rw[aa (by simpa using E)]at e1;refine eF (bnF E) ?_;exact eB (J (EZ K) (Az K.t (DU a))) (by rw[<-e1];exact eB (G (Qvp h)) rfl)
  ·rw[ab E]at e1;refine eT (bnT E) ?_;exact eB (J (EZ K) (V (Az K.t (DU a)+1))) (by rw[<-e1];exact eB (G (Qvp h)) rfl)
 rw[Z9h];refine eC (λe=>key _ ?_) λe=>key _ ?_
 ·unfold EZ;rw[ab e]
 ·unfold EZ;rw[aa (by rw[e];simp)]
theorem Z2x {l:List AC} (h:Out (λo=>(wA o 0).length<=4096) (M l)) {G J N E O S T U V:Int} (e:l=[I G,I J,I N,I E,I O,I S,I T,I U,I V]):∃(r:Int) (b:Bool),Lx M l=some [I r,B b]:=by
 subst e;have key:Out (λo=>∃(r:Int) (b:Bool),o=[I r,B b]) (Lx M [I G,I J,I N,I E,I O,I S,I T,I U,I V]):=by
  rw[VQ];refine .bind h λo g=> .cond (λ_=> .some ⟨0,false,rfl⟩) λ_=> ?_;generalize wA o 0=sp at*;refine .cond (λ_=> .some ⟨E,true,rfl⟩) λc=> .cond (λ_=> .some ⟨_,true,rfl⟩) λd=> ?_;have c: ¬((sp.length:Int)=0):=by simpa using c
  rw[Ae]at d;simp at d;omega
 obtain⟨o,X,r,b,rfl⟩:=key;exact⟨r,b,X⟩
theorem Zvp (E G J N O S T U V:Int):∃b:Bool,F9 [I E,I G,I J,I N,I O,I S,I T,I U,I V]=some [I (one F9 [I E,I G,I J,I N,I O,I S,I T,I U,I V]),B b]:=by
 obtain⟨r,b,h⟩:=Z2x (M:=Fo) (VX E G J N O S T U V) rfl;have h:F9 [I E,I G,I J,I N,I O,I S,I T,I U,I V]=some [I r,B b]:=h;refine⟨b,?_⟩;unfold one;rw[h];rfl
theorem Zvy (h:KOK K) (c:Cv):RA (Ab K c)=some (I (AG K c).1::I (AG K c).2::Ab K c):=by
 obtain⟨b,hb⟩:=Zvp K.pa K.pb K.pc c.m0 c.m1 c.m2 c.m3 c.m4 c.m5;exact Zic h hb (PW h.f.t.q) (λE=>Zis h.f.t.q E) (Z2t h c)
def U5 (c:Cv) (v:Int):Cv:={c with m0:=V (c.m0+v),m1:=v,m2:=V (v-c.m1),m3:=c.m0,m4:=c.m3,m5:=c.m4}
def BO (K:Kf) (c:Cv) (l:Int):Cv:=U5 c (nxV K c l)
theorem Vl {c:Cv} {n:Int} (h:KOK K) (g:Gd K n c) (l:Int):
  ES (nxL K c l)=some (El c.m0 c.m1 c.m3 c.m4 (nxV K c l))/\((AM K.pa K.pb (nxV K c l) (V (nxV K c l-c.m1))).2=true\/∃r:Int,nxV K c l=V (c.m1+r)/\r=AB K.pa K.pb c.m1 c.m2):=by
 obtain⟨o,E,v,rfl,G⟩:=Q6d h g.mo l c.o2;have E:ES (nxL K c l)=some (El c.m0 c.m1 c.m3 c.m4 v):=E;have e:nxV K c l=v:=by unfold nxV;rw[E];rfl
 rw[e];exact⟨E,G⟩
theorem Zeq {c:Cv} (h:M (nxL K c a)=some (El c.m0 c.m1 c.m3 c.m4 v)):Qr1 M (I a::Ab K c)=some (Ab K (U5 c v)):=by
 rw[Zjh];exact eB h rfl
theorem Qgk {c:Cv} {n:Int} (h:KOK K) (g:Gd K n c) (l:Int):H_ (I l::Ab K c)=some (Ab K (BO K c l)):=Zeq (Vl h g l).1
theorem ZE {c:Cv} {n:Int} (h:KOK K) (g:Gd K n c) (E:0<=n/\n<=10000) (l:Int):Gd K (n+1) (BO K c l):=g.bD h E (Vl h g l).2
def Ie (c:Cv):Cv:={c with next:=V (c.idx+1),on:=false,idx:=0,aN:=false,cnt:=0}
def PX (c:Cv) (n sp:Int):List AC:=(Ly [I c.s0,I c.s1,I c.s2,I c.s3,I n,I sp]).getD []
def Jl (c:Cv) (n sp:Int):Cv:={c with s0:=gA (PX c n sp) 0,s1:=gA (PX c n sp) 1,s2:=gA (PX c n sp) 2,s3:=gA (PX c n sp) 3}
def Zaz (c:Cv) (n sp:Int):Bool:=bA ((ND [I c.s0,I c.s1,I c.s2,I c.s3,I n,I sp]).getD []) 0
def GG (K:Kf) (c:Cv):Int×Cv:=
 if c.aN=true then(if c.cnt>1/\c.aJ=true then(3,Ie c)else(2,c))
 else if(mkK K c.idx).aP≠3 then(3,Ie c)
 else if(itK K (mkK K c.idx).aU).aP=7 then(if c.cnt<(itK K (mkK K c.idx).aU).n then(3,c)else(3,Ie c))
 else if(itK K (mkK K c.idx).aU).aP=8 then(if Zaz (Jl c (itK K (mkK K c.idx).aU).n (itK K (mkK K c.idx).aU).aS) (itK K (mkK K c.idx).aU).n (itK K (mkK K c.idx).aU).aS=true then(3,Ie (Jl c (itK K (mkK K c.idx).aU).n (itK K (mkK K c.idx).aU).aS))else(3,Jl c (itK K (mkK K c.idx).aU).n (itK K (mkK K c.idx).aU).aS))
 else if(itK K (mkK K c.idx).aU).aP=14 then(7,{c with aI:=7})else(3,Ie c)
def De (c:Cv):Cv:={c with cnt:=V (c.cnt+1)}
def Bv (K:Kf) (c:Cv):Int×Cv:=GG K (De c)
theorem Z4u {c:Cv} (h:KOK K) (h0:0<=c.idx) (T:c.idx<K.p.aD.length)
  (N:∀c:Cv,W (Ab K c)=some (I 3::Ab K (Ie c)))
  (U:∀(c:Cv) (O G:Int),i64 G->Z [I c.s0,I c.s1,I c.s2,I c.s3,I O,I G]=some (PX c O G)) (V:∀(c:Cv) (O G:Int),i64 G->Out (λo=>bA o 0=Zaz c O G) (M [I c.s0,I c.s1,I c.s2,I c.s3,I O,I G])):
  WV M Z W (Ab K c)=some (I (Bv K c).1::Ab K (Bv K c).2):=by
 rw[Zt9];have J:=R3 h h0 T;unfold Bv GG;refine eC (λa=> ?_) λa=> ?_
 ·rw[ab (show(De c).aN=true from a)];refine eC (λb=>eC (λe=> ?_) λe=> ?_) λb=> ?_
  ·rw[ab (show(De c).cnt>1/\(De c).aJ=true from⟨Bi b,e⟩)];exact eB (N (De c)) rfl
  ·rw[aa (show¬((De c).cnt>1/\(De c).aJ=true)from λq=>by have:=q.2;rw[show(De c).aJ=false from e]at this;cases this)];rfl
  ·rw[aa (show¬((De c).cnt>1/\(De c).aJ=true)from λq=>Bp b q.1)];rfl
 ·rw[aa (show¬(De c).aN=true by rw[show(De c).aN=false from a];simp)];refine eT (inM (f:=Aw) h0 T) ?_;rw[NZ h0 T];rw[show(De c).idx=c.idx from rfl];refine eC (λb=> ?_) λb=> ?_
  ·have b:(mkK K c.idx).aP≠3:=by simpa [gA,nth,Ah]using b
   rw[ab b];exact eB (N (De c)) rfl
  ·have b:(mkK K c.idx).aP=3:=by simpa [gA,nth,Ah]using b
   rw[aa (by rw[b];simp)];refine eT (inM (f:=Af) (l:=K.aA) (i:=(mkK K c.idx).aU) J.1 J.2.1) ?_;have X:nth [] (K.aA.map Af) (gA (Aw (mkK K c.idx)) 2).toNat=Af (itK K (mkK K c.idx).aU):=J1 J.1 J.2.1;rw[X];have S:(itK K (mkK K c.idx).aU).aP=8->i64 (itK K (mkK K c.idx).aU).aS:=λE=>by
    have:=Zrt h (mkK K c.idx).aU.toNat;rw[J1 J.1 J.2.1]at this;exact this E
   generalize itK K (mkK K c.idx).aU=it at*;refine eC (λk=> ?_) λk=> ?_
   ·have k:it.aP=7:=eq_of_beq k;rw[ab k];refine eC (λq=> ?_) λq=> ?_
    ·rw[ab (show(De c).cnt<it.n from Bi q)];rfl
    ·rw[aa (show¬(De c).cnt<it.n from Bp q)];exact eB (N (De c)) rfl
   ·have k:it.aP≠7:=by simpa [gA,nth,Ah]using k
    rw[aa k];refine eC (λE=> ?_) λE=> ?_
    ·have E:it.aP=8:=eq_of_beq E;rw[ab E];refine eB (U (De c) it.n it.aS (S E)) ?_;obtain⟨o,Y,h6⟩:=V (Jl (De c) it.n it.aS) it.n it.aS (S E);refine eB Y ?_;rw[<-h6];refine eC (λq=> ?_) λq=> ?_
     ·rw[aa (show¬bA o 0=true by simpa using q)];rfl
     ·rw[ab (show bA o 0=true by simpa using q)];exact eB (N (Jl (De c) it.n it.aS)) rfl
    ·have E:it.aP≠8:=by simpa [gA,nth,Ah]using E
     rw[aa E];refine eC (λk=> ?_) λk=> ?_
     ·rw[ab (show it.aP=14 from eq_of_beq k)];rfl
     ·rw[aa (show it.aP≠14 by simpa [gA,nth,Ah]using k)];exact eB (N (De c)) rfl
theorem Qg7 {l:Option (List AC)} (h:l.isSome=true):l=some (l.getD []):=by
 cases l with
 |none=>cases h
 |some o=>rfl
theorem Zn7 (c:Cv) (G:Int) {E:Int} (h:i64 E):Ly [I c.s0,I c.s1,I c.s2,I c.s3,I G,I E]=some (PX c G E):=Qg7 (Zk4 _ _ _ _ _ h)
theorem Zuw (K:Kf) (c:Cv):Pc (Ab K c)=some (I 3::Ab K (Ie c)):=Zug K c
theorem Qa6 {c:Cv} (h:KOK K) (h0:0<=c.idx) (G:c.idx<K.p.aD.length):KS (Ab K c)=some (I (Bv K c).1::Ab K (Bv K c).2):=
 Z4u h h0 G (Zuw K) (λc E _ h=>Zn7 c E h) λc E J h=>⟨_,Qg7 (Z62 _ _ _ _ _ h),rfl⟩
def Fi (K:Kf) (c:Cv) (i:Int):Bool:=
 if(mkK K i).aP=1\/(mkK K i).aP=2\/(mkK K i).aP=6 then c.o3 else if(mkK K i).aP=4 then true
 else if(mkK K i).aP=3 then((itK K (mkK K i).aU).aP==11||(itK K (mkK K i).aU).aP==12)else false
def Ee (K:Kf) (c:Cv) (i:Int):Int×Cv:=Bv K {c with on:=true,idx:=i,aN:=Fi K c i,cnt:=0}
theorem Z05 {c:Cv} (h:KOK K) (h0:0<=a) (O:a<K.p.aD.length)
  (T:∀w:Bool,M (Ab K {c with on:=true,idx:=a,aN:=w,cnt:=0})=some (I (Bv K {c with on:=true,idx:=a,aN:=w,cnt:=0}).1::Ab K (Bv K {c with on:=true,idx:=a,aN:=w,cnt:=0}).2)):
  Qic M (I a::Ab K c)=some (I (Ee K c a).1::Ab K (Ee K c a).2):=by
 rw[Z9d];have J:=R3 h h0 O;unfold Ee;refine eT (inM (f:=Aw) h0 O) ?_;rw[NZ h0 O];have fin:∀{w:Bool} {f:List AC->List AC},w=Fi K c a->(∀(m:Int) (c:Cv),f (I m::Ab K c)=I m::Ab K c)->((M (Ab K {c with on:=true,idx:=a,aN:=w,cnt:=0})).bind λo=>some (f o))=some (I (Bv K {c with on:=true,idx:=a,aN:=Fi K c a,cnt:=0}).1::Ab K (Bv K {c with on:=true,idx:=a,aN:=Fi K c a,cnt:=0}).2):=λN hf=>by
  subst N;refine eB (T _) ?_;rw[hf]
 have E:∀{n:Int},(gA (Aw (mkK K a)) 1==n)=false->(mkK K a).aP≠n:=λe=>by simpa [gA,nth,Ah]using e
 have G:∀{n:Int},(gA (Aw (mkK K a)) 1==n)=true->(mkK K a).aP=n:=λe=>eq_of_beq e;refine eC (λe=>fin (by unfold Fi;rw[ab (.inl (G e))]) λ_ _=>rfl) λU=> ?_;refine eC (λe=>fin (by unfold Fi;rw[ab (.inr (.inl (G e)))]) λ_ _=>rfl) λV=> ?_;refine eC (λe=>fin (by unfold Fi;rw[ab (.inr (.inr (G e)))]) λ_ _=>rfl) λX=> ?_;have no: ¬((mkK K a).aP=1\/(mkK K a).aP=2\/(mkK K a).aP=6):=by
  intro q;rcases q with q|q|q
  ·exact E U q
  ·exact E V q
  ·exact E X q
 refine eC (λe=>fin (by unfold Fi;rw[aa no,ab (G e)]) λ_ _=>rfl) λS=> ?_;refine eC (λe=> ?_) λY=>fin (by unfold Fi;rw[aa no,aa (E S),aa (E Y)]) λ_ _=>rfl;refine eT (inM (f:=Af) (l:=K.aA) (i:=(mkK K a).aU) J.1 J.2.1) ?_;have er:nth [] (K.aA.map Af) (gA (Aw (mkK K a)) 2).toNat=Af (itK K (mkK K a).aU):=J1 J.1 J.2.1;rw[er];have N:Fi K c a=((itK K (mkK K a).aU).aP==11||(itK K (mkK K a).aU).aP==12):=by unfold Fi;rw[aa no,aa (E S),ab (G e)]
 refine eC (λk=>fin (by rw[N,show((itK K (mkK K a).aU).aP==11)=true from k];rfl) λ_ _=>rfl) λk=>fin (by rw[N,show((itK K (mkK K a).aU).aP==11)=false from k];rfl) λ_ _=>rfl
theorem Zvn {c:Cv} (h:KOK K) (h0:0<=a) (E:a<K.p.aD.length):P7 (I a::Ab K c)=some (I (Ee K c a).1::Ab K (Ee K c a).2):=
 Z05 h h0 E λ_=>Qa6 h h0 E
def Dy (c:Cv):Cv:=if c.g0=0 then{c with o2:=true,g0:=1,g1:=18,g2:= -1}else c
theorem XA (K:Kf) (c:Cv):Hd (Ab K c)=some (Ab K (Dy c)):=Zu7 K c
def Og (c:Cv):Int:=one KY [I c.before,I c.s0]
theorem Z6f (c:Cv):KY [I c.before,I c.s0]=some [I (Og c)]:=by
 have key:∃v,KY [I c.before,I c.s0]=some [I v]:=by
  have e:KY [I c.before,I c.s0]=Qjx Kv [I c.before,I c.s0]:=rfl;have h:∀a,(Kv [I a,I 1048576]).isSome=true:=λa=>Zo4 (by omega);rw[e,Z1i];generalize Kv=M at*;have G:∀a,∃o,M [I a,I 1048576]=some o:=λa=>Option.isSome_iff_exists.1 (h a);cases(c.s0== -1)
  ·obtain⟨o,E⟩:=G (V (0-c.before));exact⟨_,eB E rfl⟩
  ·obtain⟨o,E⟩:=G c.before;exact⟨_,eB E rfl⟩
 obtain⟨v,h⟩:=key;exact Ql4 h
def goC (K:Kf) (c:Cv) (g:Sgm):Cv:={c with y0:=g.aU,y1:=At K c,y2:=c.s3,e0:=1,e1:=c.m0,e2:=Og c,e3:=0}
def E_ (K:Kf) (c:Cv) (g:Sgm):Bool:=(itK K g.aU).aP==6||(c.s1 !=0&& !decide (V (V (c.s3-Og c)*c.s0)<0))
theorem Zqu {c:Cv} {s:Sgm} (h0:0<=s.aU) (G:s.aU<K.aA.length) (N:Z [I c.before,I c.s0]=some [I (Og c)]) (J:M (Ab K c)=some [I (At K c)]):
  Qmx M Z (I s.to.x::I s.to.y::I s.to.z::I s.len::I s.aU::I s.aZ::I s.aX::Ab K c)=some (B (E_ K c s)::Ab K (if E_ K c s=true then goC K c s else c)):=by
 rw[Zxz];refine eB N (eT (inM (f:=Af) h0 G) ?_);rw[J1 h0 G];refine eC (λe=> ?_) λe=> ?_
 ·have e:(itK K s.aU).aP≠6:=by simpa [gA,nth,Ah]using e
  refine eC (λa=> ?_) λa=>eC (λb=> ?_) λb=> ?_
  ·have E:E_ K c s=false:=by unfold E_;rw[beF e,bnF (eq_of_beq a)];rfl
   rw[E];rfl
  ·have E:E_ K c s=false:=by unfold E_;rw[beF e,show decide (V (V (c.s3-Og c)*c.s0)<0)=true from b];simp
   rw[E];rfl
  ·have E:E_ K c s=true:=by
    unfold E_;rw[show decide (V (V (c.s3-Og c)*c.s0)<0)=false from b];simp only[bne,a];simp
   rw[E];exact eB J rfl
 ·have e:(itK K s.aU).aP=6:=by simpa [gA,nth,Ah]using e
  have E:E_ K c s=true:=by unfold E_;rw[beT e];rfl
  rw[E];exact eB J rfl
theorem Zya {c:Cv} {s:Sgm} (h:KOK K) (h0:0<=s.aU) (E:s.aU<K.aA.length):
  Q_ (I s.to.x::I s.to.y::I s.to.z::I s.len::I s.aU::I s.aZ::I s.aX::Ab K c)=some (B (E_ K c s)::Ab K (if E_ K c s=true then goC K c s else c)):=
 Zqu h0 E (Z6f c) (Nk h c)
def Sa (aX way:Int):Int:=one KM [I aX,I way]
theorem Zlt (E:i64 a) (hb:i64 b):KM [I a,I b]=some [I (Sa a b)]:=by
 have key:∃v,KM [I a,I b]=some [I v]:=by
  have e:KM [I a,I b]=YS BM [I a,I b]:=rfl;have h:=Qku (show i64 4096 by unfold i64;omega) hb E 0;rw[e,Zjz];generalize BM=M at*;obtain⟨o,G⟩:=Option.isSome_iff_exists.1 h;exact⟨_,eB G rfl⟩
 obtain⟨v,h⟩:=key;exact Ql4 h
def Qw5 (K:Kf) (d:Cv) (g:Sgm):Int:=V (d.y2+V (V ((if(itK K g.aU).n=3 then 1 else-1)*Sa g.aX (V (At K d-d.y1)))*256))
def RE (K:Kf) (c:Cv) (l:Int) (g:Sgm):Cv:={BO K c l with s3:=Qw5 K (BO K c l) g}
theorem Zoe {c:Cv} {s:Sgm} (h0:0<=s.aU) (E:s.aU<K.aA.length)
  (G:∀v,i64 v->M [I s.aX,I v]=some [I (Sa s.aX v)]) (J:∀c,Z (Ab K c)=some [I (At K c)]) (N:W (I a::Ab K c)=some (Ab K (BO K c a))):
  Qp1 M Z W (I a::I s.to.x::I s.to.y::I s.to.z::I s.len::I s.aU::I s.aZ::I s.aX::Ab K c)=some (Ab K (RE K c a s)):=by
 rw[Ze3];unfold RE;generalize BO K c a=d at*;refine eB N (eT (inM (f:=Af) h0 E) ?_);show cond (gA (nth [] (K.aA.map Af) s.aU.toNat) 19==3) _ _=_;rw[J1 h0 E];unfold Qw5;refine eC (λe=> ?_) λe=> ?_
 ·rw[ab (show(itK K s.aU).n=3 from eq_of_beq e)];exact eB (J d) (eB (G _ (Vx _)) rfl)
 ·rw[aa (show(itK K s.aU).n≠3 by simpa [gA,nth,Ah]using e)];exact eB (J d) (eB (G _ (Vx _)) rfl)
theorem Qwt {c:Cv} {n:Int} (h:KOK K) (g:Gd K n c) (J:0<=n/\n<=10000) (l:Int) {s:Sgm} (E:0<=s.aU/\s.aU<K.aA.length/\i64 s.aX):
  Q7 (I l::I s.to.x::I s.to.y::I s.to.z::I s.len::I s.aU::I s.aZ::I s.aX::Ab K c)=some (Ab K (RE K c l s)):=
 Zoe E.1 E.2.1 (λv G=>Zlt E.2.2 G) (Nk h) (Qgk h g l)
def thL (K:Kf) (c:Cv) (l aX:Int):List AC:=pxt K.p K.x K.t [I K.pa,I K.pb,I K.pc,I c.o0,I c.o1,B c.o2,B c.o3,B c.o4,I c.m0,I c.m1,I c.m2,I c.m3,I c.m4,I c.m5,I l,I aX,I c.e0,I c.e1,I c.e2,I c.e3,I c.before,I c.s3]
def thO (K:Kf) (c:Cv) (l aX:Int):List AC:=(It (thL K c l aX)).getD []
def IB (c:Cv) (o:List AC):Cv:={U5 c (gA o 1)with e0:=gA o 6,e1:=gA o 7,e2:=gA o 8,e3:=gA o 9}
def Jh (K:Kf) (c:Cv) (l aX:Int):Cv:=
 if c.g0≠0 then{BO K c l with e0:=3}else if gA (thO K c l aX) 10≠0 then Dy (IB c (thO K c l aX))else IB c (thO K c l aX)
theorem Qqx {c:Cv} {n:Int} (h:KOK K) (g:Gd K n c) (l:Int) {aX:Int} (G:i64 aX):
  It (thL K c l aX)=some (thO K c l aX)/\∃v s b z y e:Int,thO K c l aX=El c.m0 c.m1 c.m3 c.m4 v++[I s,I b,I z,I y,I e]/\((AM K.pa K.pb v (V (v-c.m1))).2=true\/∃r:Int,v=V (c.m1+r)/\r=AB K.pa K.pb c.m1 c.m2):=by
 obtain⟨o,E,v,s,b,z,y,e,rfl,J⟩:=Zxi h g.mo l G;have E:It (thL K c l aX)=some (El c.m0 c.m1 c.m3 c.m4 v++[I s,I b,I z,I y,I e]):=E;have e2:thO K c l aX=El c.m0 c.m1 c.m3 c.m4 v++[I s,I b,I z,I y,I e]:=by unfold thO;rw[E];rfl
 rw[e2];exact⟨E,v,s,b,z,y,e,rfl,J⟩
theorem Ztf {c:Cv} {s:Sgm} (J:∀c,M (Ab K c)=some (Ab K (Dy c)))
  (N:Z (thL K c a s.aX)=some (thO K c a s.aX)) (O:∃v E b z y e:Int,thO K c a s.aX=El c.m0 c.m1 c.m3 c.m4 v++[I E,I b,I z,I y,I e]) (S:W (I a::Ab K c)=some (Ab K (BO K c a))):
  YE M Z W (I a::I s.to.x::I s.to.y::I s.to.z::I s.len::I s.aU::I s.aZ::I s.aX::Ab K c)=some (Ab K (Jh K c a s.aX)):=by
 rw[Zn9];unfold Jh;refine eC (λe=> ?_) λe=> ?_
 ·rw[ab (show c.g0≠0 by simpa using e)];generalize BO K c a=d at*;exact eB S rfl
 ·rw[aa (show¬c.g0≠0 by simpa using e)];obtain⟨v,E,b,z,y,G,T⟩:=O;generalize thO K c a s.aX=o at*;subst T;refine eB N ?_;refine eC (λq=> ?_) λq=> ?_
  ·rw[ab (show gA (El c.m0 c.m1 c.m3 c.m4 v++[I E,I b,I z,I y,I G]) 10≠0 by simpa using q)];refine cx (ii (λz=>Option.bind z _) (J (IB c (El c.m0 c.m1 c.m3 c.m4 v++[I E,I b,I z,I y,I G])))) rfl
  ·rw[aa (show¬gA (El c.m0 c.m1 c.m3 c.m4 v++[I E,I b,I z,I y,I G]) 10≠0 by simpa using q)];rfl
theorem Qx6 {c:Cv} {n:Int} (h:KOK K) (g:Gd K n c) (N:0<=n/\n<=10000) (l:Int) {s:Sgm} (E:i64 s.aX):
  Qb (I l::I s.to.x::I s.to.y::I s.to.z::I s.len::I s.aU::I s.aZ::I s.aX::Ab K c)=some (Ab K (Jh K c l s.aX)):=by
 obtain⟨G,v,J,b,z,y,e,M,-⟩:=Qqx h g l E;exact Ztf (XA K) G ⟨v,J,b,z,y,e,M⟩ (Qgk h g l)
def F2 (K:Kf) (c:Cv) (l:Int) (g:Sgm):Cv:=if(itK K g.aU).aP=6 then RE K c l g else Jh K c l g.aX
def Fd (K:Kf) (c:Cv) (l:Int):Cv:=
 if(sgK K c).aX=0\/(c.o2=true/\c.y0≠(sgK K c).aU)then BO K c l
 else if c.y0=(sgK K c).aU then F2 K c l (sgK K c)
 else if E_ K c (sgK K c)=true then F2 K (goC K c (sgK K c)) l (sgK K c)
 else if c.s1=0 then Dy c else c
theorem Gd.go {n:Int} {c:Cv} (g:Gd K n c) (s:Sgm):Gd K n (goC K c s):=⟨g.way,g.pass,g.task,g.mo,g.m0⟩
theorem Z0a {c:Cv} (G:(sgK K c).aX≠0->0<=(sgK K c).aU/\(sgK K c).aU<K.aA.length)
  (hG:P (Ab K c)=some (Av (sgK K c)++[B (DF K c).isSome])) (U:S (I v::Ab K c)=some (Ab K (BO K c v)))
  (J:(sgK K c).aX≠0->T (I (sgK K c).to.x::I (sgK K c).to.y::I (sgK K c).to.z::I (sgK K c).len::I (sgK K c).aU::I (sgK K c).aZ::I (sgK K c).aX::Ab K c)=some (B (E_ K c (sgK K c))::Ab K (if E_ K c (sgK K c)=true then goC K c (sgK K c)else c)))
  (hF:W (Ab K c)=some (Ab K (Dy c)))
  (N:(sgK K c).aX≠0->∀d,d=c\/d=goC K c (sgK K c)->Z (I v::I (sgK K c).to.x::I (sgK K c).to.y::I (sgK K c).to.z::I (sgK K c).len::I (sgK K c).aU::I (sgK K c).aZ::I (sgK K c).aX::Ab K d)=some (Ab K (RE K d v (sgK K c))))
  (O:(sgK K c).aX≠0->∀d,d=c\/d=goC K c (sgK K c)->M (I v::I (sgK K c).to.x::I (sgK K c).to.y::I (sgK K c).to.z::I (sgK K c).len::I (sgK K c).aU::I (sgK K c).aZ::I (sgK K c).aX::Ab K d)=some (Ab K (Jh K d v (sgK K c).aX))):
  Qbc M Z W T S P (I v::Ab K c)=some (Ab K (Fd K c v)):=by
 rw[Zil];unfold Fd;generalize sgK K c=s at*;refine eB hG ?_;refine eC (λe=> ?_) λe=> ?_
 ·rw[ab (.inl (show s.aX=0 from eq_of_beq e))];generalize BO K c v=d at*;exact eB U rfl
 ·have e:s.aX≠0:=by simpa [gA,nth,Ah]using e
  obtain⟨V,X⟩:=G e;have J:=J e;have N:=N e;have O:=O e
  have E:∀{d:Cv} {f1 f2:List AC->List AC},d=c\/d=goC K c s->(∀c,f1 (Ab K c)=Ab K c)->(∀c,f2 (Ab K c)=Ab K c)->
    (bif decide (0<=s.aU)&&decide (s.aU<((K.aA.map Af).length:Int))then(bif gA (nth [] (K.aA.map Af) s.aU.toNat) 0==6 then(Z (I v::I s.to.x::I s.to.y::I s.to.z::I s.len::I s.aU::I s.aZ::I s.aX::Ab K d)).bind λo=>some (f1 o)else(M (I v::I s.to.x::I s.to.y::I s.to.z::I s.len::I s.aU::I s.aZ::I s.aX::Ab K d)).bind λo=>some (f2 o))else none)=some (Ab K (F2 K d v s)):=λY h1 h2=>by
   refine eT (inM (f:=Af) V X) ?_;rw[J1 V X];unfold F2;refine eC (λk=> ?_) λk=> ?_
   ·rw[ab (show(itK K s.aU).aP=6 from eq_of_beq k)];exact eB (N _ Y) (ii some (h1 _))
   ·rw[aa (show(itK K s.aU).aP≠6 by simpa [gA,nth,Ah]using k)];exact eB (O _ Y) (ii some (h2 _))
  have hg:Ux c (Av s++[B (DF K c).isSome]) T K W Z v M=some (Ab K (if c.y0=s.aU then F2 K c v s else if E_ K c s=true then F2 K (goC K c s) v s else if c.s1=0 then Dy c else c)):=by
   refine eC (λy=> ?_) λy=> ?_
   ·have y:c.y0≠s.aU:=by simpa [gA,nth,Ah]using y
    rw[aa y];refine eB J ?_;cases hm:E_ K c s
    ·refine eT rfl ?_;rw[aa (by simp),aa (by simp)];refine eC (λz=> ?_) λz=> ?_
     ·rw[ab (show c.s1=0 from eq_of_beq z)];generalize Dy c=d at*;exact eB hF rfl
     ·rw[aa (show c.s1≠0 by simpa [gA,nth,Ah]using z)];rfl
    ·refine eF rfl ?_;rw[ab rfl,ab rfl];have h:=E (d:=goC K c s) (f1:=λo=>cR 0 o) (f2:=λo=>cR 0 o) (.inr rfl) (λ_=>rfl) (λ_=>rfl);generalize goC K c s=d at*;exact h
   ·have y:c.y0=s.aU:=by simpa [gA,nth,Ah]using y
    rw[ab y];exact E (f1:=λo=>cR 0 o) (f2:=λo=>cR 0 o) (.inl rfl) (λ_=>rfl) (λ_=>rfl)
  refine eC (λa=>eC (λb=> ?_) λb=> ?_) λa=> ?_
  ·have b:c.y0≠s.aU:=by simpa [gA,nth,Ah]using b
   rw[ab (.inr ⟨a,b⟩)];generalize BO K c v=d at*;exact eB U rfl
  ·have b:c.y0=s.aU:=by simpa [gA,nth,Ah]using b
   rw[aa (λq=>by rcases q with q|q;exact e q;exact q.2 b)];exact hg
  ·rw[aa (λq=>by rcases q with q|q;exact e q;rw[a]at q;cases q.1)];exact hg
theorem Zj3 {c:Cv} {n:Int} (h:KOK K) (g:Gd K n c) (E:0<=n/\n<=10000) (l:Int):Qh (I l::Ab K c)=some (Ab K (Fd K c l)):=
 Z0a (λe=>⟨(GA h e).1,(GA h e).2.1⟩) (VG h c) (Qgk h g l) (λe=>Zya h (GA h e).1 (GA h e).2.1) (XA K c)
  (λe d G=>by rcases G with rfl|rfl;exact Qwt h g E l (GA h e);exact Qwt h (g.go _) E l (GA h e))
  (λe d G=>by rcases G with rfl|rfl;exact Qx6 h g E l (GA h e).2.2;exact Qx6 h (g.go _) E l (GA h e).2.2)
def CQ (K:Kf) (c:Cv):Int×Cv:=
 if c.aM=true/\c.m0=V ((AG K c).1*256)then
  (if 0 <= (AG K c).2 then
   (if(mkK K (AG K c).2).aU=(Ee K c (AG K c).2).2.y0/\(itK K (mkK K (AG K c).2).aU).aP=5/\(Ee K c (AG K c).2).2.e0=1 then((Ee K c (AG K c).2).1,Dy (Ee K c (AG K c).2).2)else Ee K c (AG K c).2)
  else if K.closed=true then(7,{c with aI:=7})else(1,c))
 else(if c.g0≠0/\c.aM=true then 6 else 1,Fd K c (AG K c).1)
theorem Yao {c:Cv} (h:KOK K) (hi:(AG K c).2= -1\/0<=(AG K c).2/\c.next<=(AG K c).2/\(AG K c).2<K.p.aD.length)
  (hL:T (Ab K c)=some (I (AG K c).1::I (AG K c).2::Ab K c)) (X:0<=(AG K c).2->(AG K c).2<K.p.aD.length->W (I (AG K c).2::Ab K c)=some (I (Ee K c (AG K c).2).1::Ab K (Ee K c (AG K c).2).2))
  (hF:∀c,Z (Ab K c)=some (Ab K (Dy c))) (N:M (I (AG K c).1::Ab K c)=some (Ab K (Fd K c (AG K c).1))):
  YJ M Z W T (Ab K c)=some (I (CQ K c).1::Ab K (CQ K c).2):=by
 rw[Zzs];unfold CQ;generalize Fd K c (AG K c).1=mv at*;have a0:=X;generalize hb:Ee K c (AG K c).2=G at*;clear hb;generalize AG K c=E at*;refine eB hL ?_;have J:∀{a:Prop} [Decidable a],¬(c.aM=true/\c.m0=V (E.1*256))->∀{x:Option (List AC)},x=some (I (if c.g0≠0/\c.aM=true then 6 else 1)::Ab K mv)->
   x=some (I (if c.aM=true/\c.m0=V (E.1*256)then(if 0<=E.2 then(if(mkK K E.2).aU=G.2.y0/\(itK K (mkK K E.2).aU).aP=5/\G.2.e0=1 then(G.1,Dy G.2)else G)else if K.closed=true then(7,{c with aI:=7})else(1,c))else(if c.g0≠0/\c.aM=true then 6 else 1,mv)).1::Ab K (if c.aM=true/\c.m0=V (E.1*256)then(if 0<=E.2 then(if(mkK K E.2).aU=G.2.y0/\(itK K (mkK K E.2).aU).aP=5/\G.2.e0=1 then(G.1,Dy G.2)else G)else if K.closed=true then(7,{c with aI:=7})else(1,c))else(if c.g0≠0/\c.aM=true then 6 else 1,mv)).2):=λhn _ hx=>by
  rw[aa hn];exact hx
 refine eC (λs=>eC (λe=> ?_) λe=> ?_) λs=> ?_
 ·have s:c.aM=true:=s;have e:c.m0=V (E.1*256):=eq_of_beq e;rw[ab ⟨s,e⟩];refine eC (λk=> ?_) λk=> ?_
  ·have k:0<=E.2:=Bi k;rw[ab k];have k2:E.2<K.p.aD.length:=by
    rcases hi with hi|hi
    ·omega
    ·exact hi.2.2
   have O:=R3 h k k2;refine eB (X k k2) (eT (inM (f:=Aw) k k2) ?_);have S:nth [] (K.p.aD.map Aw) E.2.toNat=Aw (mkK K E.2):=NZ k k2;have U:nth [] (K.aA.map Af) (mkK K E.2).aU.toNat=Af (itK K (mkK K E.2).aU):=J1 O.1 O.2.1;refine eC (λy=> ?_) λy=> ?_
   ·have y:(mkK K E.2).aU=G.2.y0:=by
     have:=eq_of_beq (show(gA (nth [] (K.p.aD.map Aw) E.2.toNat) 2==G.2.y0)=true from y);rw[S]at this;exact this
    refine eT (show(decide (0<=gA (nth [] (K.p.aD.map Aw) E.2.toNat) 2)&&decide (gA (nth [] (K.p.aD.map Aw) E.2.toNat) 2<((K.aA.map Af).length:Int)))=true by rw[S];exact inM (f:=Af) (l:=K.aA) (i:=(mkK K E.2).aU) O.1 O.2.1) ?_;have Y:gA (nth [] (K.aA.map Af) (gA (nth [] (K.p.aD.map Aw) E.2.toNat) 2).toNat) 0=(itK K (mkK K E.2).aU).aP:=by
     rw[S];show gA (nth [] (K.aA.map Af) (mkK K E.2).aU.toNat) 0=_;rw[U];rfl
    refine eC (λq=> ?_) λq=> ?_
    ·have q:(itK K (mkK K E.2).aU).aP=5:=by rw[<-Y];exact eq_of_beq q
     refine eC (λz=> ?_) λz=> ?_
     ·have z:G.2.e0=1:=eq_of_beq z;rw[ab ⟨y,q,z⟩];exact eB (hF G.2) rfl
     ·have z:G.2.e0≠1:=λe=>by have:(G.2.e0==1)=false:=z;rw[beT e]at this;cases this
      rw[aa (λw=>z w.2.2)];rfl
    ·have q:(itK K (mkK K E.2).aU).aP≠5:=λe=>by
      have:(gA (nth [] (K.aA.map Af) (gA (nth [] (K.p.aD.map Aw) E.2.toNat) 2).toNat) 0==5)=false:=q;rw[Y,beT e]at this;cases this
     rw[aa (λw=>q w.2.1)];rfl
   ·have y:(mkK K E.2).aU≠G.2.y0:=λe=>by
     have:(gA (nth [] (K.p.aD.map Aw) E.2.toNat) 2==G.2.y0)=false:=y;rw[S]at this;rw[show(gA (Aw (mkK K E.2)) 2==G.2.y0)=true from beT e]at this;cases this
    rw[aa (λw=>y w.1)];rfl
  ·have k: ¬0<=E.2:=Bp k;rw[aa k];refine eC (λq=> ?_) λq=> ?_
   ·rw[ab (show K.closed=true from q)];rfl
   ·rw[aa (show¬K.closed=true by rw[show K.closed=false from q];simp)];rfl
 ·have e:c.m0≠V (E.1*256):=λe'=>by
   have:(c.m0==V (E.1*256))=false:=e;rw[beT e']at this;cases this
  refine J (a:=True) (λw=>e w.2) ?_;refine eC (λq=> ?_) λq=> ?_
  ·have q:c.g0≠0:=λe=>by
    have:(c.g0 !=0)=true:=q;rw[bnF e]at this;cases this
   refine eB N (eT (show c.aM=true from s) ?_);rw[ab ⟨q,show c.aM=true from s⟩];rfl
  ·have q:c.g0=0:=bv λe=>by
    have:(c.g0 !=0)=false:=q;rw[bnT e]at this;cases this
   refine eB N ?_;rw[aa (λw=>w.1 q)];rfl
 ·have s:c.aM=false:=s;refine J (a:=True) (λw=>by rw[s]at w;cases w.1) ?_;refine eC (λq=> ?_) λq=> ?_
  ·refine eB N (eF (show c.aM=false from s) ?_);rw[aa (λw=>by rw[s]at w;cases w.2)];rfl
  ·refine eB N ?_;rw[aa (λw=>by rw[s]at w;cases w.2)];rfl
theorem Zbr {c:Cv} {n:Int} (h:KOK K) (g:Gd K n c) (E:0<=n/\n<=10000):Kr (Ab K c)=some (I (CQ K c).1::Ab K (CQ K c).2):=
 Yao h (X5 K c) (Zvy h c) (λh0 G=>Zvn h h0 G) (XA K) (Zj3 h g E _)
def swI (s:Int) (it:Itm):Int:=one K7 (I s::Af it)
theorem Zxp (s:Int) (it:Itm):K7 (I s::Af it)=some [I (swI s it)]:=by
 have key:∃v,K7 (I s::Af it)=some [I v]:=by
  show∃v,Qnh (I s::Af it)=some [I v];rw[Z9s];by_cases E:it.aP=10
  ·rw[BI (bnF E)];by_cases G:it.n<0
   ·rw[Ca (am G)];exact⟨_,rfl⟩
   ·rw[BI (an G)];by_cases J:it.n>=16
    ·rw[Ca (am J)];exact⟨_,rfl⟩
    ·rw[BI (an J),BI (an (by simp[V,IntKind.wrap,IntKind.signed,IntKind.bits];omega))];cases it.on<;>exact⟨_,rfl⟩
  ·rw[Ca (bnT E)];exact⟨_,rfl⟩
 obtain⟨v,h⟩:=key;exact Ql4 h
def EV (K:Kf) (s:Int):List Mrk->Cv->List Int×Cv
 |[],c=>([],c)
 |m::l,c=>if m.at_>s\/(m.at_=s/\c.next<=c.aK/\BS m.aP c=true)then([],c)
  else if m.aP=5 then(m.aU::(EV K s l {c with outs:=swI c.outs (itK K m.aU),aK:=c.aK+1}).1,(EV K s l {c with outs:=swI c.outs (itK K m.aU),aK:=c.aK+1}).2)
  else EV K s l {c with aK:=c.aK+1}
def BV (K:Kf) (c:Cv) (s:Int):List Int×Cv:=EV K s (K.p.aD.drop c.aK.toNat) c
theorem Z5q {c:Cv} (h:KOK K) (U:0<=c.aK/\c.aK<=K.p.aD.length) (s:Int)
  (X:∀(c:Cv) (at_ k it:Int),Z [I at_,I k,I it,I c.o0,I c.o1,B c.o2,B c.o3,B c.o4]=some [B (BS k c)]) (Y:∀(s:Int) (it:Itm),M (I s::Af it)=some [I (swI s it)]):
  Qqv M Z (Ak (SG M Z)) (I s::Ab K c)=some (.vC Aa ((BV K c s).1.map Ao)::Ab K (BV K c s).2):=by
 rw[Yaj];have key:Out (λo=>o=(1, .vC Aa ((BV K c s).1.map Ao)::Ab K (BV K c s).2)) (Ak (SG M Z) (.vC Aa (([]:List Int).map Ao)::I s::Ab K c)):=by
  have hc:=h.count;refine Co (λz:List Int×Cv=> .vC Aa (z.1.map Ao)::I s::Ab K z.2)
   (λz=>0<=z.2.aK/\z.2.aK<=K.p.aD.length/\(z.1.length:Int)<=z.2.aK/\(BV K c s).1=z.1++(EV K s (K.p.aD.drop z.2.aK.toNat) z.2).1/\(BV K c s).2=(EV K s (K.p.aD.drop z.2.aK.toNat) z.2).2)
   (λz=>(K.p.aD.length-z.2.aK).toNat) _ ?_ ([],c) ⟨U.1,U.2,by simp;omega,rfl,rfl⟩
  rintro⟨l,d⟩ ⟨g1,g2,g3,G,J⟩;dsimp only at g1 g2 g3 G J;refine Out.eqv (Zpw M Z _ _ K d) ?_;refine .cond (λk=> ?_) λk=> ?_
  ·have k:d.aK<((K.p.aD.map Aw).length:Int):=Bi k;rw[af]at k;have hi:d.aK.toNat<K.p.aD.length:=by omega
   have em:mkK K d.aK=K.p.aD[d.aK.toNat]:=by unfold mkK;rw[List.getD,ai hi];rfl
   have N:=R3 h g1 k;rw[il hi,<-em]at G J;unfold EV at G J;refine .cond (λ_=> ?_) λe=>(inB g1 (by rw[af];exact k) e).elim;rw[NZ g1 k];generalize S:mkK K d.aK=m at*;have wp:V (d.aK+1)=d.aK+1:=Ae;have O:(d.aK+1).toNat=d.aK.toNat+1:=by omega
   have stop:(m.at_>s\/(m.at_=s/\d.next<=d.aK/\BS m.aP d=true))->∀{x:List AC},x= .vC Aa (l.map Ao)::Ab K d->Out (λo:Nat×List AC=>(o.1=0/\∃E:List Int×Cv,o.2= .vC Aa (E.1.map Ao)::I s::Ab K E.2/\(0<=E.2.aK/\E.2.aK<=K.p.aD.length/\(E.1.length:Int)<=E.2.aK/\(BV K c s).1=E.1++(EV K s (K.p.aD.drop E.2.aK.toNat) E.2).1/\(BV K c s).2=(EV K s (K.p.aD.drop E.2.aK.toNat) E.2).2)/\(K.p.aD.length-E.2.aK).toNat<(K.p.aD.length-d.aK).toNat)\/(o.1≠0/\o=(1, .vC Aa ((BV K c s).1.map Ao)::Ab K (BV K c s).2))) (some (1,x)):=λT _ hx=>by
    rw[ab T]at G J;subst hx;refine .some (.inr ⟨by simp,?_⟩);rw[G,J,List.append_nil]
   have go: ¬(m.at_>s\/(m.at_=s/\d.next<=d.aK/\BS m.aP d=true))->Out (λo:Nat×List AC=>(o.1=0/\∃E:List Int×Cv,o.2= .vC Aa (E.1.map Ao)::I s::Ab K E.2/\(0<=E.2.aK/\E.2.aK<=K.p.aD.length/\(E.1.length:Int)<=E.2.aK/\(BV K c s).1=E.1++(EV K s (K.p.aD.drop E.2.aK.toNat) E.2).1/\(BV K c s).2=(EV K s (K.p.aD.drop E.2.aK.toNat) E.2).2)/\(K.p.aD.length-E.2.aK).toNat<(K.p.aD.length-d.aK).toNat)\/(o.1≠0/\o=(1, .vC Aa ((BV K c s).1.map Ao)::Ab K (BV K c s).2))) (PL K d (l.map Ao) M s):=λT=>by
    rw[aa T]at G J;unfold PL;rw[NZ g1 k,S,wp];refine .cond (λq=> ?_) λq=> ?_
    ·have q:m.aP=5:=eq_of_beq q;rw[ab q]at G J;refine .cond (λ_=> ?_) λe=>by rw[Dl (by simp;omega)]at e;cases e
     refine .cond (λ_=> ?_) λe=>(inB (show 0<=gA (Aw m) 2 from N.1) (show gA (Aw m) 2<((K.aA.map Af).length:Int) by rw[af];exact N.2.1) e).elim;rw[show nth [] (K.aA.map Af) (gA (Aw m) 2).toNat=Af (itK K m.aU)from J1 N.1 N.2.1];refine .bind (p:=λo=>o=_) ⟨_,Y d.outs (itK K m.aU),rfl⟩ λo e=> ?_;subst e;refine .some (.inl ⟨rfl,(l++[m.aU],{d with outs:=swI d.outs (itK K m.aU),aK:=d.aK+1}),?_,⟨by dsimp only;omega,by dsimp only;omega,by simp;omega,?_,?_⟩,by dsimp only;omega⟩)
     ·rw[de];rfl
     ·dsimp only;rw[G,O];simp
     ·dsimp only;rw[J,O]
    ·have q:m.aP≠5:=by simpa [gA,nth,Ah]using q
     rw[aa q]at G J;refine .some (.inl ⟨rfl,(l,{d with aK:=d.aK+1}),rfl,⟨by dsimp only;omega,by dsimp only;omega,by dsimp only;omega,?_,?_⟩,by dsimp only;omega⟩)
     ·dsimp only;rw[G,O]
     ·dsimp only;rw[J,O]
   refine .cond (λa=>stop (.inl (Bi a)) rfl) λa=> ?_;have a: ¬m.at_>s:=Bp a;refine .cond (λb=> .cond (λe=> ?_) λe=>go λw=> ?_) λb=>go λw=> ?_
   ·refine .bind (p:=λo=>o=_) ⟨_,X d _ _ _,rfl⟩ λo q=> ?_;subst q;refine .cond (λq=>stop (.inr ⟨eq_of_beq b,Bi e,q⟩) rfl) λq=>go λw=> ?_;have q:BS m.aP d=false:=q;rcases w with w|w
    ·exact a w
    ·rw[q]at w;cases w.2.2
   ·rcases w with w|w
    ·exact a w
    ·exact Bp e w.2.1
   ·rcases w with w|w
    ·exact a w
    ·have:(m.at_==s)=false:=b;rw[beT w.1]at this;cases this
  ·have k: ¬d.aK<((K.p.aD.map Aw).length:Int):=Bp k;rw[af]at k;rw[fc (by omega)]at G J;refine .some (.inr ⟨by simp,?_⟩);rw[G,J];simp[EV]
 obtain⟨o,h1,rfl⟩:=key;exact eB h1 rfl
theorem Qyv {c:Cv} (h:KOK K) (E:0<=c.aK/\c.aK<=K.p.aD.length) (s:Int):NJ (I s::Ab K c)=some (.vC Aa ((BV K c s).1.map Ao)::Ab K (BV K c s).2):=
 Z5q h E s (λc at_ k it=>Qxa at_ k it c) Zxp
def Bx (K:Kf) (c:Cv):Int×Cv:=
 if c.g0=2 then(6,stand c)else if c.aI≠0 then(c.aI,c)
 else if c.aH=true/\c.aM=true then(8,{c with aI:=8})else if c.on=true then Bv K c else(0,c)
theorem Zok (K:Kf) (c:Cv):(GG K c).1≠0:=by
 unfold GG
 (repeat' split)<;>simp
theorem Z41 (K:Kf) (c:Cv):(Bv K c).1≠0:=Zok K (De c)
abbrev CV (K:Kf) (frm i:Int) (c:Cv):List AC:=I frm::I 5::I i::(Cg++(Cg++Ab K c))
abbrev LL (K:Kf) (frm mode:Int) (c:Cv):List AC:=I frm::(Cg++([.vC kPt [], .vC Aa [],I mode,I 0,I 0,I 0,I 0,I 0,I 0]++Ab K c))
theorem Z99 {O S E G J M MU T U X Y MV:Fn} {c:Cv} (frm:Int)
  (hU:MU (Ab K c)=some (if c.g0=2 then I 6::B true::Ab K (stand c)else I 0::B false::Ab K c))
  (hO:M (Ab K c)=some (I c.aI::B (c.aI !=0)::Ab K c))
  (hP:J (Ab K c)=some (if c.aH=true/\c.aM=true then I 8::B true::Ab K {c with aI:=8}else I 0::B false::Ab K c))
  (hB:G (Ab K c)=some (if c.on=true then I (Bv K c).1::B true::Ab K (Bv K c).2 else I 0::B false::Ab K c))
  (hG:E (Ab K c)=some (I 0::B false::Ab K c)):
  Ak (Fa O S E G J M MU T U X Y MV N) (CV K frm 0 c)=some (1,LL K frm (Bx K c).1 (Bx K c).2):=by
 have w:∀i:Int,0<=i->i<5->V (i+1)=i+1:=λi _ _=>Ae;have e:=λi=>Q7x O S E G J M MU T U X Y MV N frm 5 i [] [] 0 0 0 0 0 0 0 [] [] 0 0 0 0 0 0 0 K c;have s0:c.g0≠2->Fa O S E G J M MU T U X Y MV N (CV K frm 0 c)=some (0,CV K frm 1 c):=λh=>by
  refine cx (e 0) (eT rfl (eT rfl (eB hU ?_)));rw[aa h];rfl
 have s1:c.aI=0->Fa O S E G J M MU T U X Y MV N (CV K frm 1 c)=some (0,CV K frm 2 c):=λh=>by
  refine cx (e 1) (eT rfl (eF rfl (eT rfl (eB hO ?_))));rw[h];rfl
 have s2: ¬(c.aH=true/\c.aM=true)->Fa O S E G J M MU T U X Y MV N (CV K frm 2 c)=some (0,CV K frm 3 c):=λh=>by
  refine cx (e 2) (eT rfl (eF rfl (eF rfl (eT rfl (eB hP ?_)))));rw[aa h];rfl
 have s3:c.on=false->Fa O S E G J M MU T U X Y MV N (CV K frm 3 c)=some (0,CV K frm 4 c):=λh=>by
  refine cx (e 3) (eT rfl (eF rfl (eF rfl (eF rfl (eT rfl (eB hB ?_))))));rw[aa (by rw[h];simp)];rfl
 have s4:Fa O S E G J M MU T U X Y MV N (CV K frm 4 c)=some (0,CV K frm 5 c):=by
  refine cx (e 4) (eT rfl (eF rfl (eF rfl (eF rfl (eF rfl (eT rfl (eB hG ?_)))))));rfl
 have s5:Fa O S E G J M MU T U X Y MV N (CV K frm 5 c)=some (1,LL K frm 0 c):=by
  exact cx (e 5) (eF rfl rfl)
 unfold Bx;by_cases h:c.g0=2
 ·rw[ab h];refine Be (cx (e 0) (eT rfl (eT rfl (eB hU ?_)))) (by simp);rw[ab h];rfl
 rw[aa h,Bz (s0 h)];by_cases h:c.aI=0
 ·rw[aa (by simpa using h),Bz (s1 h)];by_cases h:c.aH=true/\c.aM=true
  ·rw[ab h];refine Be (cx (e 2) (eT rfl (eF rfl (eF rfl (eT rfl (eB hP ?_)))))) (by simp);rw[ab h];rfl
  ·rw[aa h,Bz (s2 h)];cases h:c.on
   ·rw[aa (by simp),Bz (s3 h),Bz s4];exact Be s5 (by simp)
   ·rw[ab rfl];refine Be (cx (e 3) (eT rfl (eF rfl (eF rfl (eF rfl (eT rfl (eB hB ?_))))))) (by simp);rw[ab h];generalize Bv K c=wk;rfl
 ·rw[ab h];refine Be (cx (e 1) (eT rfl (eF rfl (eT rfl (eB hO ?_))))) (by simp);rw[bnT h];rfl
theorem Z7d {c:Cv} {n:Int} (h:KOK K) (g:Gd K n c):KU (Ab K c)=some (if c.on=true then I (Bv K c).1::B true::Ab K (Bv K c).2 else I 0::B false::Ab K c):=by
 have key:∀{M:Fn},(c.on=true->M (Ab K c)=some (I (Bv K c).1::Ab K (Bv K c).2))->VI M (Ab K c)=some (if c.on=true then I (Bv K c).1::B true::Ab K (Bv K c).2 else I 0::B false::Ab K c):=by
  intro M E;rw[Q1k];cases e:c.on
  ·rw[aa (by simp)];rfl
  ·rw[ab rfl];have E:=E e;generalize Bv K c=G at*;exact eB E rfl
 exact key λe=>Qa6 h (g.task e).1 (g.task e).2
abbrev B5 (c:Cv):Cv:={c with aJ:=false,aL:=false}
def D5 (c:Cv) (E:List Evn):Cv:=E.foldl (λc e=>evC c e.aP e.n) (B5 c)
def Qdb (E:List Evn):Prop:=E.length<=1000000/\∀e∈E,e.aP≠7/\e.aP≠12/\e.aP≠13
theorem Zfm {M N G O S T MU U V X Y J:Fn} {c:Cv} {E:List Evn} (hE:Qdb E)
  (hV:∀(c:Cv) (x:Int) {k:Int} (n:Int),k≠7/\k≠12/\k≠13->J (I x::I k::I n::Ab K c)=some (Ab K (evC c k n))):
  Ak (NC M N G O S T MU U V X Y J) (.vC kPt (E.map evR)::I (E.map evR).length::I 0::(Cg++Ab K (B5 c)))=some (1,Cg++Ab K (D5 c E)):=by
 have key:Out (λo=>o=(1,Cg++Ab K (D5 c E))) (Ak (NC M N G O S T MU U V X Y J) (.vC kPt (E.map evR)::I (E.map evR).length::I ((0:Nat):Int)::(Cg++Ab K (D5 c (E.take 0))))):=by
  refine Co (λi:Nat=> .vC kPt (E.map evR)::I (E.map evR).length::I (i:Int)::(Cg++Ab K (D5 c (E.take i)))) (λi=>i<=E.length) (λi=>E.length-i) _ ?_ 0 (by simp);intro i hi;have hl:=hE.1;refine Out.eqv (Q0f M N G O S T MU U V X Y J (E.map evR) (E.map evR).length i [] [] 0 0 0 0 0 0 0 K (D5 c (E.take i))) ?_;refine .cond (λk=> ?_) λk=> ?_
  ·have k:(i:Int)<((E.map evR).length:Int):=Bi k;have hi:i<E.length:=by rw[af]at k;omega
   refine .cond (λ_=> ?_) λe=>(inB (by omega) k e).elim;rw[Q4p E hi];refine .bind (p:=λo=>o=_) ⟨_,hV (D5 c (E.take i)) E[i].cycle E[i].n (hE.2 _ (bn hi)),rfl⟩ λo e=> ?_;subst e;have e1:D5 c (E.take (i+1))=evC (D5 c (E.take i)) E[i].aP E[i].n:=by
    unfold D5;rw[jc,ai hi,kn];rfl
   rw[Ae (x:=(i:Int)+1)];refine .some (.inl ⟨rfl,i+1,?_,by omega,by omega⟩);rw[e1];have st:∀d:Cv,Cg++cR 0 (Ab K d)=Cg++Ab K d:=λ_=>rfl;exact ii (λz=>AC.vC kPt (E.map evR)::I (E.map evR).length::I ((i:Int)+1)::z) (st (evC (D5 c (E.take i)) E[i].aP E[i].n))
  ·have k: ¬(i:Int)<((E.map evR).length:Int):=Bp k;rw[af]at k;rw[i8 (by omega)];generalize D5 c E=d;exact .some (.inr ⟨by simp,rfl⟩)
 obtain⟨o,h1,rfl⟩:=key;exact h1
def Nf (K:Kf) (frm u:Int):Rw:=wA ((Ks (pxt K.p K.x K.t [I frm,I u])).getD []) 0
theorem Q8a (h:KOK K) (frm u:Int) (E:u-frm<=1000000000000):Out (λo=>wA o 0=Nf K frm u) (Ks (pxt K.p K.x K.t [I frm,I u])):=
 ⟨_,Qg7 (Z9a h.f frm u E),rfl⟩
abbrev BR (K:Kf) (c:Cv):Pt:=CO K.p K.x K.t (AE c)
theorem Z9w {E G J M MU:Fn} {c:Cv} (S:c.way=0) (T:c.aL=false) {frm mode:Int}
  (U:MU (Ab K c)=some [I (AE c)]) (V:M (Ab K c)=some [I (At K c)]) (N:Out (λo=>wA o 0=Nf K frm (AE c)) (J (pxt K.p K.x K.t [I frm,I (AE c)])))
  (O:∀s,G (I s::Ab K c)=some (.vC Aa ((BV K c s).1.map Ao)::Ab K (BV K c s).2)) (X:∀s,∃n q:Int,(BV K c s).2={c with aK:=n,outs:=q}) (Y:∀u,E (pxt K.p K.x K.t [I u])=some (ptR (CO K.p K.x K.t u))):
  SE E G J M MU (I frm::(Ab K c++[.vC kPt [], .vC Aa [],I mode,I 0,I 0,I 0,I 0,I 0,I 0]))=
   some (Ab K (BV K c (At K c)).2++B8 (Nf K frm (AE c)) ((BV K c (At K c)).1.map Ao) mode (At K c) (BR K c) c.s3 c.g1):=by
 refine cx (Q6n E G J M MU frm [] [] mode 0 0 0 0 0 0 K c) ?_;obtain⟨o,N,ho⟩:=N;rw[<-ho];refine eB U (eB V (eT (show(!c.aL)=true by rw[T];rfl) (eB N (eT (show(c.way==0)=true from beT S) ?_))));have O:=O (At K c);obtain⟨n,q,hq⟩:=X (At K c);generalize BV K c (At K c)=ps at*;refine eB O ?_;rw[hq];refine eB (Y (AE c)) ?_;rw[show BR K c=CO K.p K.x K.t (AE c)from rfl];generalize CO K.p K.x K.t (AE c)=mt;rfl
theorem Qix (K:Kf) (s:Int):∀(l:List Mrk) (c:Cv),∃n q:Int,(EV K s l c).2={c with aK:=n,outs:=q}
 |[],c=>⟨c.aK,c.outs,rfl⟩
 |m::l,c=>by
  unfold EV;split
  ·exact⟨c.aK,c.outs,rfl⟩
  ·split
   ·obtain⟨n,q,h⟩:=Qix K s l {c with outs:=swI c.outs (itK K m.aU),aK:=c.aK+1};exact⟨n,q,h⟩
   ·obtain⟨n,q,h⟩:=Qix K s l {c with aK:=c.aK+1};exact⟨n,q,h⟩
theorem RX (K:Kf) (c:Cv) (s:Int):∃n q:Int,(BV K c s).2={c with aK:=n,outs:=q}:=Qix K s _ c
theorem Zm3 {c:Cv} {n:Int} (h:KOK K) (g:Gd K n c) (E:0<=n/\n<=10010) (G:c.aL=false) {frm mode:Int} (hf: -300000000000<=frm/\frm<=300000000000):
  Ls (I frm::(Ab K c++[.vC kPt [], .vC Aa [],I mode,I 0,I 0,I 0,I 0,I 0,I 0]))=
   some (Ab K (BV K c (At K c)).2++B8 (Nf K frm (AE c)) ((BV K c (At K c)).1.map Ao) mode (At K c) (BR K c) c.s3 c.g1):=
 Z9w g.way G (LD K c) (Nk h c) (Q8a h frm (AE c) (by have:=Y0 g E;omega)) (λs=>Qyv h g.pass s) (RX K c) (QE h.f)
def Du (c:Cv):Cv:=if c.aH=true\/c.g0≠0 then{c with o2:=true}else c
def Bd (c:Cv):Cv:={c with before:=c.s3}
def Dq (K:Kf) (c:Cv):Cv:=if HT K c=true then c else spS c K.ramp
def FC (c:Cv):Cv:={c with aM:=AR c}
def II (K:Kf) (c:Cv) (E:List Evn):Cv:=FC (Dq K (Bd (Du (D5 c E))))
def stC (K:Kf) (c:Cv) (E:List Evn):Int×Cv:=if(Bx K (II K c E)).1=0 then CQ K (Bx K (II K c E)).2 else Bx K (II K c E)
def K3 (K:Kf) (c:Cv) (E:List Evn):Cv:=(BV K (stC K c E).2 (At K (stC K c E).2)).2
def Z0b (K:Kf) (c:Cv) (E:List Evn):List Int:=(BV K (stC K c E).2 (At K (stC K c E).2)).1
def tkC (K:Kf) (c:Cv) (E:List Evn):List AC:=
 B8 (Nf K (AE (D5 c E)) (AE (stC K c E).2)) ((Z0b K c E).map Ao) (stC K c E).1 (At K (stC K c E).2) (BR K (stC K c E).2) (stC K c E).2.s3 (stC K c E).2.g1
theorem Z10 {o:Nat×List AC} (E:∃e,o.2=Cg++Ab K e)
  (J:N (CV K a 0 d)=some (1,LL K a (Bx K d).1 (Bx K d).2))
  (S:(Bx K d).1=0->M (Ab K (Bx K d).2)=some (I (CQ K (Bx K d).2).1::Ab K (CQ K (Bx K d).2).2))
  {s:Int×Cv} (G:s=if(Bx K d).1=0 then CQ K (Bx K d).2 else Bx K d)
  {pul outs:Rw} {pos sp ft:Int} {mt:Pt} {q:Cv}
  (O:Z (I a::(Ab K s.2++[.vC kPt [], .vC Aa [],I s.1,I 0,I 0,I 0,I 0,I 0,I 0]))=some (Ab K q++B8 pul outs s.1 pos mt sp ft)):
  GT N o M Z (I a) (Ab K d)=some (B8 pul outs s.1 pos mt sp ft++Ab K q):=by
 obtain⟨o1,o2⟩:=o;obtain⟨e,E⟩:=E;dsimp only at E;subst E;refine eB J (eT rfl ?_);generalize Bx K d=r at*;generalize CQ K r.2=w at*;by_cases h:r.1=0
 ·rw[ab h]at G;subst G;refine eT (show(r.1==0)=true from beT h) (eB (S h) (eB O rfl))
 ·rw[aa h]at G;subst G;exact eF (show(s.1==0)=false from beF h) (eB O rfl)
theorem Yai {M N O Y MP MO MU S T U V MV:Fn} {X G:Lp} {c:Cv} {E:List Evn}
  (h3:X (.vC kPt (E.map evR)::I (E.map evR).length::I 0::(Cg++Ab K (B5 c)))=some (1,Cg++Ab K (D5 c E)))
  (hT:∀c,V (Ab K c)=some [B (HT K c)]) (hX:∀(c:Cv) (ramp:Int),U [I c.s0,I c.s1,I c.s2,I c.s3,I ramp]=some [I (spS c ramp).s0,I (spS c ramp).s1,I (spS c ramp).s2,I (spS c ramp).s3])
  (hN:∀c,T (Ab K c)=some [I (AE c)]) (hS:∀c:Cv,S [I c.m0,I c.m1,I c.m2,I c.m3,I c.m4,I c.m5]=some [B (AR c)])
  (J:∀o:Nat×List AC,(∃e,o.2=Cg++Ab K e)->GT G o N M (I (AE (D5 c E))) (Ab K (II K c E))=some (tkC K c E++Ab K (K3 K c E))):
  Vy M N O Y MP MO MU S T U V MV X G (.vC kPt (E.map evR)::Ab K c)=some (tkC K c E++Ab K (K3 K c E)):=by
 refine cx (Q0y M N O Y MP MO MU S T U V MV X G (E.map evR) K c) ?_;refine eB h3 (eT rfl ?_);unfold II at J;generalize tkC K c E=tk at*;generalize K3 K c E=sc at*;generalize D5 c E=d at*
 have rest:∀b:Cv,Du d=b->AE b=AE d->AR b=AR d->
   ((V (Ab K (Bd b))).bind λo => bif !bA o 0 then (U [I b.s0, I b.s1, I b.s2, I b.s3, I K.ramp]).bind λo2 => (T (Ab K { Bd b with s0 := gA o2 0, s1 := gA o2 1, s2 := gA o2 2, s3 := gA o2 3 })).bind λo3 => (S [I d.m0, I d.m1, I d.m2, I d.m3, I d.m4, I d.m5]).bind λo4 => GT G (1, Cg ++ Ab K d) N M (jA o3 0) (Ab K { Bd b with s0 := gA o2 0, s1 := gA o2 1, s2 := gA o2 2, s3 := gA o2 3, aM := bA o4 0 })
    else(T (Ab K (Bd b))).bind λo3=>(S [I d.m0,I d.m1,I d.m2,I d.m3,I d.m4,I d.m5]).bind λo4=>GT G (1,Cg++Ab K d) N M (jA o3 0) (Ab K {Bd b with aM:=bA o4 0}))=some (tk++Ab K sc):=λb hb hu hs=>by
  have J:=J (1,Cg++Ab K d) ⟨d,rfl⟩;rw[hb]at J;refine eB (hT (Bd b)) ?_;cases ht:HT K (Bd b)
  ·have e1:Dq K (Bd b)=spS (Bd b) K.ramp:=by unfold Dq;rw[aa (by rw[ht];simp)]
   rw[e1]at J;refine eT rfl (eB (hX b K.ramp) ?_);refine cx (ii (λz=>Option.bind z _) (hN (spS (Bd b) K.ramp))) (eB rfl (eB (hS d) ?_));have e2:AE (spS (Bd b) K.ramp)=AE d:=hu;have e3:({spS (Bd b) K.ramp with aM:=AR d}:Cv)=FC (spS (Bd b) K.ramp):=by
    unfold FC;rw[show AR (spS (Bd b) K.ramp)=AR b from rfl,hs]
   rw[<-e3,<-e2]at J;exact J
  ·have e1:Dq K (Bd b)=Bd b:=by unfold Dq;rw[ab ht]
   rw[e1]at J;refine eF rfl ?_;refine cx (ii (λz=>Option.bind z _) (hN (Bd b))) (eB rfl (eB (hS d) ?_));have e2:AE (Bd b)=AE d:=hu;have e3:({Bd b with aM:=AR d}:Cv)=FC (Bd b):=by
    unfold FC;rw[show AR (Bd b)=AR b from rfl,hs]
   rw[<-e3,<-e2]at J;exact J
 refine eC (λt=> ?_) λt=>eC (λq=> ?_) λq=> ?_
 ·have t:d.aH=true:=t;exact rest {d with o2:=true} (by unfold Du;rw[ab (.inl t)]) rfl rfl
 ·have q:d.g0≠0:=λe=>by
   have:(d.g0 !=0)=true:=q;rw[bnF e]at this;cases this
  exact rest {d with o2:=true} (by unfold Du;rw[ab (.inr q)]) rfl rfl
 ·have t:d.aH=false:=t;have q:d.g0=0:=bv λe=>by
   have:(d.g0 !=0)=false:=q;rw[bnT e]at this;cases this
  exact rest d (by unfold Du;rw[aa (λw=>by rcases w with w|w;rw[t]at w;cases w;exact w q)]) rfl rfl
structure Kp (c d : Cv) : Prop where
 way:d.way=c.way
 aL:d.aL=c.aL
 aK:d.aK=c.aK
 outs:d.outs=c.outs
theorem Kp.rfl {c:Cv}:Kp c c:=⟨Eq.refl _,Eq.refl _,Eq.refl _,Eq.refl _⟩
theorem Kp.trans {a b c:Cv} (h:Kp a b) (g:Kp b c):Kp a c:=⟨g.way.trans h.way,g.aL.trans h.aL,g.aK.trans h.aK,g.outs.trans h.outs⟩
structure Sm (c d : Cv) : Prop where
 kp:Kp c d
 m0:d.m0=c.m0
 m1:d.m1=c.m1
 m2:d.m2=c.m2
 m3:d.m3=c.m3
 m4:d.m4=c.m4
 on:d.on=c.on
 idx:d.idx=c.idx
 aI:d.aI=c.aI
 aH:d.aH=c.aH
 next:d.next=c.next
theorem Sm.trans {a b c:Cv} (h:Sm a b) (g:Sm b c):Sm a c:=
 ⟨h.kp.trans g.kp,g.m0.trans h.m0,g.m1.trans h.m1,g.m2.trans h.m2,g.m3.trans h.m3,g.m4.trans h.m4,g.on.trans h.on,g.idx.trans h.idx,g.aI.trans h.aI,g.aH.trans h.aH,g.next.trans h.next⟩
theorem Sm.rfl {c:Cv}:Sm c c:=⟨Kp.rfl,Eq.refl _,Eq.refl _,Eq.refl _,Eq.refl _,Eq.refl _,Eq.refl _,Eq.refl _,Eq.refl _,Eq.refl _,Eq.refl _⟩
theorem Gd.sm {n:Int} {c d:Cv} (g:Gd K n c) (h:Sm c d):Gd K n d:=g.same h.kp.way h.kp.aK h.on h.idx h.m0 h.m1 h.m2
theorem Q0j (c:Cv) (k n:Int):Sm c (evC c k n):=⟨⟨Eq.refl _,Eq.refl _,Eq.refl _,Eq.refl _⟩,Eq.refl _,Eq.refl _,Eq.refl _,Eq.refl _,Eq.refl _,Eq.refl _,Eq.refl _,Eq.refl _,Eq.refl _,Eq.refl _⟩
theorem Qzs:∀(E:List Evn) (c:Cv),Sm c (E.foldl (λc e=>evC c e.aP e.n) c)
 |[],_=>Sm.rfl
 |e::E,c=>(Q0j c e.aP e.n).trans (Qzs E _)
theorem Zdt (c:Cv) (E:List Evn):Sm (B5 c) (D5 c E):=Qzs E _
theorem Q5e (c:Cv):Sm c (Du c):=by
 unfold Du;split
 ·exact⟨⟨rfl,rfl,rfl,rfl⟩,rfl,rfl,rfl,rfl,rfl,rfl,rfl,rfl,rfl,rfl⟩
 ·exact Sm.rfl
theorem Zcg (K:Kf) (c:Cv):Sm c (Dq K c):=by
 unfold Dq;split
 ·exact Sm.rfl
 ·exact⟨⟨rfl,rfl,rfl,rfl⟩,rfl,rfl,rfl,rfl,rfl,rfl,rfl,rfl,rfl,rfl⟩
theorem Qz4 (K:Kf) (c:Cv) (E:List Evn):Sm (B5 c) (II K c E):=
 (Zdt c E).trans ((Q5e _).trans (Sm.trans (b:=Bd (Du (D5 c E))) ⟨⟨rfl,rfl,rfl,rfl⟩,rfl,rfl,rfl,rfl,rfl,rfl,rfl,rfl,rfl,rfl⟩ ((Zcg K _).trans ⟨⟨rfl,rfl,rfl,rfl⟩,rfl,rfl,rfl,rfl,rfl,rfl,rfl,rfl,rfl,rfl⟩)))
theorem Gd.clear {n:Int} {c:Cv} (g:Gd K n c):Gd K n (B5 c):=⟨g.way,g.pass,g.task,g.mo,g.m0⟩
theorem Q6v {n:Int} {c:Cv} (g:Gd K n c) (E:List Evn):Gd K n (II K c E):=g.clear.sm (Qz4 K c E)
theorem Zg6 {n:Int} {c:Cv} (g:Gd K n c):Gd K n (GG K c).2/\Kp c (GG K c).2:=by
 have done:∀d:Cv,Gd K n d->Kp c d->Gd K n (Ie d)/\Kp c (Ie d):=λd g k=>⟨⟨g.way,g.pass,λh=>(by cases h),g.mo,g.m0⟩,k.trans ⟨rfl,rfl,rfl,rfl⟩⟩;have cmd:∀E sp:Int,Gd K n (Jl c E sp)/\Kp c (Jl c E sp):=λE sp=>⟨⟨g.way,g.pass,g.task,g.mo,g.m0⟩,⟨rfl,rfl,rfl,rfl⟩⟩;unfold GG;split
 ·split
  ·exact done c g Kp.rfl
  ·exact⟨g,Kp.rfl⟩
 ·split
  ·exact done c g Kp.rfl
  ·split
   ·split
    ·exact⟨g,Kp.rfl⟩
    ·exact done c g Kp.rfl
   ·split
    ·split
     ·exact done _ (cmd _ _).1 (cmd _ _).2
     ·exact cmd _ _
    ·split
     ·exact⟨⟨g.way,g.pass,g.task,g.mo,g.m0⟩,⟨rfl,rfl,rfl,rfl⟩⟩
     ·exact done c g Kp.rfl
theorem Zav {n:Int} {c:Cv} (g:Gd K n c):Gd K n (Bv K c).2/\Kp c (Bv K c).2:=by
 have h:=Zg6 (K:=K) (c:=De c) ⟨g.way,g.pass,g.task,g.mo,g.m0⟩;exact⟨h.1,h.2.way,h.2.aL,h.2.aK,h.2.outs⟩
theorem Ztb {n:Int} {c:Cv} (g:Gd K n c) {i:Int} (h0:0<=i) (E:i<K.p.aD.length):Gd K n (Ee K c i).2/\Kp c (Ee K c i).2:=by
 have h:=Zav (K:=K) (c:={c with on:=true,idx:=i,aN:=Fi K c i,cnt:=0}) ⟨g.way,g.pass,λ_=>⟨h0,E⟩,g.mo,g.m0⟩;exact⟨h.1,⟨h.2.way,h.2.aL,h.2.aK,h.2.outs⟩⟩
theorem On {n:Int} {c:Cv} (g:Gd K n c):Gd K n (Dy c)/\Kp c (Dy c):=by
 unfold Dy;split
 ·exact⟨⟨g.way,g.pass,g.task,g.mo,g.m0⟩,⟨rfl,rfl,rfl,rfl⟩⟩
 ·exact⟨g,Kp.rfl⟩
theorem Z5c (K:Kf) (c:Cv) (l:Int):Kp c (BO K c l):=⟨rfl,rfl,rfl,rfl⟩
theorem Gd.e0 {n:Int} {c:Cv} (g:Gd K n c) (x:Int):Gd K n {c with e0:=x}:=⟨g.way,g.pass,g.task,g.mo,g.m0⟩
theorem Gd.s3 {n:Int} {c:Cv} (g:Gd K n c) (x:Int):Gd K n {c with s3:=x}:=⟨g.way,g.pass,g.task,g.mo,g.m0⟩
theorem Q85 {n:Int} {c:Cv} (h:KOK K) (g:Gd K n c) (G:0<=n/\n<=10000) (l:Int) {s:Sgm} (J:i64 s.aX):Gd K (n+1) (F2 K c l s)/\Kp c (F2 K c l s):=by
 have I:=ZE h g G l;unfold F2;split
 ·exact⟨I.s3 _,⟨rfl,rfl,rfl,rfl⟩⟩
 ·obtain⟨-,v,O,b,z,y,e,M,N⟩:=Qqx h g l J;have E:Gd K (n+1) (IB c (thO K c l s.aX)):=by
   have e1:gA (thO K c l s.aX) 1=v:=by rw[M];rfl
   have:=g.bD h G N;unfold IB U5;rw[e1];generalize thO K c l s.aX=o;exact this.same rfl rfl rfl rfl rfl rfl rfl
  unfold Jh;split
  ·exact⟨I.e0 3,⟨rfl,rfl,rfl,rfl⟩⟩
  ·split
   ·exact⟨(On E).1,Kp.trans (b:=IB c (thO K c l s.aX)) ⟨rfl,rfl,rfl,rfl⟩ (On E).2⟩
   ·exact⟨E,⟨rfl,rfl,rfl,rfl⟩⟩
theorem Zsb {n:Int} {c:Cv} (h:KOK K) (g:Gd K n c) (E:0<=n/\n<=10000) (l:Int):Gd K (n+1) (Fd K c l)/\Kp c (Fd K c l):=by
 unfold Fd;split
 ·exact⟨ZE h g E l,Z5c K c l⟩
 ·rename_i I;have G:(sgK K c).aX≠0:=λe=>I (.inl e);split
  ·exact Q85 h g E l (GA h G).2.2
  ·split
   ·have:=Q85 h (g.go (sgK K c)) E l (GA h G).2.2;exact⟨this.1,Kp.trans (b:=goC K c (sgK K c)) ⟨rfl,rfl,rfl,rfl⟩ this.2⟩
   ·split
    ·exact⟨(On (g.up E.1)).1,(On g).2⟩
    ·exact⟨g.up E.1,Kp.rfl⟩
theorem Q4t {n:Int} {c:Cv} (h:KOK K) (g:Gd K n c) (E:0<=n/\n<=10000):Gd K (n+1) (CQ K c).2/\Kp c (CQ K c).2:=by
 have hi:=X5 K c;unfold CQ;split
 ·split
  ·rename_i k;have k2:(AG K c).2<K.p.aD.length:=by
    rcases hi with hi|hi
    ·omega
    ·exact hi.2.2
   have G:=Ztb (g.up E.1) k k2;split
   ·exact⟨(On G.1).1,G.2.trans (On G.1).2⟩
   ·exact G
  ·split
   ·exact⟨⟨g.way,g.pass,g.task,(g.up E.1).mo,(g.up E.1).m0⟩,⟨rfl,rfl,rfl,rfl⟩⟩
   ·exact⟨g.up E.1,Kp.rfl⟩
 ·exact Zsb h g E _
theorem Q0t {n:Int} {c:Cv} (h:KOK K) (g:Gd K n c) (E:0<=n/\n<=10000):Gd K n (Bx K c).2/\Kp c (Bx K c).2:=by
 unfold Bx;split
 ·exact⟨(g.stand h E).1,⟨rfl,rfl,rfl,rfl⟩⟩
 ·split
  ·exact⟨g,Kp.rfl⟩
  ·split
   ·exact⟨⟨g.way,g.pass,g.task,g.mo,g.m0⟩,⟨rfl,rfl,rfl,rfl⟩⟩
   ·split
    ·exact Zav g
    ·exact⟨g,Kp.rfl⟩
theorem Qwf {n:Int} {c:Cv} (h:KOK K) (g:Gd K n c) (G:0<=n/\n<=10000) (E:List Evn):Gd K (n+1) (stC K c E).2/\Kp (B5 c) (stC K c E).2:=by
 have I:=Q0t h (Q6v g E) G;have kp:=(Qz4 K c E).kp.trans I.2;unfold stC;split
 ·have:=Q4t h I.1 G;exact⟨this.1,kp.trans this.2⟩
 ·exact⟨I.1.up G.1,kp⟩
theorem TE (K:Kf) (s:Int):∀(l:List Mrk) (c:Cv),c.aK<=(EV K s l c).2.aK/\(EV K s l c).2.aK<=c.aK+l.length
 |[],c=>by simp[EV]
 |m::l,c=>by
  unfold EV;split
  ·simp only[bj];omega
  ·split
   ·have:=TE K s l {c with outs:=swI c.outs (itK K m.aU),aK:=c.aK+1};simp only[bj]at this⊢;omega
   ·have:=TE K s l {c with aK:=c.aK+1};simp only[bj]at this⊢;omega
theorem Zui {n:Int} {c:Cv} (h:KOK K) (g:Gd K n c) (I:0<=n/\n<=10000) (E:List Evn):Gd K (n+1) (K3 K c E):=by
 have G:=(Qwf h g I E).1;unfold K3;generalize(stC K c E).2=d at*;obtain⟨J,q,e⟩:=RX K d (At K d);have hb:=TE K (At K d) (K.p.aD.drop d.aK.toNat) d;rw[co]at hb;have hb:d.aK<=(BV K d (At K d)).2.aK/\(BV K d (At K d)).2.aK<=d.aK+((K.p.aD.length-d.aK.toNat:Nat):Int):=hb;rw[e]at hb⊢;have M:=G.pass;exact⟨G.way,by dsimp only at hb⊢;omega,G.task,G.mo,G.m0⟩
theorem Qmh {c:Cv} {n:Int} (h:KOK K) (g:Gd K n c) (G:0<=n/\n<=10000) {E:List Evn} (M:Qdb E):
  Gy (.vC kPt (E.map evR)::Ab K c)=some (tkC K c E++Ab K (K3 K c E)):=by
 have I:=Q6v g E;have N:=Q0t h I G;have J:=Qwf h g G E;have hf: -300000000000<=AE (D5 c E)/\AE (D5 c E)<=300000000000:=Y0 (g.clear.sm (Zdt c E)) (by omega);refine Yai (Zfm M Qvj) (Q6u h) Q7o (LD K) Qkk λo O=> ?_;refine Z10 (s:=stC K c E) O (Z99 _ (Q2e K _) (Qwe K _) (Q0i K _) (Z7d h I) (Q2d I.way)) (λ_=>Zbr h N.1 G) rfl ?_;exact Zm3 h J.1 (by omega) J.2.aL hf
theorem Zsu (a b c:Int) {d:Int} (h:d<=0):G9 [I a,I b,I c,I d]=some [I 0]:=by
 show Vh _=_;rw[Qex,Ca (am h)]
theorem Zm6 {a b c:Int} (h:Plan3 a b c):GZ [I a,I b,I c,I 0,I 0]=some [B true]:=by
 have key:∀{M:Fn},(∀d:Int,d<=0->M [I a,I b,I c,I d]=some [I 0])->Q9 M [I a,I b,I c,I 0,I 0]=some [B true]:=by
  intro M E;have J:=h.a;have hb:=h.b
  rw[Zz,Ae (x:=0-a)];refine eF (an (by omega)) (eF (an (by omega)) (eT rfl (eF (an (by omega)) ?_)));refine eB (E _ (by decide)) (eT rfl (eB (E 0 (by omega)) ?_));rfl
 exact key λd G=>Zsu a b c G
theorem Z45 {a b c:Int} (h:Plan3 a b c):KW [I a,I b,I c,I 0,I 0]=some [.vC Aa [],B true]:=by
 have key:∀{J E G:Fn},G [I a,I b,I c]=some [B true]->E [I a,I b,I c,I 0,I 0]=some [B true]->Rv J E G (Ak (IF J E G)) [I a,I b,I c,I 0,I 0]=some [.vC Aa [],B true]:=by
  intro J E G M N;rw[W9];refine eB M (eF rfl (eB N (eF rfl ?_)));have O:IF J E G [.vC Aa [],I 0,I 0,I a,I b,I c]=some (2,[.vC Aa []]):=by
   rw[Rl];rfl
  exact eB (Be O (by simp)) rfl
 refine key ?_ (Zm6 h);rw[Rf,am];exact⟨h.a.1,h.a.2,h.b.1,h.b.2,h.c.1,h.c.2⟩
theorem Ziq {a b c:Int} (h:Plan3 a b c) (E G J N:Int):Fo [I a,I b,I c,I E,I 0,I 0,I G,I J,I N]=some [.vC Aa [],B true]:=by
 have key:∀{M:Fn},M [I a,I b,I c,I 0,I 0]=some [.vC Aa [],B true]->PM M (Ak (H5 M)) [I a,I b,I c,I E,I 0,I 0,I G,I J,I N]=some [.vC Aa [],B true]:=by
  intro M O;rw[Uf];have S:H5 M [.vC Aa [],I E, .vC Aa [],I 0,I 0]=some (1,[.vC Aa []]):=by
   rw[Qgc];rfl
  exact eB O (eF rfl (eT rfl (eT rfl (eB (Be S (by simp)) rfl))))
 exact key (Z45 h)
theorem Zuu (h:Plan3 K.pa K.pb K.pc) {c:Cv} (E:c.m1=0) (G:c.m2=0):NX K c=c.m0:=by
 have key:∀{M:Fn},M [I K.pa,I K.pb,I K.pc,I c.m0,I 0,I 0,I c.m3,I c.m4,I c.m5]=some [.vC Aa [],B true]->Lx M [I K.pa,I K.pb,I K.pc,I c.m0,I 0,I 0,I c.m3,I c.m4,I c.m5]=some [I c.m0,B true]:=by
  intro M J;rw[VQ];exact eB J (eF rfl (eT rfl rfl))
 have e:F9 [I K.pa,I K.pb,I K.pc,I c.m0,I 0,I 0,I c.m3,I c.m4,I c.m5]=some [I c.m0,B true]:=key (Ziq h _ _ _ _);unfold NX one;rw[E,G,e];rfl
abbrev VJ:Axs:=⟨8,10,10,10,-16777216,16777216,0,0,0,[]⟩
theorem Qj5:AxOK VJ:=⟨by decide,by decide,by decide,λh=>absurd rfl h,⟨λx h=>(by cases h),λi h=>(by simp at h)⟩,by decide,by decide⟩
abbrev LP:Ax3:=⟨VJ,VJ,VJ⟩
theorem machX:MachOK LP 9 3 100 1 0:=⟨⟨Qj5,Qj5,Qj5⟩,⟨by decide,by decide,by decide⟩,by decide,by decide⟩
abbrev Cq:Itm:=⟨12,0,⟨0,0,0⟩,⟨0,0,0⟩,0,⟨0,0,0⟩,0,false,0,false,0,0,0,0,0,false⟩
theorem Q31:Items 4084 ⟨0,0,0⟩ []:=⟨trivial,λit h=>by cases h⟩
theorem Zyr:Items 4084 ⟨0,0,0⟩ [Cq]:=by
 have h:=Zk6 Q31 (it:=Cq) (λh=>by unfold AK at h;simp at h) (.inr ⟨by decide,λh=>by simp at h,λh=>by simp at h,λh=>by simp at h⟩);exact h
abbrev kX (l:List Itm):Kf:=kfP LP 9 3 100 1 0 l true
theorem WN {l:List Itm} (h:(AZ l).aF=[]) (c:Cv):HT (kX l) c=false:=by
 unfold HT DF;rw[h];rfl
theorem gd0 (l:List Itm):Gd (kX l) 0 Cy:=⟨rfl,⟨by decide,by simp⟩,λh=>(by cases h),PJ machX.plan,by decide⟩
theorem W5:AZ []=⟨⟨0,0,0⟩,[],[]⟩:=rfl
theorem UQ:AZ [Cq]=⟨⟨0,0,0⟩,[],[⟨0,3,0⟩]⟩:=by
 have e:Au [Cq] 1=⟨[],[⟨0,3,0⟩],0,0,-1,false,⟨0,0,0⟩,⟨0,0,0⟩⟩:=by
  rw[Au,Au];unfold DO;rw[aa (by decide)];rfl
 show Pth.mk (Au [Cq] 1).aQ (Au [Cq] 1).aF (Au [Cq] 1).aD=_;rw[e]
theorem Qzr (h:p.aF=[]):AL p LP ⟨1,1,1⟩ 0 (Ay p.aF)=⟨[],0,0,⟨1,1,1⟩⟩:=by
 unfold AL;rw[h];rfl
theorem kX0:kX []=⟨LP,9,3,100,1,0,[],true,⟨⟨0,0,0⟩,[],[]⟩,0,JR [],⟨[],0,0,⟨1,1,1⟩⟩⟩:=by
 show Kf.mk _ _ _ _ _ _ _ _ _ _ _ _=_;rw[Qzr (p:=AZ []) (by rw[W5]),W5];rfl
theorem kX1:kX [Cq]=⟨LP,9,3,100,1,0,[Cq],true,⟨⟨0,0,0⟩,[],[⟨0,3,0⟩]⟩,0,JR [Cq],⟨[],0,0,⟨1,1,1⟩⟩⟩:=by
 show Kf.mk _ _ _ _ _ _ _ _ _ _ _ _=_;rw[Qzr (p:=AZ [Cq]) (by rw[UQ]),UQ];rfl
abbrev JU:Cv:={Cy with aM:=true}
theorem Q3j (E:∀c,HT K c=false) (G:K.ramp=1):II K Cy []=JU:=by
 show FC (Dq K (Bd (Du Cy)))=_;unfold Dq;rw[aa (by rw[E];simp),G];rfl
theorem Zhj:(stC (kX []) Cy []).1=7:=by
 have e:=Q3j (WN (l:=[]) (by rw[W5])) rfl;have E:Bx (kX []) JU=(0,JU):=rfl;unfold stC;rw[e,E,ab rfl];have G:AG (kX []) JU=(0,-1):=by
  rw[kX0];unfold AG BK;rfl
 unfold CQ;rw[G];rfl
abbrev KI:Cv:={JU with on:=true,idx:=0,aN:=true,cnt:=1}
theorem st1:stC (kX [Cq]) Cy []=(2,KI):=by
 have e:=Q3j (WN (l:=[Cq]) (by rw[UQ])) rfl;have E:Bx (kX [Cq]) JU=(0,JU):=rfl;unfold stC;rw[e,E,ab rfl];have G:AG (kX [Cq]) JU=(0,0):=by
  have e2:=Zuu (K:=kX [Cq]) machX.plan (c:=JU) rfl rfl;unfold AG;rw[e2,kX1];rfl
 unfold CQ;rw[G,kX1];rfl
theorem Q7y:K3 (kX [Cq]) Cy []=KI:=by
 unfold K3;rw[st1,kX1];rfl
theorem Z5d:(stC (kX [Cq]) KI [⟨0,4,0⟩]).1=3:=by
 have E:=WN (l:=[Cq]) (by rw[UQ]);have e:II (kX [Cq]) KI [⟨0,4,0⟩]=FC (spS (Bd (Du (D5 KI [⟨0,4,0⟩]))) 1):=by
  unfold II Dq;rw[aa (by rw[E];simp)]
 unfold stC;rw[e,kX1];rfl
theorem Zbz (K:Kf) (c:Cv) (E:List Evn) (l:List AC):gA (tkC K c E++l) 2=(stC K c E).1:=rfl
theorem Zbi:Qdb []:=⟨by simp,λe h=>by cases h⟩
theorem Z4f
  (h0:Z (AI LP++[I 9,I 3,I 100,I 1,I 0]++[.vC Aj (([]:List Itm).map Af),B true])=some (I 0::Ab (kX []) Cy))
  (N:Z (AI LP++[I 9,I 3,I 100,I 1,I 0]++[.vC Aj ([Cq].map Af),B true])=some (I 0::Ab (kX [Cq]) Cy))
  (E:∃l,M (.vC kPt (([]:List Evn).map evR)::Ab (kX []) Cy)=some l/\gA l 2=7)
  (G:∃l,M (.vC kPt (([]:List Evn).map evR)::Ab (kX [Cq]) Cy)=some (l++Ab (kX [Cq]) KI)/\l.length=9/\gA l 2=2)
  (J:∃l,M (.vC kPt ([(⟨0,4,0⟩:Evn)].map evR)::Ab (kX [Cq]) KI)=some l/\gA l 2=3):
  Yo M Z []=some [B true]:=by
 rw[Zxj];obtain⟨T,s0,m0⟩:=E;obtain⟨O,s1,S,m1⟩:=G;obtain⟨U,s2,m2⟩:=J
 match O,S with
 |[V,a1,a2,a3,a4,a5,a6,X,Y],_=>
  refine eB h0 (eB N (eF rfl (eF rfl (eB s0 (eT (beT m0) (eB s1 (eT (beT m1) (eB s2 ?_))))))));rw[m2];rfl
theorem Qt1:JE []=some [B true]:=by
 have I:=Zb7 machX (aA:=[]) (by simp) Q31 true;have G:=Zb7 machX (aA:=[Cq]) (by simp) Zyr true;have M:=Qmh I.2 (gd0 []) (by omega) Zbi;have J:=Qmh G.2 (gd0 [Cq]) (by omega) Zbi;have g1:Gd (kX [Cq]) 1 KI:=by
  have:=Zui G.2 (gd0 [Cq]) (by omega) [];rw[Q7y]at this;exact this
 have N:=Qmh G.2 g1 (by omega) (E:=[⟨0,4,0⟩]) ⟨by simp,λe h=>by simp at h;subst h;simp⟩;rw[Q7y]at J;exact Z4f I.1 G.1 ⟨_,M,(Zbz _ _ _ _).trans Zhj⟩ ⟨_,J,rfl,by show(stC (kX [Cq]) Cy []).1=2;rw[st1]⟩ ⟨_,N,(Zbz _ _ _ _).trans Z5d⟩
structure Tk (K : Kf) (o : List AC) (c : Cv) (s : Int) (m : Pt) : Prop where
 ex:∃(pul outs:Rw) (mode sp ft:Int),o=B8 pul outs mode s m sp ft++Ab K c
theorem gdK (h:KOK K):Gd K 0 Cy:=⟨rfl,⟨by decide,by simp⟩,λh=>(by cases h),PJ h.plan,by decide⟩
structure Cm (c : Cv) : Prop where
 on:c.on=true->c.m1=0
 aI:c.aI≠0->c.m1=0
 aH:c.aH=false
structure Mt (c d : Cv) : Prop where
 m0:d.m0=c.m0
 m1:d.m1=c.m1
 m2:d.m2=c.m2
 aH:d.aH=c.aH
 g0:d.g0=c.g0
 g1:d.g1=c.g1
 g2:d.g2=c.g2
 o2:d.o2=c.o2
theorem Mt.rfl {c:Cv}:Mt c c:=⟨Eq.refl _,Eq.refl _,Eq.refl _,Eq.refl _,Eq.refl _,Eq.refl _,Eq.refl _,Eq.refl _⟩
theorem Mt.trans {a b c:Cv} (h:Mt a b) (g:Mt b c):Mt a c:=
 ⟨g.m0.trans h.m0,g.m1.trans h.m1,g.m2.trans h.m2,g.aH.trans h.aH,g.g0.trans h.g0,g.g1.trans h.g1,g.g2.trans h.g2,g.o2.trans h.o2⟩
theorem Mt.cm {c d:Cv} (h:Mt c d) (E:c.m1=0) (G:c.aH=false):Cm d:=
 ⟨λ_=>h.m1.trans E,λ_=>h.m1.trans E,h.aH.trans G⟩
theorem Zmv (K:Kf) (c:Cv):Mt c (GG K c).2:=by
 have done:∀d:Cv,Mt c d->Mt c (Ie d):=λd k=>k.trans ⟨rfl,rfl,rfl,rfl,rfl,rfl,rfl,rfl⟩;have cmd:∀E sp:Int,Mt c (Jl c E sp):=λE sp=>⟨rfl,rfl,rfl,rfl,rfl,rfl,rfl,rfl⟩;unfold GG;split
 ·split
  ·exact done c Mt.rfl
  ·exact Mt.rfl
 ·split
  ·exact done c Mt.rfl
  ·split
   ·split
    ·exact Mt.rfl
    ·exact done c Mt.rfl
   ·split
    ·split
     ·exact done _ (cmd _ _)
     ·exact cmd _ _
    ·split
     ·exact⟨rfl,rfl,rfl,rfl,rfl,rfl,rfl,rfl⟩
     ·exact done c Mt.rfl
theorem Q7q (K:Kf) (c:Cv):Mt c (Bv K c).2:=Mt.trans (b:=De c) ⟨rfl,rfl,rfl,rfl,rfl,rfl,rfl,rfl⟩ (Zmv K _)
theorem Z56 (K:Kf) (c:Cv) (i:Int):Mt c (Ee K c i).2:=Mt.trans (b:={c with on:=true,idx:=i,aN:=Fi K c i,cnt:=0}) ⟨rfl,rfl,rfl,rfl,rfl,rfl,rfl,rfl⟩ (Q7q K _)
structure Os (c d : Cv) : Prop where
 on:d.on=c.on
 aI:d.aI=c.aI
 aH:d.aH=c.aH
 gu:(d.g0=c.g0/\d.g1=c.g1/\d.g2=c.g2)\/(c.g0=0/\d.g0=1/\d.g1=18)
theorem Os.trans {a b c:Cv} (h:Os a b) (g:Os b c):Os a c:=by
 refine⟨g.on.trans h.on,g.aI.trans h.aI,g.aH.trans h.aH,?_⟩;rcases h.gu with⟨h0,E,G⟩|⟨h0,E,G⟩<;>rcases g.gu with⟨k0,k1,k2⟩|⟨k0,k1,k2⟩
 ·exact .inl ⟨k0.trans h0,k1.trans E,k2.trans G⟩
 ·exact .inr ⟨h0.symm.trans k0,k1,k2⟩
 ·exact .inr ⟨h0,k0.trans E,k1.trans G⟩
 ·omega
def Gg (c:Cv):Prop:=(c.g0=0/\c.g1=0/\c.g2= -1)\/(c.g0=1/\c.g1=18)
theorem Os.gg {c d:Cv} (h:Os c d) (g:Gg c):Gg d:=by
 rcases h.gu with⟨h0,E,G⟩|⟨h0,E,G⟩
 ·unfold Gg;rw[h0,E,G];exact g
 ·exact .inr ⟨E,G⟩
theorem Mt.gg {c d:Cv} (h:Mt c d) (g:Gg c):Gg d:=by unfold Gg;rw[h.g0,h.g1,h.g2];exact g
theorem Os.cm {c d:Cv} (h:Os c d) (E:c.on=false) (G:c.aI=0) (I:c.aH=false):Cm d:=
 ⟨λe=>(by rw[h.on,E]at e;cases e),λe=>absurd (h.aI.trans G) e,h.aH.trans I⟩
def Sp (c:Cv):Prop:=c.g0=1/\c.g1=21/\c.g2= -1/\c.o2=true
theorem TK {a k c v x:Int} (E:Plan3 a k c) (G:Ci a k v x) (T:v<=0):AB a k v x=0:=by
 have M:=closed E G;have N:=DH E M.1;have O:v=0:=by have:=DH E G;omega
 obtain⟨B,J⟩:∃B,B=bs k v 20 (-x-k) (min (k-x) a):=⟨_,rfl⟩;obtain⟨U,V,X,Y,I,q6⟩:=Ot E G J;have:=H3 (k:=k) (b:=B) (by have:=E.b;omega);have hx:=G.2.2.2.2 O;have ha:=E.a;have e:AB a k v x= -B:=by unfold AB;rw[J]
 rw[e];rcases I with I|I
 ·omega
 ·by_cases S:B+1<=0
  ·rw[Id S]at I;omega
  ·omega
def stL (K:Kf) (c:Cv):List Int:=(AM K.pa K.pb c.m1 c.m2).1
theorem Tr (h:Plan3 K.pa K.pb K.pc) {c:Cv} (E:Mo K c) (G:c.m1<=0):stL K c=[]:=by
 unfold stL;rw[(Ul h E).2,ab G]
theorem Oh {c d:Cv} (E:d.m1=c.m1) (G:d.m2=c.m2):stL K d=stL K c:=by unfold stL;rw[E,G]
def Nx (K:Kf) (c e:Cv):Prop:=(stL K c=[]/\stL K e=[]/\e.m0=c.m0)\/(stL K c=e.m1::stL K e/\e.m0=c.m0+e.m1)
theorem Nx.still (E:Plan3 K.pa K.pb K.pc) {c e:Cv} (G:Mo K c) (h:c.m1=0) (m:Mt c e):Nx K c e:=by
 have h0:=Tr E G (by omega);exact .inl ⟨h0,(Oh m.m1 m.m2).trans h0,m.m0⟩
theorem Sp.mt {c d:Cv} (h:Sp c) (m:Mt c d):Sp d:=⟨m.g0.trans h.1,m.g1.trans h.2.1,m.g2.trans h.2.2.1,m.o2.trans h.2.2.2⟩
theorem Zpp {a k c:Int} (N:Plan3 a k c) {u:Int} (T: -1000000000000000<=u/\u<=1000000000000000) {v x:Int} (U:(AM a k v x).2=true) (E G J:Int):
  F9 [I a,I k,I c,I u,I v,I x,I E,I G,I J]=some [I (Ck u (AM a k v x).1),B true]:=by
 have key:∀{M:Fn},M [I a,I k,I c,I u,I v,I x,I E,I G,I J]=some [.vC Aa ((BN u (AM a k v x).1).map Ao),B (AM a k v x).2]->Lx M [I a,I k,I c,I u,I v,I x,I E,I G,I J]=some [I (Ck u (AM a k v x).1),B true]:=by
  intro M O;have hb:=Qq N v x;rw[U]at O;rw[VQ];generalize(AM a k v x).1=l at*;refine eB O (eF rfl ?_);show cond ((((BN u l).map Ao).length:Int)==0) _ (cond (decide (0<=V ((((BN u l).map Ao).length:Int)-1))&&decide (V ((((BN u l).map Ao).length:Int)-1)<(((BN u l).map Ao).length:Int))) (some [I (Ah (nth .dead (nth [] ((BN u l).map Ao) (V ((((BN u l).map Ao).length:Int)-1)).toNat) 0)),B true]) none)=_;have X:((BN u l).map Ao).length=l.length:=by rw[af,KZ]
  rw[X];refine eC (λe=> ?_) λe=> ?_
  ·have e:(l.length:Int)=0:=eq_of_beq e;have:l=[]:=List.length_eq_zero_iff.1 (by omega);subst this;rfl
  ·have e:(l.length:Int)≠0:=by simpa using e
   rw[Ae (x:=(l.length:Int)-1)];refine eT (by simp;omega) ?_;have S:=ZD u l (by intro q;rw[q]at e;simp at e);rw[KZ]at S;have en:((l.length:Int)-1).toNat=l.length-1:=by omega
   have Y:nth [] ((BN u l).map Ao) (l.length-1)=Ao (Ck u l):=by
    rw[B7,List.getD,fo,S];rfl
   rw[en,Y];rfl
 exact key (Zcb N T v x E G J)
def tr:Nat->Int
 |0=>0
 |n+1=>n+tr n
theorem VO:∀{m n:Nat},m<=n->tr m<=tr n
 |m,0,h=>by
  have:m=0:=by omega
  subst this;exact bz _
 |m,n+1,h=>by
  by_cases e:m=n+1
  ·subst e;exact bz _
  ·have:=VO (m:=m) (n:=n) (by omega);show _<=(n:Int)+tr n;omega
theorem Q63 (n:Nat):0<=tr n:=VO (m:=0) (n:=n) (i6 _)
theorem Q22:∀n:Nat,(n:Int)<=tr (n+2)
 |0=>by show(0:Int)<=((0+1:Nat):Int)+tr 1;have:=Q63 1;omega
 |n+1=>by
  have:=Q22 n;show _<=((n+2:Nat):Int)+tr (n+2);omega
theorem My (k:Int) (m:Nat):k*((m+1:Nat):Int)=k*m+k:=by
 rw[gx,jr];simp
theorem trS (k:Int) (m:Nat):k*tr (m+1)=k*m+k*tr m:=by
 show k*((m:Int)+tr m)=_;rw[jr]
theorem Vg (E:0<k):∀m:Nat,BF k (k*m)=k*tr m
 |0=>by rw[Id (by simp)];simp[tr]
 |1=>by rw[Sy (by simp)];simp[tr]
 |m+2=>by
  have G:=Vg E (m+1);have e:=My k (m+1);have h0:0<=k*(m:Int):=fy (by omega) (by omega);have e1:=My k m;have e3:m+1+1=m+2:=rfl;rw[e3]at e;rw[Oa E (by omega)];have e2:k*((m+2:Nat):Int)-k=k*((m+1:Nat):Int):=by omega
  rw[e2,G,<-e3,trS k (m+1)]
def PB (k:Int) (m:Nat) (v a:Int):Prop:=v<=k*tr (m+1)/\k*(m:Int)<= -a
theorem Z4v (I:Plan3 j k b) (J:Ci j k v a) {m:Nat} (h:PB k (m+1) v a):PB k m (v+AB j k v a) (AB j k v a):=by
 obtain⟨B,M⟩:∃B,B=bs k v 20 (-a-k) (min (k-a) j):=⟨_,rfl⟩;have hb:AB j k v a= -B:=by unfold AB;rw[M]
 obtain⟨S,T,U,V,E,X⟩:=Ot I J M;rw[hb];have N:0<k:=by have:=I.b;omega
 obtain⟨O,Y⟩:=h;have hj:=J.1;have e:=My k m;rw[trS]at O;refine⟨?_,by omega⟩;apply bv;intro q;have G:B+1<=k*((m+1:Nat):Int):=by omega
 rcases E with E|E
 ·omega
 ·have:=VN N G;rw[Vg N]at this;omega
theorem Que (G:0<k):∃m:Nat,v<=k*tr (m+1)/\(m=0\/k*tr m<v):=by
 have key:∀M:Nat,v<=k*tr (M+1)->∃m:Nat,v<=k*tr (m+1)/\(m=0\/k*tr m<v):=by
  intro M;induction M with
  |zero=>exact λh=>⟨0,h, .inl rfl⟩
  |succ M E=>
   intro h;by_cases c:v<=k*tr (M+1)
   ·exact E c
   ·exact⟨M+1,h, .inr (by omega)⟩
 refine key (v.toNat+1) ?_;have I:=Q22 v.toNat;have J:1*tr (v.toNat+2)<=k*tr (v.toNat+2):=dp (by omega) (Q63 _);show v<=k*tr (v.toNat+2);omega
def DD (r i:Nat):Int×Int:=if i+2<=2*r then(-1,i)else if i+1=2*r then(1,-1)else(1,0)
def WW (r:Nat):Nat->Int×Int
 |0=>(60-r,tr r)
 |i+1=>((WW r i).1-(DD r (i+1)).1,(WW r i).2-(DD r (i+1)).2)
def ok1 (r:Nat) (a b t:Int):Bool:=bif decide (0<=a)then decide (a*r+b<=t)else bif Nat.beq r 1 then decide (a+5*max (b-t) 0<=0)else decide (a*(r-1)+b<=t)
def QL (r:Nat):Nat->Nat->Int->Int->Int->Bool
 |0,_,a,b,t=>ok1 r a b t
 |n+1,i,a,b,t=>ok1 r a b t&&QL r n (i+1) (a-(DD r (i+1)).1) (b-(DD r (i+1)).2) (t-((n+1:Nat):Int))
def SO:Nat->Bool
 |0=>true
 |r+1=>QL (r+1) 176 0 (60-((r+1:Nat):Int)) (tr (r+1)) (tr 177)&&SO r
theorem Zj0:SO 59=true:=by kernel_rfl
theorem Q1g:∀(n i:Nat),QL r n i (WW r i).1 (WW r i).2 (tr (n+1))=true->∀x,x<=n->ok1 r (WW r (i+x)).1 (WW r (i+x)).2 (tr (n-x+1))=true
 |0,i,h,x,G=>by
  have:x=0:=by omega
  subst this;exact h
 |n+1,i,h,x,G=>by
  unfold QL at h;rw[al]at h;rcases x with _|x
  ·exact h.1
  ·have E:=h.2;have e:tr (n+1+1)-((n+1:Nat):Int)=tr (n+1):=by
    show((n+1:Nat):Int)+tr (n+1)-_=_;omega
   rw[e]at E;have:=Q1g n (i+1) E x (by omega);have e1:i+1+x=i+(x+1):=by omega
   have e2:n+1-(x+1)=n-x:=by omega
   rw[e1]at this;rw[e2];exact this
theorem Q5v:∀{R r:Nat},SO R=true->1<=r->r<=R->QL r 176 0 (60-(r:Int)) (tr r) (tr 177)=true
 |0,r,_,E,G=>by omega
 |R+1,r,h,E,G=>by
  unfold SO at h;rw[al]at h;by_cases e:r=R+1
  ·subst e;exact h.1
  ·exact Q5v h.2 E (by omega)
structure Aq (A k : Int) (r : Nat) : Prop where
 k0:0<k
 lo:k*(r:Int)-k<A
 hi:A<=k*(r:Int)
 r:1<=r/\r<=59
 five:k<=5*A
theorem Zhm (q:Aq v k r) {a b t:Int} (h:ok1 r a b t=true):a*v+b*k<=k*t:=by
 have M:=q.k0;have N:0<v:=by have:=q.five;omega
 unfold ok1 at h;by_cases c:0<=a
 ·rw[am c]at h;have h:a*r+b<=t:=of_decide_eq_true h;have E:a*v<=a*(k*r):=cz q.hi c;have G:k*(a*r+b)<=k*t:=cz h (by omega);have I:a*(k*r)=k*(a*r):=ko _ _ _;rw[jr]at G;rw[fa b k];omega
 ·rw[an c]at h;by_cases e:r=1
  ·subst e;have h:a+5*max (b-t) 0<=0:=of_decide_eq_true h;generalize O:max (b-t) 0=m at h;have m0:0<=m/\b-t<=m:=by omega
   have E:(b-t)*k<=m*k:=dp m0.2 (by omega);have G:m*k<=m*(5*v):=cz q.five m0.1;have I:(a+5*m)*v<=0*v:=dp h (by omega);rw[Int.sub_mul]at E;rw[jj]at I;have S:m*(5*v)=5*m*v:=by rw[<-Int.mul_assoc,fa m 5]
   rw[fa t k]at E;omega
  ·have hb:Nat.beq r 1=false:=by
    cases J:Nat.beq r 1
    ·rfl
    ·exact absurd (ac J) e
   rw[hb]at h;have h:a*((r:Int)-1)+b<=t:=of_decide_eq_true h;have E:(-a)*(k*r-k)<=(-a)*v:=cz (by have:=q.lo;omega) (by omega);have G:k*(a*((r:Int)-1)+b)<=k*t:=cz h (by omega);have I:(-a)*(k*r-k)= -(k*(a*((r:Int)-1))):=by
    rw[j6,j8 a,j8 a,Int.mul_one,j8 k,ko a k,fa a k]
   rw[jr]at G;rw[j6 a v]at E;rw[fa b k];omega
def PA (A k:Int) (r i:Nat) (v a:Int):Prop:=v<=(WW r i).1*A+(WW r i).2*k/\(DD r i).1*A+(DD r i).2*k<= -a
theorem Q33 (q:Aq b k r) {i:Nat} (hi:i<=176) {v a:Int} (h:PA b k r i v a):v<=k*tr (177-i):=by
 have E:=Q1g (r:=r) 176 0 (Q5v Zj0 q.r.1 q.r.2) i hi;rw[d9]at E;have G:=Zhm q E;have e:176-i+1=177-i:=by omega
 rw[e]at G;have:=h.1;omega
theorem Z27 (q:Aq b k r) (M:b<=j) {i:Nat} {v a B:Int} (h:PA b k r i v a) (N:B=min (k-a) j):PA b k r (i+1) (v-B) (-B):=by
 obtain⟨O,E⟩:=h;have key:(DD r (i+1)).1*b+(DD r (i+1)).2*k<=B:=by
  have S:=q.k0;have T:=q.five;have lo:=q.lo;have hi:=q.hi;unfold DD at E⊢;by_cases G:i+1+2<=2*r
  ·rw[ab G];rw[ab]at E;have e:=My k i;have U:k*((i+1:Nat):Int)<=k*(2*(r:Int)-2):=cz (by omega) (by omega);have e3:k*(2*(r:Int)-2)=2*(k*r)-2*k:=by rw[j8,ko,fa k 2]
   rw[fa _ k]at E⊢;dsimp only at E⊢;omega
  ·rw[aa G];by_cases I:i+1+1=2*r
   ·rw[ab I];rw[ab]at E;have e:k*(i:Int)=2*(k*r)-2*k:=by
     have:(i:Int)=2*(r:Int)-2:=by omega
     rw[this,j8,ko,fa k 2]
    rw[fa _ k]at E;dsimp only at E⊢;omega
   ·rw[aa I];dsimp only;by_cases J:i+1=2*r
    ·rw[aa,ab J]at E;dsimp only at E;omega
    ·rw[aa,aa J]at E;dsimp only at E;omega
 refine⟨?_,by omega⟩;show v-B<=((WW r i).1-(DD r (i+1)).1)*b+((WW r i).2-(DD r (i+1)).2)*k;rw[Int.sub_mul,Int.sub_mul];omega
def Hq (A k:Int) (r i:Nat) (v a:Int):Prop:=v=0\/PA A k r i v a\/∃m:Nat,i+m<=176/\PB k m v a
theorem Z2a {j k s v a A:Int} (E:Plan3 j k s) (I:Ci j k v a) (q:Aq A k r) (T:A<=j) (hi:i<=176) (h:Hq A k r i v a):Hq A k r (i+1) (v+AB j k v a) (AB j k v a):=by
 have v0:=(DH E I).2.2.1;have zero:v<=0->Hq A k r (i+1) (v+AB j k v a) (AB j k v a):=λU=>by
  left;rw[TK E I U];omega
 rcases h with h|h|⟨m,hm,h⟩
 ·exact zero (by omega)
 ·have G:=q.k0;have hle:=Q33 q hi h;obtain⟨M,m1,m2⟩:=Que (k:=k) (v:=v) G;rcases m2 with m2|m2
  ·subst m2;refine zero ?_;have:k*tr (0+1)=0:=by simp[tr]
   omega
  ·have hM:i+M<=176:=by
    apply bv;intro c;have O:=VO (m:=177-i) (n:=M) (by omega);have V:k*tr (177-i)<=k*tr M:=cz O (by omega);omega
   obtain⟨B,S⟩:∃B,B=bs k v 20 (-a-k) (min (k-a) j):=⟨_,rfl⟩;have hb:AB j k v a= -B:=by unfold AB;rw[S]
   obtain⟨q1,q2,q3,q4,J,q6⟩:=Ot E I S;have cl:=(closed E I).1;have w0:=(DH E cl).2.2.1;rw[hb]at w0⊢;have X:v+ -B=v-B:=by omega
   rw[X]at w0⊢;rcases J with J|J
   ·exact .inr (.inl (Z27 q T h J))
   ·have Y:v-B<=k*tr M:=by
     have a0:1<=M:=by
      rcases M with _|M
      ·have:k*tr 0=0:=by simp[tr]
       have:k*tr (0+1)=0:=by simp[tr]
       omega
      ·omega
     obtain⟨P,rfl⟩:∃P,M=P+1:=⟨M-1,by omega⟩;rw[trS k (P+1)]at m1;by_cases c:k*((P+1:Nat):Int)<=B
     ·omega
     ·have:=VN G (show B+1<=k*((P+1:Nat):Int) by omega);rw[Vg G]at this;omega
    obtain⟨m,n1,N⟩:=Que (k:=k) (v:=v-B) G;rcases N with N|N
    ·subst N;left;have:k*tr (0+1)=0:=by simp[tr]
     omega
    ·refine .inr (.inr ⟨m,?_,n1,?_⟩)
     ·have:m<M:=by
       apply bv;intro c;have O:=VO (m:=M) (n:=m) (by omega);have V:k*tr M<=k*tr m:=cz O (by omega);omega
      omega
     ·apply bv;intro c;have:=VN G (show B+1<=k*(m:Int) by omega);rw[Vg G]at this;omega
 ·rcases m with _|m
  ·refine zero ?_;have:=h.1;have e:k*tr (0+1)=0:=by simp[tr]
   omega
  ·exact .inr (.inr ⟨m,by omega,Z4v E I h⟩)
theorem Zob {j k s v a A:Int} (E:Plan3 j k s) (G:Ci j k v a) (q:Aq A k r) (h:Hq A k r 176 v a):v=0:=by
 have v0:=(DH E G).2.2.1;rcases h with h|h|⟨m,I,h⟩
 ·exact h
 ·have:=Q33 q (db _) h;have e:k*tr (177-176)=0:=by simp[tr]
  omega
 ·have:m=0:=by omega
  subst this;have:=h.1;have e:k*tr (0+1)=0:=by simp[tr]
  omega
def GF (A k:Int):Nat->Int
 |0=>0
 |n+1=>GF A k n+min A (k*((n+1:Nat):Int))
theorem Qvk {A k:Int} (G:0<=A) (E:0<=k) (n:Nat):GF A k n<=GF A k (n+1):=by
 have:0<=k*((n+1:Nat):Int):=fy E (by omega);show _<=GF A k n+min A (k*((n+1:Nat):Int));omega
theorem Q0m {A k:Int} (E:0<=A) (G:0<=k) (n:Nat):∀d:Nat,GF A k n<=GF A k (n+d)
 |0=>bz _
 |d+1=>iy (Q0m E G n d) (Qvk E G (n+d))
theorem Q10 (A k:Int):∀n:Nat,GF A k n<=k*tr (n+1)
 |0=>by show(0:Int)<=k*(0+0);simp
 |n+1=>by
  have:=Q10 A k n;rw[trS k (n+1)];show GF A k n+min A (k*((n+1:Nat):Int))<=_;omega
theorem Q9f (A k:Int) (p:Nat):∀n:Nat,GF A k (p+n)<=A*n+k*tr (p+1)
 |0=>by have:=Q10 A k p;simp only[jz,Int.mul_zero,jv];simpa using this
 |n+1=>by
  have:=Q9f A k p n;rw[My A n];show GF A k (p+n)+min A (k*((p+n+1:Nat):Int))<=_;omega
theorem Zkg (q:Aq a k r) {n:Nat} (I:n<=59):GF a k n<=(WW r 0).1*a+(WW r 0).2*k:=by
 have J:=q.k0;have M:=q.five;have G:=Q0m (A:=a) (k:=k) (by omega) (by omega) n (59-n);have e:n+(59-n)=59:=by omega
 rw[e]at G;obtain⟨p,rfl⟩:∃p,r=p+1:=⟨r-1,by have:=q.r;omega⟩;have E:=Q9f a k p (59-p);have e2:p+(59-p)=59:=by have:=q.r;omega
 rw[e2]at E;show _<=(60-((p+1:Nat):Int))*a+tr (p+1)*k;have e3:((59-p:Nat):Int)=60-((p+1:Nat):Int):=by have:=q.r;omega
 rw[e3,fa a,fa k]at E;omega
def Up (A k:Int) (n:Nat) (v a:Int):Prop:=v<=GF A k n/\a<=A/\a<=k*(n:Int)
theorem Z7g {r n:Nat} (q:Aq b k r) (G:b=min j (59*k)) (I:n+1<=59) {v a E:Int} (h:Up b k n v a) (J:E<=a+k) (M:E<=j):Up b k (n+1) (v+E) E:=by
 obtain⟨g1,g2,N⟩:=h;have e:=My k n;have O:k*((n+1:Nat):Int)<=k*59:=cz (by omega) (by have:=q.k0;omega);refine⟨?_,by omega,by omega⟩;show _<=GF b k n+min b (k*((n+1:Nat):Int));omega
theorem Qme {r n:Nat} (q:Aq b k r) {v a:Int} (h:Up b k n v a):Up b k (n+1) v a:=by
 have E:=q.k0;have G:=q.five;have:=Qvk (A:=b) (k:=k) (by omega) (by omega) n;have e:=My k n;obtain⟨g1,g2,I⟩:=h;exact⟨by omega,g2,by omega⟩
theorem Zuv {r n:Nat} (q:Aq b k r) (E:n<=59) {v a:Int} (h:Up b k n v a):Hq b k r 0 v a:=by
 refine .inr (.inl ⟨iy h.1 (Zkg q E),?_⟩);have G:=h.2.1;unfold DD;rw[ab (by have:=q.r;omega)];dsimp only;omega
theorem Z7f (E:0<k) (J:k<=5*j):∃(A:Int) (r:Nat),A=min j (59*k)/\Aq A k r:=by
 refine⟨_,((min j (59*k)+k-1)/k).toNat,rfl,?_⟩;generalize M:min j (59*k)=A;have G:0<A:=by omega
 have N:0<=(A+k-1)/k:=Int.ediv_nonneg (by omega) (by omega);have O:k*((A+k-1)/k)<=A+k-1:=Int.mul_ediv_self_le (by omega);have I:A+k-1<k*((A+k-1)/k)+k:=Int.lt_mul_ediv_self_add E;generalize(A+k-1)/k=R at*;obtain⟨r,rfl⟩:∃r:Nat,R=r:=⟨R.toNat,by omega⟩;rw[ak];refine⟨E,by omega,by omega,⟨?_,?_⟩,by omega⟩
 ·rcases r with _|r
  ·simp at I;omega
  ·omega
 ·apply bv;intro c;have:k*60<=k*(r:Int):=cz (by omega) (by omega);omega
end Go.Bm
namespace Go.Bm
open Classical
def sT (K:Kf) (t:Trk):Kf:=⟨K.x,K.pa,K.pb,K.pc,K.ramp,K.lag,K.aA,K.closed,K.p,K.len,K.set,t⟩
theorem KOK.sT (h:KOK K) {t:Trk} (E:TH t):KOK (Go.Bm.sT K t):=⟨⟨h.f.p,h.f.x,E⟩,h.plan,h.aF,h.aD,h.count,h.aS,h.len,h.set⟩
def Jz:List Pce->Int->Pt->Pt
 |[],_,d=>d
 |c::l,u,d=>if u>c.at_+c.aR then Jz l u d else if c.bD≠0\/u=c.at_+c.aR then c.aT else c.was
def Fl (t:Trk) (u:Int):Pt:=Jz t.aE (clT t u) t.aT
theorem Z5x (h:TQ t) (u:Int):Qmp (Ak SY) (Ba t++[I u])=some (ptR (Fl t u)):=by
 refine cx (Z4n _ (t.aE.map AN) t.length t.aQ t.aT.x t.aT.y t.aT.z u) ?_;have M:mx 0 (mn u t.length)=clT t u:=by
  unfold mx mn clT AS
  (repeat' split)<;>omega
 rw[M];have key:Out (λo=>o=(1,ptR (Fl t u))\/(o=(2, .vC As (t.aE.map AN)::I t.length::I t.aQ::I t.aT.x::I t.aT.y::I t.aT.z::[I 0,I 0,I 0])/\Fl t u=t.aT))
   (Ak SY [I (clT t u), .vC As (t.aE.map AN),I ((t.aE.map AN).length:Int),I ((0:Nat):Int), .vC As (t.aE.map AN),I t.length,I t.aQ,I t.aT.x,I t.aT.y,I t.aT.z,I 0,I 0,I 0]):=by
  refine Co (λi:Nat=>[I (clT t u), .vC As (t.aE.map AN),I ((t.aE.map AN).length:Int),I (i:Int), .vC As (t.aE.map AN),I t.length,I t.aQ,I t.aT.x,I t.aT.y,I t.aT.z,I 0,I 0,I 0])
   (λi=>i<=t.aE.length/\Fl t u=Jz (t.aE.drop i) (clT t u) t.aT) (λi=>t.aE.length-i) _ ?_ 0 ⟨i6 _,rfl⟩
  rintro i ⟨hi,hf⟩;rw[Z28];have T:((t.aE.map AN).length:Int)=t.aE.length:=by rw[af]
  refine .cond (λG=> ?_) λG=> ?_
  ·have G:=Bi G;have E:i<t.aE.length:=by omega
   refine .cond (λ_=> ?_) λe=>(inB (by omega) G e).elim;rw[ak,OR E];have U:=h.count;have X:=h.pos i E;have Y:=h.len;have he:eI t.aE i=(pcA t.aE i).at_+(pcA t.aE i).aR:=rfl;rw[il E]at hf;have N:t.aE[i]=pcA t.aE i:=by unfold pcA;rw[List.getD,ai E];rfl
   rw[N]at hf;unfold Jz at hf;generalize pcA t.aE i=c at*;have O:V (gA (AN c) 0+gA (AN c) 1)=c.at_+c.aR:=by
    show V (c.at_+c.aR)=_;exact Ae
   rw[O,Ae (x:=(i:Int)+1)];refine .cond (λa=> ?_) λa=> ?_
   ·have a:=Bi a;rw[ab a]at hf;exact .some (.inl ⟨rfl,i+1,rfl,⟨by omega,hf⟩,by omega⟩)
   ·have a:=Bp a;rw[aa a]at hf;refine .cond (λb=> ?_) λb=> .cond (λb2=> ?_) λb2=> ?_
    ·have b:c.bD≠0:=by simpa [gA,nth,Ah]using b
     rw[ab (.inl b)]at hf;exact .some (.inr ⟨by simp, .inl (by rw[hf];rfl)⟩)
    ·have b2:clT t u=c.at_+c.aR:=eq_of_beq b2;rw[ab (.inr b2)]at hf;exact .some (.inr ⟨by simp, .inl (by rw[hf];rfl)⟩)
    ·have b:c.bD=0:=by simpa [gA,nth,Ah]using b
     have b2:clT t u≠c.at_+c.aR:=λe=>by rw[beT e]at b2;cases b2
     rw[aa (λq=>by rcases q with q|q;exact q b;exact b2 q)]at hf;exact .some (.inr ⟨by simp, .inl (by rw[hf];rfl)⟩)
  ·have G:=Bp G;rw[fc (by omega)]at hf;exact .some (.inr ⟨by simp, .inr ⟨rfl,hf⟩⟩)
 obtain⟨o,S,J⟩:=key;refine eB S ?_;rcases J with rfl|⟨rfl,J⟩
 ·exact eT rfl rfl
 ·rw[J];exact eF rfl (eT rfl rfl)
def E6 (K:Kf) (c:Cv):Bool:=AR c&& !decide (GV K.t (AE c))
def E9 (K:Kf) (c:Cv) (to:Int):Trk:=AL K.p K.x (Fl K.t (AE c)) (At K c) to
def Ki (K:Kf) (c:Cv) (to:Int):List AC:=if E6 K c=true then Ba (E9 K c to)++[I 0,I 0,I 0,I 0,I 0,I 0,B true]else [.vC As [],I 0,I 0,I 0,I 0,I 0,I 0,I 0,I 0,I 0,I 0,I 0,B false]
theorem Z7q {c:Cv} (E:P [I c.m0,I c.m1,I c.m2,I c.m3,I c.m4,I c.m5]=some [B (AR c)]) (G:S (Ba K.t++[I (AE c)])=some [B (decide (GV K.t (AE c)))])
  (J:T (Ba K.t++[I (AE c)])=some (ptR (Fl K.t (AE c)))) (N:W (Ba K.t++[I (AE c)])=some [I (At K c)])
  (O:∀(d:Pt) (a b:Int),Z (BC K.p++AI K.x++[I d.x,I d.y,I d.z,I a,I b])=some (Ba (AL K.p K.x d a b))) (U:M [I 0]=some [I 0,I 0,I 0,I 0,I 0,I 0]):
  Qbp M Z W T S P (pxt K.p K.x K.t [I c.m0,I c.m1,I c.m2,I c.m3,I c.m4,I c.m5,I k])=some (Ki K c k):=by
 rw[Yak];refine eB E ?_;unfold Ki E6 E9;cases V:AR c
 ·exact eT rfl rfl
 ·refine eF rfl (eB G ?_);cases X:decide (GV K.t (AE c))
  ·refine eF rfl (eB J (eB N (eB (O (Fl K.t (AE c)) (At K c) k) (eB U ?_))));rw[ab (show(true&& !false)=true from rfl)];rfl
  ·exact eT rfl rfl
theorem Za3 (h:KOK K) (c:Cv) (to:Int):KK (pxt K.p K.x K.t [I c.m0,I c.m1,I c.m2,I c.m3,I c.m4,I c.m5,I to])=some (Ki K c to):=
 Z7q (Qkk c) (Zvj h.f.t.q _) (Z5x h.f.t.q _) (PW h.f.t.q _) (λd a b=>Q9t h.f.p h.f.x.ok) (Qdk 0)
theorem Vu (h:KOK K) (c:Cv) (to:Int):TH (E9 K c to):=Qy1 _ _ _ h.f.x.ok h.f.p
def zM (c:Cv):Cv:={c with m0:=0,m1:=0,m2:=0,m3:=0,m4:=0,m5:=0}
def FJ (c d:Cv):Prop:=d=c\/∃a:Int,c.g0=0/\d={c with g0:=1,g1:=19,g2:=a}
def M_ (K:Kf) (c:Cv) (n:Int):Cv:={c with g0:=gA ((JH (I n::Ab K c)).getD []) 61,g1:=gA ((JH (I n::Ab K c)).getD []) 62,g2:=gA ((JH (I n::Ab K c)).getD []) 63}
theorem brD {c:Cv} {F:Cv->Option (List AC)} {p:Prop} [Decidable p] {X Y:Option (List AC)} (E:p->∃d:Cv,FJ c d/\X=F d) (G: ¬p->∃d:Cv,FJ c d/\Y=F d):∃d:Cv,FJ c d/\(bif decide p then X else Y)=F d:=by
 by_cases h:p
 ·rw[am h];exact E h
 ·rw[an h];exact G h
theorem bdE {c:Cv} {F:Cv->Option (List AC)} {m:Option (List AC)} {f:Fn} {o:List AC} (h:m=some o) (hf:∃d:Cv,FJ c d/\f o=F d):∃d:Cv,FJ c d/\m.bind f=F d:=by
 rw[h];exact hf
theorem Zri (c:Cv) (l E a1 a2 G b1 b2:Int):∃d:Cv,FJ c d/\Oy [I c.g0,I c.g1,I c.g2,I l,I E,I a1,I a2,I G,I b1,I b2]=some [I d.g0,I d.g1,I d.g2]:=by
 show∃d:Cv,FJ c d/\Qm6 _=_;rw[Zwx];by_cases h:c.g0=0
 ·have st:∀a:Int,∃d:Cv,FJ c d/\some [I 1,I 19,I a]=some [I d.g0,I d.g1,I d.g2]:=λa=>⟨{c with g0:=1,g1:=19,g2:=a}, .inr ⟨a,h,rfl⟩,rfl⟩;have no:∃d:Cv,FJ c d/\some [I c.g0,I c.g1,I c.g2]=some [I d.g0,I d.g1,I d.g2]:=⟨c, .inl rfl,rfl⟩;rw[bnF h];exact brD (F:=λd=>some [I d.g0,I d.g1,I d.g2]) (λ_=>st 0) λ_=>brD (F:=λd=>some [I d.g0,I d.g1,I d.g2]) (λ_=>st 0) λ_=>brD (F:=λd=>some [I d.g0,I d.g1,I d.g2]) (λ_=>st _) λ_=>brD (F:=λd=>some [I d.g0,I d.g1,I d.g2]) (λ_=>st _) λ_=>brD (F:=λd=>some [I d.g0,I d.g1,I d.g2]) (λ_=>st _) λ_=>brD (F:=λd=>some [I d.g0,I d.g1,I d.g2]) (λ_=>st _) λ_=>no
 ·exact⟨c, .inl rfl,by rw[bnT h];rfl⟩
theorem Zem {MC MM MU:Fn} {c:Cv} {n:Int} (hn:n<=4194304) (S:MU (Ab K c)=some [I (AE c)]) (T:∀u,MM (pxt K.p K.x K.t [I u])=some (ptR (CO K.p K.x K.t u)))
  (U:∀E a1 a2 G b1 b2:Int,∃d:Cv,FJ c d/\MC [I c.g0,I c.g1,I c.g2,I K.lag,I E,I a1,I a2,I G,I b1,I b2]=some [I d.g0,I d.g1,I d.g2]):
  ∃d:Cv,FJ c d/\Qlc MC MM MU (I n::Ab K c)=some (Ab K d):=by
 rw[Zvz];unfold Sl;have no:∃d:Cv,FJ c d/\some (Ab K c)=some (Ab K d):=⟨c, .inl rfl,rfl⟩;have M:∀E a1 a2 G b1 b2:Int,∃d:Cv,FJ c d/\((MC [I c.g0,I c.g1,I c.g2,I K.lag,I E,I a1,I a2,I G,I b1,I b2]).bind λo=>some (Ab K {c with g0:=gA o 0,g1:=gA o 1,g2:=gA o 2}))=some (Ab K d):=λE a1 a2 G b1 b2=>by
  obtain⟨d,X,e⟩:=U E a1 a2 G b1 b2;rcases X with rfl|⟨a,h0,rfl⟩
  ·exact⟨d, .inl rfl,eB e rfl⟩
  ·exact⟨_, .inr ⟨a,h0,rfl⟩,eB e rfl⟩
 have Y: ¬n<0->0<=V (n.tdiv 1048576):=λh=>by
  rw[bh (by omega),Ae];omega
 generalize V (n.tdiv 1048576)=q at*;have F:Cv->Option (List AC):=λd=>some (Ab K d);refine brD (F:=λd=>some (Ab K d)) (λ_=>no) λh1=>brD (F:=λd=>some (Ab K d)) (λ_=>no) λh2=> ?_;refine bdE (F:=λd=>some (Ab K d)) S (bdE (F:=λd=>some (Ab K d)) (T (AE c)) ?_);refine brD (F:=λd=>some (Ab K d)) (λJ=>brD (F:=λd=>some (Ab K d)) (λ_=>M ..) λe=>absurd J e) λJ=> ?_;refine brD (F:=λd=>some (Ab K d)) (λN=>brD (F:=λd=>some (Ab K d)) (λe=>absurd e J) λ_=>brD (F:=λd=>some (Ab K d)) (λ_=>M ..) λe=>absurd N e) λN=> ?_;refine brD (F:=λd=>some (Ab K d)) (λO=>brD (F:=λd=>some (Ab K d)) (λe=>absurd e J) λ_=>brD (F:=λd=>some (Ab K d)) (λe=>absurd e N) λ_=>brD (F:=λd=>some (Ab K d)) (λ_=>M ..) λe=>absurd O e) λO=> ?_;have:=Y h1;omega
theorem Qtb (h:KOK K) (c:Cv) {n:Int} (J:n<=4194304):JH (I n::Ab K c)=some (Ab K (M_ K c n))/\FJ c (M_ K c n):=by
 obtain⟨d,G,E⟩:=Zem (MC:=Oy) (MM:=EB) J (LD K c) (QE h.f) (λM a1 a2 N b1 b2=>Zri c K.lag M a1 a2 N b1 b2);have E:JH (I n::Ab K c)=some (Ab K d):=E;have e:M_ K c n=d:=by
  unfold M_;rw[E];rcases G with rfl|⟨a,h0,rfl⟩<;>rfl
 rw[e];exact⟨E,G⟩
def Lm (K:Kf) (c:Cv):Cv:={c with aH:=bA ((Nd (Ab K c)).getD []) 77}
def Mu (K:Kf) (c:Cv) (s:Int):Int:=gA ((K9 (I s::Ab K c)).getD []) 0
end Go.Bm
