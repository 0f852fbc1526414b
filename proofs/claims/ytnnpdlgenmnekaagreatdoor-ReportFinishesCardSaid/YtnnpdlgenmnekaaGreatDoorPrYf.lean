/- laid together -/
import Derived.Test.YtnnpdlgenmnekaaGreatDoorPrSt
import Derived.Test.YtnnpdlgenmnekaaGreatDoorPrAtF
import Derived.Test.YtnnpdlgenmnekaaGreatDoorPrLc
import Derived.Test.YtnnpdlgenmnekaaGreatDoorMx3
import Derived.Test.YtnnpdlgenmnekaaGreatDoorMy1
set_option linter.unusedVariables false
set_option linter.unusedSimpArgs false
set_option maxRecDepth 100000
open Go.IntKind (wrap)
variable {K:Go.Bm.Kf} {p:Go.Bm.Pth} {i:Nat} {a k u b v r m:Int} {t:Go.Bm.Trk} {M Z W T P O H:Go.Bm.Fn} {d:Go.Bm.Pt} {l:Go.Bm.Rw} {Q:Int->Go.Bm.Pt->Prop} {N:Go.Bm.Lp} {g:Go.Bm.Sgm}
namespace Go.Bm
open Classical
def okU (s:Spk):Prop:=s.u.natAbs<=1000000/\s.w.natAbs<=1000000/\(0<=s.r/\s.r<=1000000)/\s.h.natAbs<=200000
theorem okU.s {s:Spk} (h:okU s):okS s:=⟨by have:=h.1;omega,by have:=h.2.1;omega,⟨h.2.2.1.1,by have:=h.2.2.1.2;omega⟩,by have:=h.2.2.2;omega⟩
theorem Zsy {a b:Spk} (D:okU a) (hb:okU b) {u w:Int} (G:u.natAbs<=100000000) (I:w.natAbs<=100000000):okU (Dg a b u w):=by
 unfold Dg;split
 ·exact⟨by simp,by simp,by simp,by simp⟩
 ·rename_i h;have L:=D.2.2;have M:=hb.2.2
  have N:0<=hf a.r b.r/\hf a.r b.r<=1000000:=by unfold hf;omega
  have O:(hf a.h b.h).natAbs<=200000:=by unfold hf;omega
  obtain⟨T,U⟩:=Qf8 G I (r:=hf a.r b.r) (by omega) h;exact⟨by simp only;omega,by simp only;omega,N,O⟩
theorem Zb8 {a b:Spk} (D:okU a) (hb:okU b) {dir:Int} (G:dir=1\/dir= -1) (bG:Bool):okU (AI a b dir bG):=
 Zsy D hb (L2 D.s hb.s G bG).1 (L2 D.s hb.s G bG).2
theorem Xi {dir:Int} (G:dir=1\/dir= -1):∀(k:Nat) (bG:Bool) {a b:Spk},okU a->okU b->∀s∈AK dir k bG a b,okU s
 |0,_,a,b,_,hb,s,D=>by simp[AK]at D;subst D;exact hb
 |k+1,bG,a,b,I,hb,s,D=>by
  unfold AK at D;have L:=Zb8 I hb G bG;split at D
  ·simp at D;subst D;exact hb
  ·rcases be.1 D with D|D
   ·exact Xi G k false I L s D
   ·exact Xi G k false L hb s D
theorem Z4d {n:Nat} (L:n<=300000000000):0<=EX n/\EX n<=1000000:=by
 obtain⟨r,D,G⟩:=KR n;have I:=QC D G;rw[NN I];have:r<1000000:=by
  by_cases c:r<1000000
  ·exact c
  ·have:=eg (show 1000000<=r by omega) (show 1000000<=r by omega);omega
 split<;>omega
theorem Qid {pl:Int} (h:bd i d):(plU pl d).natAbs<=i/\(plW pl d).natAbs<=i/\(plH pl d).natAbs<=i:=FN h
theorem Qm9 {it:Itm} (D:bd 4200 it.ce) (G:bd 4200 d):okU (AE it d):=by
 obtain⟨O,T,U⟩:=Qid (pl:=it.aG) D;obtain⟨V,X,Y⟩:=Qid (pl:=it.aG) G;have I:(dU it d*16).natAbs<=134400:=by unfold dU;omega
 have L:(dW it d*16).natAbs<=134400:=by unfold dW;omega
 have q1:=B0 I;have q2:=B0 L;obtain⟨-,-,N,-⟩:=N_ (AR D (by omega)) (AR G (by omega));obtain⟨n,M⟩:=bh N;refine⟨cb I (by decide),cb L (by decide),?_,?_⟩
 ·show 0<=EX _/\EX _<=_;rw[M];refine Z4d ?_;unfold sq2 at M;omega
 ·show(plH it.aG d*16).natAbs<=_;omega
theorem Z49 {it:Itm} {s:Spk} (D:bd 4200 it.ce) (G:okU s):bd B24 (CQ it s):=by
 obtain⟨I,L,-⟩:=Qid (pl:=it.aG) (Er D);obtain⟨s1,s2,-,M⟩:=G;exact Qjc (by unfold B24;omega) (by unfold B24;omega) (by unfold B24;omega)
theorem Zvd {it:Itm} (h:Made it) (hf:bd 4084 it.fr):∀p∈Bv it,bd B24 p:=by
 have L:=Qry h hf;intro p G;unfold Bv at G;split at G
 ·rename_i M;simp only[bc]at G;obtain⟨s,I,rfl⟩:=G;have D:bd 4200 it.ce:=AR (Ue (h.arc M) (by omega) hf).2 (by omega);refine Z49 D ?_;rcases av.1 I with rfl|I
  ·exact Qm9 D (AR hf (by omega))
  ·exact Xi (h.arc M).dir 16 _ (Qm9 D (AR hf (by omega))) (Qm9 D (AR L (by omega))) s I
 ·simp at G;rcases G with rfl|rfl
  ·exact AR (Er hf) (by decide)
  ·exact AR (Er L) (by decide)
def U2 (n:Nat) (g:Sgm):Prop:=bd B24 g.to/\0<=g.aU/\g.aU<n/\i64 g.aX
theorem Q4z {n:Nat} {aU aZ aX:Int} (I:0<=aU/\aU<n) (M:i64 aX):∀(D:List Pt) (s:List Sgm×Int×Pt),(∀p∈D,bd B24 p)->(∀g∈s.1,U2 n g)->∀g∈(D.foldl (AU aU aZ aX) s).1,U2 n g
 |[],s,_,h=>h
 |q::D,s,N,h=>by
  rw[dv];refine Q4z I M D _ (λp L=>N p (by simp[L])) ?_;unfold AU;split
  ·exact h
  ·intro g G;simp only[be,de]at G;rcases G with G|rfl
   ·exact h g G
   ·exact⟨N q (by simp),I.1,I.2,M⟩
structure PIn (n : Nat) (s : BSt) : Prop where
 aQ:bd B24 s.aQ
 aF:∀g∈s.aF,U2 n g
 aD:∀m∈s.aD,0<=m.aU/\m.aU<n/\i64 m.at_
theorem Zwe {aA:List Itm} (I:drawn (vE aA i)) (hf:LX aA i a) (G:∀k<aA.length,AA (vE aA k)->drawn (vE aA k)) (L:∀p∈Bv (vE aA i),bd B24 p):∀p∈BY aA i a,bd B24 p:=by
 unfold BY;by_cases O:smI (vE aA i)
 ·rw[ab O];intro p D;rcases be.1 D with D|D
  ·rcases be.1 D with D|D
   ·unfold GX at D;rcases hf with rfl|⟨f,rfl,T,M⟩
    ·rw[aa]at D;exact L p (dy D)
    ·rw[ab]at D;exact(Ls (aA:=aA) (i:=(f:Int).toNat) (k:=i) (by simpa using M) I).1 p (dt D)
   ·simp at D;subst D;exact Lm I.1.2.1 I.1.2.2.1
  ·unfold Gm at D;by_cases h:0<=BE aA i
   ·rw[ab h]at D;obtain⟨k,U,V,N⟩:=U8 G h;exact(Ls (aA:=aA) (i:=i) (k:=(BE aA i).toNat) I (by rw[U];simpa using N)).1 p (dy D)
   ·rw[aa h]at D;exact L p (dt D)
 ·rw[aa O];exact L
theorem Z6e {it:Itm} (hf:it.aP=1\/1<=it.aZ/\it.aZ<=60000000):i64 (HO it):=by
 unfold HO;split
 ·rename_i h;unfold syI at h;unfold mn i64;split<;>omega
 ·unfold i64;omega
theorem Zo8 {aA:List Itm} {s:BSt} (O:i<aA.length) (X:aA.length<=15) (D:∀j<aA.length,¬B9 (vE aA j)) (T:∀j<aA.length,AA (vE aA j)->∀p∈Bv (vE aA j),bd B24 p) (M:BOK aA i s) (h:PIn aA.length s):PIn aA.length (Dh aA i s):=by
 have L:∀k<aA.length,AA (vE aA k)->drawn (vE aA k):=λk V G=>(Lx (D k V) G).1;have N:=Q9h O D M;have hlen:=M.len;have I:=N.len;unfold Dh at I⊢;by_cases G:AA (vE aA i)
 ·rw[ab G]at I⊢;have U:=L i O G;refine⟨?_,Q4z ⟨by omega,by omega⟩ (Z6e (Lx (D i O) G).2) _ _ (Zwe U M.frm L (T i O G)) h.aF,?_⟩
  ·show bd B24 (if s.bI=true then s.aQ else Aq (vE aA i).fr);split
   ·exact h.aQ
   ·exact Er U.1.2.1
  ·intro m G;simp only[be,de]at G;rcases G with G|rfl
   ·exact h.aD m G
   ·refine⟨by simp only;omega,by simp only;omega,?_⟩;simp only at I⊢;unfold i64;omega
 ·rw[aa G];refine⟨h.aQ,h.aF,?_⟩;intro m G;simp only[be,de]at G;rcases G with G|rfl
  ·exact h.aD m G
  ·refine⟨by simp only;omega,by simp only;omega,?_⟩;simp only;unfold i64;omega
theorem Qzs {aA:List Itm} (I:aA.length<=15) (D:∀j<aA.length,¬B9 (vE aA j)) (G:∀j<aA.length,AA (vE aA j)->∀p∈Bv (vE aA j),bd B24 p):∀i,i<=aA.length->PIn aA.length (At aA i)
 |0,_=>by rw[At];exact⟨by unfold bd;simp,λg h=>(by cases h),λg h=>(by cases h)⟩
 |i+1,L=>by rw[At];exact Zo8 (by omega) I D G (On D i (by omega)) (Qzs I D G i (by omega))
theorem Zr4 {aA:List Itm} (L:aA.length<=15) (M:C4 aA=0) (G:∀j<aA.length,AA (vE aA j)->∀p∈Bv (vE aA j),bd B24 p):bd B24 (AF aA).aQ/\(∀g∈(AF aA).aF,U2 aA.length g)/\(∀m∈(AF aA).aD,0<=m.aU/\m.aU<aA.length/\i64 m.at_)/\(AF aA).aD.length=aA.length:=by
 have D:=(JF M).2;have I:=Qzs L D G aA.length (cm _);exact⟨I.aQ,I.aF,I.aD,(On D aA.length (cm _)).aD⟩
theorem Znf {aA:List Itm} (O:aA.length<=15) (M:C4 aA=0):i64 (L6 aA):=by
 have I:=M0 O M;have V:=Qnb (Q6 I.aQ I.aF);have G:=I.count;have D:=(JF M).2;have N:i64 (As (AF aA).aF):=by unfold i64;omega
 unfold L6;split
 ·rename_i i e;split
  ·rename_i c;obtain⟨T,-,-⟩:=Y2 e;have U:AA (vE aA i):=⟨by have:=c.1.1;omega,by have:=c.1.1;omega⟩;obtain⟨L,-⟩:=Lx (D i T) U;have:=HF (AR (Lm L.1.2.1 L.1.2.2.1) (by decide)) (AR (Er L.1.2.2.1) (by decide));unfold i64;omega
  ·exact N
 ·exact N
theorem TJ (n lo D:Int):GZ [I n,I lo,I D]=some [B (decide (lo<=n/\n<=D))]:=by
 show Qaf [I n,I lo,I D]=_;rw[Zdh];by_cases G:lo<=n<;>by_cases L:n<=D<;>simp[G,L]
theorem Zgp (N:∀n lo D:Int,M [I n,I lo,I D]=some [B (decide (lo<=n/\n<=D))]) {a:Axs} (h:AxOK a) (G:a.aW≠[]):
  ∃o,Am (Zm M) (.vC Aa (a.aW.map Aj)::I a.aW.length::I 0::Bs a)=some o/\o.1=2:=by
 have V:=h.aO G;refine(?_:Out (λo:Nat×List AC=>o.1=2) _);refine Cd (λi:Nat=> .vC Aa (a.aW.map Aj)::I a.aW.length::I (i:Int)::Bs a) (λi=>i<=a.aW.length) (λi=>a.aW.length-i) _ ?_ 0 (by simp);intro i D;have hc:=h.count;rw[Zmt];dsimp only[jA,gA,bA,wA];have O:∀j:Nat,j<a.aW.length->Ag (nth .vD (nth [] (a.aW.map Aj) j) 0)=a.aW.getD j 0:=λj T=>by
  have e:nth [] (a.aW.map Aj) j=Aj a.aW[j]:=by
   rw[E1 [] (a.aW.map Aj) j (by rw[ac];exact T),fj]
  rw[e,List.getD,ag T];rfl
 refine .cond (λk=> ?_) λ_=> .some (.inr ⟨by simp,rfl⟩);have k:(i:Int)<(a.aW.length:Int):=Bg k;have U:((a.aW.map Aj).length:Int)=a.aW.length:=by rw[ac]
 refine .cond (λ_=> ?_) λe=>(inB (by omega) (by rw[U];exact k) e).elim;have X: -4096<=a.aW.getD i 0/\a.aW.getD i 0<=4096:=by
  refine h.aW.1 _ ?_;rw[List.getD,ag (by omega)];exact ca _
 rw[af,O i (by omega),N];simp only[am,gA,wA,bA,jA,F6,Dz];rw[ai X];refine .cond (λe=>by cases e) λ_=> ?_;have nx:∀{x:List AC},x= .vC Aa (a.aW.map Aj)::I a.aW.length::I ((i:Int)+1)::Bs a->Out (λo:Nat×List AC=>(o.1=0/\∃L:Nat,o.2= .vC Aa (a.aW.map Aj)::I a.aW.length::I (L:Int)::Bs a/\L<=a.aW.length/\a.aW.length-L<a.aW.length-i)\/(o.1≠0/\o.1=2)) (some (0,x)):=λe=>
  .some (.inl ⟨rfl,i+1,by rw[e];rfl,by omega,by omega⟩)
 rw[Ad (x:=(i:Int)+1)];refine .cond (λg=> ?_) λ_=>nx rfl;have g:(i:Int)>0:=Bg g;rw[Ad (x:=(i:Int)-1)];refine .cond (λ_=> ?_) λe=>(inB (by omega) (by rw[U];omega) e).elim;obtain⟨j,rfl⟩:∃j:Nat,i=j+1:=⟨i-1,by omega⟩;have hd:=h.aW.2 j (by omega);have Y: -4096<=a.aW.getD j 0/\a.aW.getD j 0<=4096:=by
  refine h.aW.1 _ ?_;rw[List.getD,ag (by omega)];exact ca _
 have ej:(((j+1:Nat):Int)-1).toNat=j:=by omega
 rw[ej,O j (by omega),N];simp only[am,gA,wA,bA,jA,F6,Dz];have q1:a.aO.tdiv 4=a.aO/4:=bm (by omega);rw[q1,Ad (x:=a.aO/4),Ad (x:=0-a.aO/4),Ad (x:=a.aW.getD (j+1) 0-a.aW.getD j 0)];refine .cond (λe=> ?_) λ_=>nx rfl;rw[ai (show 0-a.aO/4<=a.aW.getD (j+1) 0-a.aW.getD j 0/\a.aW.getD (j+1) 0-a.aW.getD j 0<=a.aO/4 by omega)]at e;cases e
theorem Yah (G:∀n lo L:Int,M [I n,I lo,I L]=some [B (decide (lo<=n/\n<=L))]) {a:Axs} (h:AxOK a)
  (T:a.aW≠[]->∃o,N (.vC Aa (a.aW.map Aj)::I a.aW.length::I 0::Bs a)=some o/\o.1=2):Y5 M N (Bs a)=some [B true]:=by
 have O:=h.aO;have X:=h.aV;have Y:=h.count
 rw[Zjf];by_cases e:a.aW=[]
 ·rw[e];rfl
 ·have hl:0<a.aW.length:=fv.2 e;obtain⟨o,U,V⟩:=T e;have O:=O e;have D:N [.vC Aa (a.aW.map Aj),I (a.aW.map Aj).length,I 0,I a.step,I a.aS,I a.bD,I a.bE,I a.low,I a.aY,I a.bB,I a.aV,I a.aO, .vC Aa (a.aW.map Aj)]=some o:=by rw[ac];exact U
  rw[B4 (by rw[ac];simp;omega),B4 (by rw[ac];simp;omega),G,G,D];simp only[am,gA,wA,bA,jA,F6,Dz];rw[ai (show-16777216<=a.aV/\a.aV<=16777216 by omega),ai (show 4<=a.aO/\a.aO<=16777216 by omega),V];rfl
theorem Zse {a:Axs} (h:AxOK a):Qi (Bs a)=some [B true]:=Yah TJ h λD=>Zgp TJ h D
theorem Zjx (G:∀n lo D:Int,Z [I n,I lo,I D]=some [B (decide (lo<=n/\n<=D))]) {a:Axs} (h:AxOK a) (L:M (Bs a)=some [B true]):Qc4 M Z (Bs a)=some [B true]:=by
 have N:=h.step;have hb:=h.bB;obtain⟨O,T,U,V,X,Y,l7,l8⟩:=h.lim
 rw[Z70];simp only[G,am,F6,Dz];rw[ai (show 4<=a.step/\a.step<=4096 by omega),ai (show 1<=a.aS/\a.aS<=1048576 by omega),ai (show 2<=a.bD/\a.bD<=1048576 by omega),ai (show 4<=a.bE/\a.bE<=1048576 by omega),ai (show a.low>= -16777216 by omega),ai (show a.aY<=16777216 by omega),ai (show a.low<=a.aY by omega),ai (show 0<=a.bB/\a.bB<=64 by omega)];simp only[ak];rw[L];rfl
theorem Zet {a:Axs} (h:AxOK a):Qu (Bs a)=some [B true]:=Zjx TJ h (Zse h)
theorem Zmu (G:∀n lo D:Int,M [I n,I lo,I D]=some [B (decide (lo<=n/\n<=D))]) {a:Axs} (h:AxOK a) {q:Int} (L:q.natAbs<=B24):Qh1 M (Bs a++[I q])=some [B true]:=by
 obtain⟨-,-,-,-,-,-,N,O⟩:=h.lim;refine dp (Zgw M ..) ?_;rw[G,ai (show a.low<=q/\q<=a.aY by unfold B24 at L;omega)];rfl
theorem Zi8 {a:Axs} (h:AxOK a) {q:Int} (D:q.natAbs<=B24):HJ (Bs a++[I q])=some [B true]:=Zmu TJ h D
theorem Zg1 {x:Ax3} (O:bd B24 p.aQ) (T:∀g∈p.aF,bd B24 g.to) (hl:p.aF.length<=1000000):
  Out (λo:Nat×List AC=>o.1=1/\∃D:List Pt,o.2= .vC kPt (D.map ptR)::AG x/\(∀q∈D,bd B24 q)/\D.length<=1000001) (Am (Qg M) (.vC kPt [ptR p.aQ]:: .vC Ah (p.aF.map AB)::I (p.aF.map AB).length::I 0::AG x)):=by
 refine Cd (λs:Nat×List Pt=> .vC kPt (s.2.map ptR):: .vC Ah (p.aF.map AB)::I (p.aF.map AB).length::I (s.1:Int)::AG x) (λs=>s.1<=p.aF.length/\(∀q∈s.2,bd B24 q)/\s.2.length=s.1+1) (λs=>p.aF.length-s.1) _ ?_ (0,[p.aQ]) ⟨by simp,by simpa using O,rfl⟩;rintro⟨i,D⟩ ⟨U,N,V⟩;dsimp only at U N V;refine Out.eqv (Zs6 M ..) ?_;have L:((p.aF.map AB).length:Int)=p.aF.length:=by rw[ac]
 refine .cond (λk=> ?_) λ_=> .some (.inr ⟨by simp,rfl,D,rfl,N,by omega⟩);have k:(i:Int)<((p.aF.map AB).length:Int):=Bg k;rw[L]at k;refine .cond (λ_=> ?_) λe=>(inB (by omega) (by rw[L];exact k) e).elim;have X:nth [] (p.aF.map AB) (i:Int).toNat=AB p.aF[i]:=by
  rw[af,E1 [] _ i (by rw[ac];omega),fj]
 rw[X];have Y:=T _ (ca (show i<p.aF.length by omega));refine .cond (λ_=> ?_) λe=>by rw[BF (by simp;omega)]at e;cases e
 refine .some (.inl ⟨rfl,(i+1,D++[p.aF[i].to]),?_,⟨by dsimp only;omega,?_,by simp;omega⟩,by dsimp only;omega⟩)
 ·rw[Ad (x:=(i:Int)+1),bt];rfl
 ·intro q G;dsimp only at G;simp only[be,de]at G;rcases G with G|rfl
  ·exact N q G
  ·exact Y
theorem Zqe (L:∀{a:Axs} {q:Int},AxOK a->q.natAbs<=B24->M (Bs a++[I q])=some [B true]) {x:Ax3} (O:Ax3M x) {D:List Pt} (T:∀q∈D,bd B24 q) (hl:D.length<=1000001):
  Out (λo:Nat×List AC=>o.1=2) (Am (UC M N) (.vC kPt (D.map ptR)::I (D.map ptR).length::I 0::AG x)):=by
 refine Cd (λi:Nat=> .vC kPt (D.map ptR)::I (D.map ptR).length::I (i:Int)::AG x) (λi=>i<=D.length) (λi=>D.length-i) _ ?_ 0 (by simp);intro i h1;refine Out.eqv (Zwi M N ..) ?_;have G:((D.map ptR).length:Int)=D.length:=by rw[ac]
 refine .cond (λk=> ?_) λ_=> .some (.inr ⟨by simp,rfl⟩);have k:(i:Int)<((D.map ptR).length:Int):=Bg k;rw[G]at k;refine .cond (λ_=> ?_) λe=>(inB (by omega) (by rw[G];exact k) e).elim;have U:nth [] (D.map ptR) (i:Int).toNat=ptR D[i]:=by
  rw[af,E1 [] _ i (by rw[ac];omega),fj]
 rw[U];obtain⟨V,X,Y⟩:=T _ (ca (show i<D.length by omega));refine .bind (p:=λo=>o=[B true]) ⟨_,L O.a V,rfl⟩ λo e=> ?_;subst e;refine .cond (λe=>by cases e) λ_=> ?_;refine .bind (p:=λo=>o=[B true]) ⟨_,L O.b X,rfl⟩ λo e=> ?_;subst e;refine .cond (λe=>by cases e) λ_=> ?_;refine .bind (p:=λo=>o=[B true]) ⟨_,L O.c Y,rfl⟩ λo e=> ?_;subst e;refine .cond (λe=>by cases e) λ_=> ?_;exact .some (.inl ⟨rfl,i+1,by rw[Ad (x:=(i:Int)+1)];rfl,by omega,by omega⟩)
theorem Zpw {N3 N8:Lp} {x:Ax3}
  (N:Out (λo:Nat×List AC=>o.1=1/\∃D:List Pt,o.2= .vC kPt (D.map ptR)::AG x/\(∀q∈D,bd B24 q)/\D.length<=1000001) (N3 (.vC kPt [ptR p.aQ]:: .vC Ah (p.aF.map AB)::I (p.aF.map AB).length::I 0::AG x)))
  (O:∀{D:List Pt},(∀q∈D,bd B24 q)->D.length<=1000001->Out (λo:Nat×List AC=>o.1=2) (N8 (.vC kPt (D.map ptR)::I (D.map ptR).length::I 0::AG x))):
  Out (λo=>o=[B true]) (Y1 M N3 N8 (AG x++Bl p)):=by
 refine Out.eqv (Zsb M N3 N8 ..) ?_;refine .bind N λo q=> ?_;obtain⟨o1,o2⟩:=o;obtain⟨G,D,L,T,U⟩:=q;dsimp only at G L;subst G L;refine .cond (λ_=> ?_) λe=>by cases e
 refine .bind (O T U) λo q=> ?_;rw[q];exact .some rfl
theorem Zc0 {x:Ax3} (D:Ax3M x) (G:bd B24 p.aQ) (I:∀g∈p.aF,bd B24 g.to) (L:p.aF.length<=1000000):PU (AG x++Bl p)=some [B true]:=by
 obtain⟨o,h,rfl⟩:=Zpw (M:=HJ) (N3:=Am (Qg HJ)) (N8:=Am (UC HJ (Am (Qg HJ)))) (Zg1 (x:=x) G I L) (λN O=>Zqe (λT U=>Zi8 T U) D N O);exact h
theorem Z63:∃v:Int,HP [I 30000]=some [I v]/\60000<=v:=by
 have key:∀{M:Fn} {v:Int},M [I 30000,I 1048576,I 60000,I 2]=some [I v,B true]->Qc3 M [I 30000]=some [I v]:=λh=>by
  rw[Zud,h];rfl
 refine⟨_,key (Tk (by unfold i64;omega) (by unfold i64;omega) (by omega) (by decide)),?_⟩;unfold AP;omega
theorem Zma {x:Ax3} (D:Ax3M x) {pa pb pc bF lag:Int} (U:Plan3 pa pb pc) (G:1<=bF/\bF<=60000) (L:0<=lag/\lag<=40)
  (hV:∀{a:Axs},AxOK a->W (Bs a)=some [B true]) (N:Z [I pa,I pb,I pc]=some [B true]) (O:∃v:Int,M [I 30000]=some [I v]/\60000<=v):Out (λo=>o=[B true]) (Wf M Z W (AG x++[I pa,I pb,I pc,I bF,I lag])):=by
 refine Out.eqv (Zyv M Z W ..) ?_;refine .bind (p:=λo=>o=[B true]) ⟨_,hV D.a,rfl⟩ λo e=> ?_;subst e;refine .cond (λe=>by cases e) λ_=> .bind (p:=λo=>o=[B true]) ⟨_,hV D.b,rfl⟩ λo e=> ?_;subst e;refine .cond (λe=>by cases e) λ_=> .bind (p:=λo=>o=[B true]) ⟨_,hV D.c,rfl⟩ λo e=> ?_;subst e;refine .cond (λe=>by cases e) λ_=> .bind (p:=λo=>o=[B true]) ⟨_,N,rfl⟩ λo e=> ?_;subst e;obtain⟨v,T,V⟩:=O;refine .cond (λ_=> .cond (λ_=> ?_) λe=>absurd G.1 (Bd e)) λe=>by cases e
 refine .bind (p:=λo=>o=[I v]) ⟨_,T,rfl⟩ λo e=> ?_;subst e;refine .cond (λ_=> .cond (λ_=> ?_) λe=>absurd L.1 (Bd e)) λe=>absurd (show bF<=v by omega) (Bd e);exact .some (by rw[ai (show lag<=1048576 by omega)])
theorem Zx1 {x:Ax3} (G:Ax3M x) {pa pb pc bF lag:Int} (D:Plan3 pa pb pc) (L:1<=bF/\bF<=60000) (M:0<=lag/\lag<=40):Q7 (AG x++[I pa,I pb,I pc,I bF,I lag])=some [B true]:=by
 have N:EZ [I pa,I pb,I pc]=some [B true]:=by rw[S8,ai (show 1<=pa/\pa<=65536/\2<=pb/\pb<=65536/\1<=pc/\pc<=16777216 from⟨D.a.1,D.a.2,D.b.1,D.b.2,D.c.1,D.c.2⟩)]
 obtain⟨o,h,rfl⟩:=Zma G D L M Zet N Z63;exact h
theorem Z04 {x:Ax3} (O:Ax3M x) (D G L M N:Int):Qc (AG x++[I D,I G,I L,I M,I N])=some (AG x++[I D,I G,I L,I M,I N]):=by
 have T:=O.a.count;have hb:=O.b.count;have U:=O.c.count
 have key:Z7 (AG x++[I D,I G,I L,I M,I N])=some (AG x++[I D,I G,I L,I M,I N]):=by
  refine dp (Zb5 ..) ?_;rw[BF (by rw[ac];omega),BF (by rw[ac];omega),BF (by rw[ac];omega)];rfl
 exact key
abbrev Qx2 (K:Kf):Kf:=⟨K.x,K.pa,K.pb,K.pc,K.bF,K.lag,[],false,⟨⟨0,0,0⟩,[],[]⟩,0,0,⟨[],0,0,⟨0,0,0⟩⟩⟩
abbrev XL (K:Kf):Kf:=⟨K.x,K.pa,K.pb,K.pc,K.bF,K.lag,K.aA,K.closed,K.p,K.len,K.set,⟨[],0,0,⟨0,0,0⟩⟩⟩
abbrev BT:Cv:=⟨0,0,0,0,0,0,100,100,false,false,false,0,0,-1,1,0,0,0,0,0,0,0,0,false,0,false,0,false,0,-1,0,0,0,0,0,0,0,false,false,false⟩
noncomputable abbrev kfP (x:Ax3) (pa pb pc bF lag:Int) (aA:List Itm) (closed:Bool):Kf:=⟨x,pa,pb,pc,bF,lag,aA,closed,AF aA,As (AF aA).aF,L6 aA,Bz (AF aA) x ⟨1,1,1⟩ 0 (As (AF aA).aF)⟩
theorem Zsf (V:K.aA.length<=15) (i0:List Itm) (G:Bool) (p0:Pth) (L s0:Int) (D:Trk) (c:Cv)
  (hB:T [.vC Ai (K.aA.map Af)]=some (Bl K.p++[I 0])) (N:W (AG K.x++Bl K.p)=some [B true]) (O:Z (Bl K.p)=some [I K.len]) (U:M [.vC Ai (K.aA.map Af)]=some [I K.set]):
  Qq M Z W T (.vC Ai (K.aA.map Af)::B K.closed::Ae ⟨K.x,K.pa,K.pb,K.pc,K.bF,K.lag,i0,G,p0,L,s0,D⟩ c)=some (I 0::Ae ⟨K.x,K.pa,K.pb,K.pc,K.bF,K.lag,K.aA,K.closed,K.p,K.len,K.set,D⟩ c):=by
 have key:Out (λo=>o=I 0::Ae ⟨K.x,K.pa,K.pb,K.pc,K.bF,K.lag,K.aA,K.closed,K.p,K.len,K.set,D⟩ c) (Qq M Z W T (.vC Ai (K.aA.map Af)::B K.closed::Ae ⟨K.x,K.pa,K.pb,K.pc,K.bF,K.lag,i0,G,p0,L,s0,D⟩ c)):=by
  refine Out.eqv (Zfw M Z W T _ _ ⟨K.x,K.pa,K.pb,K.pc,K.bF,K.lag,i0,G,p0,L,s0,D⟩ c) ?_;refine .bind (p:=λo=>o=_) ⟨_,hB,rfl⟩ λo e=> ?_;subst e;refine .cond (λe=>by cases e) λ_=> ?_;refine .bind (p:=λo=>o=_) ⟨_,N,rfl⟩ λo e=> ?_;subst e;refine .cond (λe=>by cases e) λ_=> .cond (λ_=> ?_) λe=>by rw[BF (by rw[ac];omega)]at e;cases e
  refine .bind (p:=λo=>o=_) ⟨_,O,rfl⟩ λo e=> ?_;subst e;refine .bind (p:=λo=>o=_) ⟨_,U,rfl⟩ λo e=> ?_;subst e;exact .some rfl
 obtain⟨o,h,rfl⟩:=key;exact h
theorem Zbw (D:K.aA.length<=15) (c:Cv)
  (hB:T [.vC Ai (K.aA.map Af)]=some (Bl K.p++[I 0])) (G:W (AG K.x++Bl K.p)=some [B true]) (L:Z (Bl K.p)=some [I K.len]) (N:M [.vC Ai (K.aA.map Af)]=some [I K.set]):
  Qq M Z W T (.vC Ai (K.aA.map Af)::B K.closed::Ae (Qx2 K) c)=some (I 0::Ae (XL K) c):=
 Zsf D [] false ⟨⟨0,0,0⟩,[],[]⟩ 0 0 ⟨[],0,0,⟨0,0,0⟩⟩ c hB G L N
theorem Zr3
  (D:H (AG K.x++[I K.pa,I K.pb,I K.pc,I K.bF,I K.lag])=some [B true]) (G:O (AG K.x++[I K.pa,I K.pb,I K.pc,I K.bF,I K.lag])=some (AG K.x++[I K.pa,I K.pb,I K.pc,I K.bF,I K.lag]))
  (L:P []=some [I 100,I 100,B false,B false,B false]) (N:T []=some [I 0,I 0,I (-1)])
  (U:W (.vC Ai (K.aA.map Af)::B K.closed::Ae (Qx2 K) BT)=some (I 0::Ae (XL K) BT))
  (V:Z (Bl K.p++AG K.x++[I 1,I 1,I 1,I 0,I K.len])=some (Bw K.t)) (X:M [I 0]=some [I 0,I 0,I 0,I 0,I 0,I 0]):
  SE M Z W T P O H (AG K.x++[I K.pa,I K.pb,I K.pc,I K.bF,I K.lag]++[.vC Ai (K.aA.map Af),B K.closed])=some (I 0::Ae K BT):=by
 have key:Out (λo=>o=I 0::Ae K BT) (SE M Z W T P O H (AG K.x++[I K.pa,I K.pb,I K.pc,I K.bF,I K.lag]++[.vC Ai (K.aA.map Af),B K.closed])):=by
  refine Out.eqv (Zcp M Z W T P O H ..) ?_;refine .bind (p:=λo=>o=_) ⟨_,D,rfl⟩ λo e=> ?_;subst e;refine .cond (λe=>by cases e) λ_=> ?_;refine .bind (p:=λo=>o=_) ⟨_,G,rfl⟩ λo e=> ?_;subst e;refine .bind (p:=λo=>o=_) ⟨_,L,rfl⟩ λo e=> ?_;subst e;refine .bind (p:=λo=>o=_) ⟨_,N,rfl⟩ λo e=> ?_;subst e;refine .bind (p:=λo=>o=I 0::Ae (XL K) BT) ⟨_,U,rfl⟩ λo e=> ?_;subst e;refine .cond (λe=>by cases e) λ_=> ?_;refine .bind (p:=λo=>o=_) ⟨_,V,rfl⟩ λo e=> ?_;subst e;refine .bind (p:=λo=>o=_) ⟨_,X,rfl⟩ λo e=> ?_;subst e;exact .some (by kernel_rfl)
 obtain⟨o,h,rfl⟩:=key;exact h
structure MachOK (x : Ax3) (pa pb pc bF lag : Int) : Prop where
 x:Ax3M x
 plan:Plan3 pa pb pc
 bF:1<=bF/\bF<=60000
 lag:0<=lag/\lag<=40
theorem Q8o {x:Ax3} (D:MachOK x a k u b v) {aA:List Itm} (M:aA.length<=15) (N:C4 aA=0) (T:∀j<aA.length,AA (vE aA j)->∀p∈Bv (vE aA j),bd B24 p) (U:∀it∈aA,it.aP=8->i64 it.aS) (closed:Bool):
  IT (AG x++[I a,I k,I u,I b,I v]++[.vC Ai (aA.map Af),B closed])=some (I 0::Ae (kfP x a k u b v aA closed) BT)/\KOK (kfP x a k u b v aA closed):=by
 have G:=M0 M N;obtain⟨i1,X,Y,i4⟩:=Zr4 M N T;have hs:=Qnb (Q6 G.aQ G.aF);have O:=G.count;refine⟨?_,?_⟩
 ·have hB:H4 [.vC Ai (aA.map Af)]=some (Bl (AF aA)++[I 0]):=by rw[Qyr M,ab N]
  have hS:Nz [.vC Ai (aA.map Af)]=some [I (L6 aA)]:=by rw[Zmy M,ab N]
  have hR:=Zc0 D.x i1 (λg h=>(X g h).1) (by omega);have hT:=Q6v (d:=⟨1,1,1⟩) (from_:=0) (to:=As (AF aA).aF) G D.x.ok;have L:=Zbw (K:=kfP x a k u b v aA closed) M BT hB hR (Qjz G.ok) hS;have hO:P_ []=some [I 100,I 100,B false,B false,B false]:=by show Qeh []=_;rw[Z21]
  have hG:PS []=some [I 0,I 0,I (-1)]:=by show Ws []=_;rw[Zfi]
  have V:Jq [I 0]=some [I 0,I 0,I 0,I 0,I 0,I 0]:=Qx6 0;exact Zr3 (K:=kfP x a k u b v aA closed) (Zx1 D.x D.plan D.bF D.lag) (Z04 D.x ..) hO hG L hT V
 ·refine⟨⟨G,D.x,Qvu _ _ _ D.x.ok G⟩,D.plan,λg h=>(X g h).2,Y,?_,?_,?_,Znf M N⟩
  ·show(AF aA).aD.length<=1000000;omega
  ·exact U
  ·show i64 (As (AF aA).aF);unfold i64;omega
theorem Z6z {x:Ax3} (D:MachOK x a k u b v) {aA:List Itm} (M:aA.length<=15) {p0:Pt} (G:Items 4084 p0 aA) (closed:Bool):
  IT (AG x++[I a,I k,I u,I b,I v]++[.vC Ai (aA.map Af),B closed])=some (I 0::Ae (kfP x a k u b v aA closed) BT)/\KOK (kfP x a k u b v aA closed):=
 Q8o D M (T0 (by omega) G (show aA.length <= 20000 by omega)) (λj N D => by
  rcases G.made _ (Qoq N)with⟨-,g2,-,O,-⟩|g
  ·exact Zvd g2 O
  ·exact absurd D (H9 g)) (λit L T=>by
  rcases G.made it L with⟨-,-,g,-⟩|g
  ·rw[g.2.2.2.1];unfold i64;omega
  ·have:=g.spin T;unfold i64;omega) closed
end Go.Bm
namespace Go.Bm
structure Evn where
 (cycle aP n:Int)
abbrev evR (e:Evn):List AC:=[I e.cycle,I e.aP,I e.n]
theorem Q1f (E:List Evn) {i:Nat} (h:i<E.length):nth [] (E.map evR) (i:Int).toNat=evR E[i]:=by
 rw[af,E1 [] _ i (by rw[ac];exact h),fj]
theorem Zg5 {α:Type} (P:α->Bool) (E:List α) {i:Nat} (h:i<E.length):(E.take (i+1)).filter P=(E.take i).filter P++(if P E[i]=true then [E[i]]else []):=by
 rw[gv,List.filter_append,ag h];congr 1;by_cases c:P E[i]=true
 ·rw[ab c];simp[c]
 ·rw[aa c];simp[c]
theorem Zlj {P:Evn->Bool} {E:List Evn} (L:E.length<=1000000) {D:Lp} {enc:Rw->Nat->List AC}
  (G:∀(l:Rw) (i:Nat),i<=E.length->l.length<=i->D (enc l i)=if h:i<E.length then some (0,enc (l++(if P E[i]=true then [evR E[i]]else [])) (i+1))else some (1,[.vC kPt l])):
  Am D (enc [] 0)=some (1,[.vC kPt ((E.filter P).map evR)]):=by
 have key:Out (λo=>o=(1,[.vC kPt ((E.filter P).map evR)])) (Am D (enc [] 0)):=by
  refine Cd (λi:Nat=>enc (((E.take i).filter P).map evR) i) (λi=>i<=E.length) (λi=>E.length-i) _ ?_ 0 (by simp);intro i I;rw[G _ _ I (by rw[ac];exact cb (List.length_filter_le _ _) (by simp;omega))];by_cases h:i<E.length
  ·rw[jy h];refine .some (.inl ⟨rfl,i+1,?_,by omega,by omega⟩);rw[Zg5 P E h];by_cases c:P E[i]=true
   ·rw[ab c,ab c,bt];rfl
   ·rw[aa c,aa c,jb,jb]
  ·rw[dif_neg h];refine .some (.inr ⟨by simp,?_⟩);rw[jm (by omega)]
 obtain⟨o,h,rfl⟩:=key;exact h
theorem Zka {D MF:Fn} (G:I3 l D) (N:MF [.vC Aa l]=some [.vC Aa l,I 0]):
  ∃a b c:Int,Vq D MF [.vC Aa l]=some [I a,I b,I c]/\(1<=a/\a<=900)/\(2<=b/\b<=201)/\(1<=c/\c<=16000):=by
 obtain⟨v,M,g1,U,V,-⟩:=G 0 (n:=900) (by omega);obtain⟨w,O,g2,w0,X,-⟩:=G M (n:=200) (by omega);obtain⟨y,Y,T,y0,y1,-⟩:=G O (n:=16000) (by omega);have L:D [I 900, .vC Aa l,I 0]=some [I v, .vC Aa l,I M]:=g1;refine⟨1+v,2+w,1+y,?_,by omega,by omega,by omega⟩;rw[Zx6,N];simp only[am,gA,wA,bA,jA,F6,LM,JB,BQ];rw[L];simp only[am,F6,LM,JB];rw[g2];simp only[am,F6,LM,JB];rw[T];simp only[am,F6,LM,JB];rw[Ad (x:=1+v),Ad (x:=2+w),Ad (x:=1+y)]
theorem Zhr {D MP G MF:Fn} {l m:Rw} (L:I3 m D) (M:MF [.vC Aa m]=some [.vC Aa m,I 0]) {x:Ax3} (N:G [.vC Aa l]=some (AG x)) (O:Ax3M x) {a b c:Int} (T:MP [.vC Aa m]=some [I a,I b,I c]) (X:1<=a/\a<=900) (Y:2<=b/\b<=201) (h3:1<=c/\c<=16000) (U:m.length<=100000):
  ∃bF lag:Int,XN D MP G MF [.vC Aa l, .vC Aa m]=some (AG x++[I a,I b,I c,I bF,I lag])/\MachOK x a b c bF lag:=by
 obtain⟨k0,hk0⟩:∃k0:Nat,mn 3 (m.length:Int)=k0:=⟨(mn 3 (m.length:Int)).toNat,by unfold mn;split<;>omega⟩;obtain⟨v,V,g1,v0,v1,-⟩:=L k0 (n:=60000) (by omega);obtain⟨w,k2,g2,w0,w1,-⟩:=L V (n:=40) (by omega);refine⟨1+v,w,?_,⟨O,⟨by omega,by omega,by omega⟩,by omega,by omega⟩⟩;rw[Zxs,M,N,T];simp only[am,gA,wA,bA,jA,F6,LM,JB,BQ];rw[hk0,g1];simp only[am,F6,LM,JB];rw[g2];simp only[am,F6,LM,JB];rw[Ad (x:=1+v)];rfl
theorem Z29 (L:List (Rw)) (D:L.length<=1000):Out (λo=>o.1=1/\o.2=[B false]\/o.1=2/\∀l∈L,l.length<=60) (Am S9 [.vC [Kd.sl Aa] (L.map λl=>[.vC Aa l]),I L.length,I ((0:Nat):Int)]):=by
 refine Cd (λi:Nat=>[.vC [Kd.sl Aa] (L.map λl=>[.vC Aa l]),I L.length,I (i:Int)]) (λi=>i<=L.length/\∀l∈L.take i,l.length<=60) (λi=>L.length-i) _ ?_ 0 (by simp);rintro i ⟨N,G⟩;rw[Zyr];refine .cond (λc=> ?_) λc=> .some (.inr ⟨by simp, .inr ⟨rfl,?_⟩⟩)
 ·have c:(i:Int)<(L.length:Int):=Bg c;have M:i<L.length:=by omega
  refine .cond (λ_=> ?_) λe=>(inB (by omega) (by rw[ac];exact c) e).elim;rw[af,E1 [] _ i (by rw[ac];exact M),fj];refine .cond (λ_=> .some (.inr ⟨by simp, .inl ⟨rfl,rfl⟩⟩)) λq=> ?_;have q: ¬(L[i].length:Int)>60:=Bd q;rw[Ad (x:=(i:Int)+1)];refine .some (.inl ⟨rfl,i+1,rfl,⟨by omega,?_⟩,by omega⟩);intro l D;rw[gv,ag M]at D;rcases be.1 D with D|D
  ·exact G l D
  ·simp at D;subst D;omega
 ·have c: ¬(i:Int)<(L.length:Int):=Bd c;rw[jm (by omega)]at G;exact G
theorem Z2q {L:List (Rw)} (I:L.length<=1000):∃b:Bool,KE [.vC [Kd.sl Aa] (L.map λl=>[.vC Aa l])]=some [B b]/\(b=true->∀l∈L,l.length<=60):=by
 obtain⟨o,M,N⟩:=Z29 L I;have e:KE [.vC [Kd.sl Aa] (L.map λl=>[.vC Aa l])]=V3 (Am S9) [.vC [Kd.sl Aa] (L.map λl=>[.vC Aa l])]:=rfl;rw[e,Zxr,ac];rw[show(0:Int)=((0:Nat):Int)from rfl,M];obtain⟨o1,o2⟩:=o;rcases N with⟨D,G⟩|⟨D,G⟩
 ·dsimp only at D G;subst D G;exact⟨false,rfl,λh=>by cases h⟩
 ·dsimp only at D G;subst D;exact⟨true,rfl,λ_=>G⟩
abbrev Qvx:Itm:=⟨0,0,⟨0,0,0⟩,⟨0,0,0⟩,0,⟨0,0,0⟩,0,false,0,false,0,0,0,0,0,false⟩
def itK (K:Kf) (i:Int):Itm:=K.aA.getD i.toNat Qvx
def mkK (K:Kf) (i:Int):Mrk:=K.p.aD.getD i.toNat ⟨0,0,0⟩
theorem Rg (D:0<=a) (G:a<K.aA.length):nth [] (K.aA.map Af) a.toNat=Af (itK K a):=by
 have h:a.toNat<K.aA.length:=by omega
 rw[Zo6 K h];unfold itK;rw[List.getD,ag h];rfl
theorem Nw (D:0<=a) (G:a<K.p.aD.length):nth [] (K.p.aD.map Av) a.toNat=Av (mkK K a):=by
 have h:a.toNat<K.p.aD.length:=by omega
 rw[Z20 K h];unfold mkK;rw[List.getD,ag h];rfl
theorem Rc (h:KOK K) {i:Int} (G:0<=i) (I:i<K.p.aD.length):0<=(mkK K i).aU/\(mkK K i).aU<K.aA.length/\i64 (mkK K i).at_:=by
 have D:i.toNat<K.p.aD.length:=by omega
 unfold mkK;rw[List.getD,ag D];exact h.aD _ (ca D)
theorem inR {n:Nat} (D:0<=a) (G:a<(n:Int)):(decide (0<=a)&&decide (a<(n:Int)))=true:=by
 rw[ai D,ai G];rfl
theorem inM {β:Type} {f:β->List AC} {i:Int} {l:List β} (D:0<=i) (G:i<(l.length:Int)):(decide (0<=i)&&decide (i<((l.map f).length:Int)))=true:=inR D (by rw[ac];exact G)
def Ga (K:Kf) (c:Cv):Option Sgm:=K.p.aF[(Br K.p.aF (max (Bu K c) 0)).1]?
def vF (K:Kf) (c:Cv):Sgm:=(Ga K c).getD sg0
theorem VW {c:Cv} (h:Ga K c=some g):g∈K.p.aF:=da h
theorem Z23 {c:Cv} (G:Z (Ae K c)=some [I (Bu K c)])
  (L:M (Bl K.p++[I (Bu K c)])=if K.p.aF=[]then some [I (-1),I 0]else some [I (Br K.p.aF (max (Bu K c) 0)).1,I (Br K.p.aF (max (Bu K c) 0)).2]):
  Qob M Z (Ae K c)=some (AB (vF K c)++[B (Ga K c).isSome]):=by
 rw[Zil];refine eB G (dp (iz (λz=>Option.bind z _) (show M (Bl K.p++[I (Bu K c)])=_ from L)) ?_);by_cases e:K.p.aF=[]
 ·have e2:Ga K c=none:=by unfold Ga;rw[e];rfl
  unfold vF;rw[ab e,e2];rfl
 ·have D:=ZW K.p.aF (max (Bu K c) 0) e;have e2:Ga K c=some K.p.aF[(Br K.p.aF (max (Bu K c) 0)).1]:=ag D;unfold vF;rw[aa e,e2];refine eB rfl (eF (al (show¬((Br K.p.aF (max (Bu K c) 0)).1:Int)<0 by omega)) (eT (inM (f:=AB) (l:=K.p.aF) (i:=((Br K.p.aF (max (Bu K c) 0)).1:Int)) (by omega) (by omega)) ?_));have N:nth [] (K.p.aF.map AB) ((Br K.p.aF (max (Bu K c) 0)).1:Int).toNat=AB K.p.aF[(Br K.p.aF (max (Bu K c) 0)).1]:=by
   rw[af,E1 [] _ _ (by rw[ac];exact D),fj]
  show some (AT Ah (nth [] (K.p.aF.map AB) ((Br K.p.aF (max (Bu K c) 0)).1:Int).toNat)++[B true])=_;rw[N];rfl
theorem Q72 (h:KOK K) (c:Cv):G3 (Ae K c)=some (AB (vF K c)++[B (Ga K c).isSome]):=
 Z23 (Q7v h c) (Vj h.f.p.ok (UT h.f _))
def K8 (K:Kf) (c:Cv):Bool:=(Ga K c).isSome&&((itK K (vF K c).aU).aP==6&&c.y0==(vF K c).aU)
theorem Zcl {c:Cv} (h:KOK K) (I:M (Ae K c)=some (AB (vF K c)++[B (Ga K c).isSome])):U9 M (Ae K c)=some [B (K8 K c)]:=by
 rw[Zb0,I];unfold K8 vF;cases e:Ga K c with
 |none=>rfl
 |some g=>
  obtain⟨D,G,-⟩:=h.aF g (VW e);refine eB rfl (eT rfl (eT (inM (f:=Af) D G) ?_));show cond (gA (nth [] (K.aA.map Af) g.aU.toNat) 0==6) (some [B (c.y0==g.aU)]) (some [B false])=some [B (true&&((itK K g.aU).aP==6&&c.y0==g.aU))];rw[Rg D G];show cond ((itK K g.aU).aP==6) (some [B (c.y0==g.aU)]) (some [B false])=_;cases((itK K g.aU).aP==6)<;>rfl
theorem Zxu (h:KOK K) (c:Cv):Ml (Ae K c)=some [B (K8 K c)]:=Zcl h (Q72 h c)
def spV (c:Cv) (bF:Int):Int:=if c.s1<c.s2 then mn (V (c.s1+bF)) c.s2 else mx (V (c.s1-bF)) c.s2
def spS (c:Cv) (bF:Int):Cv:={c with s1:=spV c bF,s3:=V (c.s3+V (c.s0*spV c bF))}
theorem Zy6 (c:Cv) (bF:Int):K_ [I c.s0,I c.s1,I c.s2,I c.s3,I bF]=some [I (spS c bF).s0,I (spS c bF).s1,I (spS c bF).s2,I (spS c bF).s3]:=by
 show XC _=_;rw[Zrh];show _=some [I c.s0,I (spV c bF),I c.s2,I (V (c.s3+V (c.s0*spV c bF)))];unfold spV;by_cases h:c.s1<c.s2
 ·rw[Cj (ai h),ab h]
 ·rw[B4 (al h),aa h]
def BL (c:Cv):Bool:=c.m1==0&&(c.m2==0&&(c.m3==c.m0&&c.m4==c.m0))
theorem Zys (c:Cv):Ll [I c.m0,I c.m1,I c.m2,I c.m3,I c.m4,I c.m5]=some [B (BL c)]:=by
 show Qay _=_;rw[Zzi];unfold BL;cases(c.m1==0)<;>cases(c.m2==0)<;>cases(c.m3==c.m0)<;>rfl
def Qps (b:Bool) (n:Int):Bool:=if n=0 then false else if n=1 then true else b
def XP (k n:Int):Bool:=k==9||(k==8&&(decide (0<=n)&&decide (n<=2)))
def evC (c:Cv) (k n:Int):Cv:={c with
 o0:=if k=1/\0<=n/\n<=200 then n else c.o0
 o1:=if k=2/\0<=n/\n<=100 then n else c.o1
 o2:=if k=3\/k=11 then true else if k=4 then false else c.o2
 o3:=if k=5 then Qps c.o3 n else c.o3
 o4:=if k=6 then Qps c.o4 n else c.o4
 g0:=if k=10 then 2 else if k=11 then 0 else if XP k n=true then(if c.g0=2 then 2 else 1)else c.g0
 g1:=if k=10 then 22 else if k=11 then 0 else if XP k n=true/\c.g0≠2/\c.g1=0 then(if k=9 then 21 else 20)else c.g1
 g2:=if k=10 then-1 else if k=11 then-1 else if XP k n=true/\c.g0≠2/\c.g1=0 then(if k=9 then-1 else n)else c.g2
 aJ:=if k=4 then true else c.aJ}
end Go.Bm
noncomputable section
namespace Go.Bm
def one (M:Fn) (l:List AC):Int:=gA ((M l).getD []) 0
theorem Z0z {l:List AC} (h:M l=some [I v]):M l=some [I (one M l)]:=by
 unfold one;rw[h];rfl
def Dl (k:Int) (c:Cv):Bool:=k==1||(k==3||(k==6||(k==4&&(c.o4||c.o3)||k==2&&c.o3)))
theorem Qtq (at_ k it:Int) (c:Cv):Io [I at_,I k,I it,I c.o0,I c.o1,B c.o2,B c.o3,B c.o4]=some [B (Dl k c)]:=by
 show Qj6 _=_;rw[Z7g];unfold Dl;by_cases D:k=1
 ·subst D;rfl
 by_cases G:k=3
 ·subst G;rfl
 by_cases L:k=6
 ·subst L;rfl
 by_cases M:k=4
 ·subst M;cases c.o4<;>cases c.o3<;>rfl
 by_cases N:k=2
 ·subst N;cases c.o3<;>rfl
 simp[beF D,beF G,beF L,beF M,beF N]
def Fk (c:Cv) (known frm:Int):List Mrk->Nat->Int×Int
 |[],_=>(known,-1)
 |m::l,i=>if Dl m.aP c=true/\frm<=m.at_/\m.at_<=known then(m.at_,i)else Fk c known frm l (i+1)
def BW (K:Kf) (c:Cv) (known frm:Int):Int×Int:=Fk c known frm (K.p.aD.drop (max c.next 0).toNat) (max c.next 0).toNat
theorem Zf3 (V:K.p.aD.length<=1000000) (c:Cv) (X:∀at_ k it:Int,M [I at_,I k,I it,I c.o0,I c.o1,B c.o2,B c.o3,B c.o4]=some [B (Dl k c)]) (known frm:Int):
  Qd9 M (Am (RC M)) [.vC kPt (K.p.aD.map Av),I c.next,I c.o0,I c.o1,B c.o2,B c.o3,B c.o4,I known,I frm]=some [I (BW K c known frm).1,I (BW K c known frm).2]:=by
 rw[Zfq];have N:mx c.next 0=max c.next 0:=by unfold mx;split<;>omega
 have key:Out (λo=>(if o.1=1 then o.2=[I (BW K c known frm).1,I (BW K c known frm).2]else o.1=2/\o.2=[I (BW K c known frm).1]/\(BW K c known frm).2= -1)) (Am (RC M) [.vC kPt (K.p.aD.map Av),I known,I frm,I (max c.next 0),I c.o0,I c.o1,B c.o2,B c.o3,B c.o4]):=by
  refine Cd (λs:Int=>[.vC kPt (K.p.aD.map Av),I known,I frm,I s,I c.o0,I c.o1,B c.o2,B c.o3,B c.o4]) (λs=>0<=s/\BW K c known frm=Fk c known frm (K.p.aD.drop s.toNat) s.toNat) (λs=>(K.p.aD.length-s).toNat) _ ?_ (max c.next 0) ⟨by omega,rfl⟩;rintro i ⟨g,D⟩;rw[Zmg];refine .cond (λk=> ?_) λk=> ?_
  ·have k:i<((K.p.aD.map Av).length:Int):=Bg k;rw[ac]at k;have O:i.toNat<K.p.aD.length:=by omega
   rw[Ad (x:=i+1) (by have:=V;omega)];have em:mkK K i=K.p.aD[i.toNat]:=by unfold mkK;rw[List.getD,ag O];rfl
   rw[ik O,<-em]at D;unfold Fk at D;refine .cond (λ_=> ?_) λe=>(inB g (by rw[ac];exact k) e).elim;rw[Nw g k];refine .bind (p:=λo=>o=_) ⟨_,X _ _ _,rfl⟩ λo e=> ?_;subst e;have next:BW K c known frm=Fk c known frm (K.p.aD.drop (i.toNat+1)) (i.toNat+1)->Out (λo:Nat×List AC=>(o.1=0/\∃G:Int,o.2=[.vC kPt (K.p.aD.map Av),I known,I frm,I G,I c.o0,I c.o1,B c.o2,B c.o3,B c.o4]/\(0<=G/\BW K c known frm=Fk c known frm (K.p.aD.drop G.toNat) G.toNat)/\(K.p.aD.length-G).toNat<(K.p.aD.length-i).toNat)\/(o.1≠0/\(if o.1=1 then o.2=[I (BW K c known frm).1,I (BW K c known frm).2]else o.1=2/\o.2=[I (BW K c known frm).1]/\(BW K c known frm).2= -1))) (some (0,[.vC kPt (K.p.aD.map Av),I known,I frm,I (i+1),I c.o0,I c.o1,B c.o2,B c.o3,B c.o4])):=λe=>
    .some (.inl ⟨rfl,i+1,rfl,⟨by omega,by rw[e,show(i+1).toNat=i.toNat+1 by omega]⟩,by omega⟩)
   refine .cond (λa=> .cond (λb=> .cond (λd=> ?_) λd=> ?_) λb=> ?_) λa=> ?_
   ·have a:Dl (mkK K i).aP c=true:=a;have b:frm<=(mkK K i).at_:=Bg b;have d:(mkK K i).at_<=known:=Bg d;rw[ab ⟨a,b,d⟩]at D;refine .some (.inr ⟨by simp,?_⟩);rw[ab rfl,D];show [I (mkK K i).at_,I i]=[I (mkK K i).at_,I (i.toNat:Int)];rw[Int.toNat_of_nonneg g]
   ·have d: ¬(mkK K i).at_<=known:=Bd d;rw[aa (λh=>d h.2.2)]at D;exact next D
   ·have b: ¬frm<=(mkK K i).at_:=Bd b;rw[aa (λh=>b h.2.1)]at D;exact next D
   ·have a:Dl (mkK K i).aP c=false:=a;rw[aa (λh=>by rw[a]at h;cases h.1)]at D;exact next D
  ·have k: ¬i<((K.p.aD.map Av).length:Int):=Bd k;rw[ac]at k;rw[eu (by omega)]at D;refine .some (.inr ⟨by simp,?_⟩);rw[aa (by simp),D];exact⟨rfl,rfl,rfl⟩
 obtain⟨⟨o1,o2⟩,Y,L⟩:=key;rw[N];refine eB Y ?_;by_cases e:o1=1
 ·subst e;have L:o2=_:=L;subst L;rfl
 ·rw[aa e]at L;obtain⟨T,U,q3⟩:=L;dsimp only at T U;subst T U;rw[q3];rfl
theorem Z1w (h:KOK K) (c:Cv) (known frm:Int):PY [.vC kPt (K.p.aD.map Av),I c.next,I c.o0,I c.o1,B c.o2,B c.o3,B c.o4,I known,I frm]=some [I (BW K c known frm).1,I (BW K c known frm).2]:=
 Zf3 h.count c (λat_ k it=>Qtq at_ k it c) known frm
theorem Q1i {c:Cv} {known frm:Int} (D:i64 known):∀{l:List Mrk} {i:Nat},(∀m∈l,i64 m.at_)->i64 (Fk c known frm l i).1
 |[],_,_=>D
 |m::l,i,h=>by
  unfold Fk;split
  ·exact h m (by simp)
  ·exact Q1i D λq G=>h q (by simp[G])
theorem Q4p {c:Cv} {known frm:Int}:∀{l:List Mrk} {i:Nat},(Fk c known frm l i).2= -1\/((i:Int)<=(Fk c known frm l i).2/\(Fk c known frm l i).2<(i+l.length:Nat))
 |[],_=> .inl rfl
 |m::l,i=>by
  unfold Fk;split
  ·exact .inr ⟨cz _,by simp only[bp];omega⟩
  ·rcases Q4p (l:=l) (i:=i+1) (c:=c) (known:=known) (frm:=frm)with h|⟨D,G⟩
   ·exact .inl h
   ·exact .inr ⟨by omega,by simp only[bp];omega⟩
theorem Zsn {c:Cv} {known frm:Int}:(BW K c known frm).2= -1\/(0<=(BW K c known frm).2/\c.next<=(BW K c known frm).2/\(BW K c known frm).2<K.p.aD.length):=by
 unfold BW;rcases Q4p (c:=c) (known:=known) (frm:=frm) (l:=K.p.aD.drop (max c.next 0).toNat) (i:=(max c.next 0).toNat)with h|⟨G,D⟩
 ·exact .inl h
 ·rw[co]at D;exact .inr ⟨by omega,by omega,by omega⟩
def Sc (K:Kf) (c:Cv):Int:=one H8 [I K.pa,I K.pb,I K.pc,I c.m0,I c.m1,I c.m2,I c.m3,I c.m4,I c.m5]
def E2 (K:Kf):Int:=if K.closed=true then K.len else K.set
def DM (r:Int):Int:=V ((V (V (r+256)-1)).tdiv 256)
def H5 (K:Kf) (r:Int):Int:=if A4 K.t (AV K.t (DM r))≠DM r then V (AV K.t (DM r)+1)else AV K.t (DM r)
def AS (K:Kf) (c:Cv):Int×Int:=(A4 K.t (BW K c (E2 K) (H5 K (Sc K c))).1,(BW K c (E2 K) (H5 K (Sc K c))).2)
theorem Zf6 (K:Kf) (c:Cv):(AS K c).2= -1\/(0<=(AS K c).2/\c.next<=(AS K c).2/\(AS K c).2<K.p.aD.length):=Zsn
theorem Z3y (h:KOK K):i64 (E2 K):=by unfold E2;split;exact h.len;exact h.set
theorem Qr3 (h:KOK K) {c:Cv} {frm:Int}:i64 (BW K c (E2 K) frm).1:=by
 unfold BW;exact Q1i (Z3y h) λm D=>(h.aD m (dt D)).2.2
theorem Zfr {c:Cv} {b:Bool} (h:KOK K)
  (N:T [I K.pa,I K.pb,I K.pc,I c.m0,I c.m1,I c.m2,I c.m3,I c.m4,I c.m5]=some [I r,B b])
  (O:∀u,W (Bw K.t++[I u])=some [I (AV K.t u)]) (G:∀{z:Int},i64 z->Z (Bw K.t++[I z])=some [I (A4 K.t z)])
  (L:∀known frm,M [.vC kPt (K.p.aD.map Av),I c.next,I c.o0,I c.o1,B c.o2,B c.o3,B c.o4,I known,I frm]=some [I (BW K c known frm).1,I (BW K c known frm).2]):
  Zc M Z W T (Ae K c)=some (I (A4 K.t (BW K c (E2 K) (H5 K r)).1)::I (BW K c (E2 K) (H5 K r)).2::Ae K c):=by
 have key:∀known:Int,known=E2 K->T9 T K c W Z M (I known)=some (I (A4 K.t (BW K c (E2 K) (H5 K r)).1)::I (BW K c (E2 K) (H5 K r)).2::Ae K c):=λknown U=>by
  subst U;refine eB N (eB (O (DM r)) (eB (G (UT h.f _)) ?_));have e1:H5 K r=if A4 K.t (AV K.t (DM r))≠DM r then V (AV K.t (DM r)+1)else AV K.t (DM r):=rfl;by_cases D:A4 K.t (AV K.t (DM r))=DM r
  ·rw[aa (by simpa using D)]at e1;refine eF (bnF D) ?_;exact eB (L (E2 K) (AV K.t (DM r))) (by rw[<-e1];exact eB (G (Qr3 h)) rfl)
  ·rw[ab D]at e1;refine eT (bnT D) ?_;exact eB (L (E2 K) (V (AV K.t (DM r)+1))) (by rw[<-e1];exact eB (G (Qr3 h)) rfl)
 rw[Z8x];refine eC (λe=>key _ ?_) λe=>key _ ?_
 ·unfold E2;rw[ab e]
 ·unfold E2;rw[aa (by rw[e];simp)]
theorem Z12 {l:List AC} (h:Out (λo=>(wA o 0).length<=4096) (M l)) {G L N D O T U V X:Int} (e:l=[I G,I L,I N,I D,I O,I T,I U,I V,I X]):∃(r:Int) (b:Bool),Py M l=some [I r,B b]:=by
 subst e;have key:Out (λo=>∃(r:Int) (b:Bool),o=[I r,B b]) (Py M [I G,I L,I N,I D,I O,I T,I U,I V,I X]):=by
  rw[Q9c];refine .bind h λo g=> .cond (λ_=> .some ⟨0,false,rfl⟩) λ_=> ?_;generalize wA o 0=sp at*;refine .cond (λ_=> .some ⟨D,true,rfl⟩) λc=> .cond (λ_=> .some ⟨_,true,rfl⟩) λd=> ?_;have c: ¬((sp.length:Int)=0):=by simpa using c
  rw[Ad]at d;simp at d;omega
 obtain⟨o,Y,r,b,rfl⟩:=key;exact⟨r,b,Y⟩
theorem Ztq (D G L N O T U V X:Int):∃b:Bool,H8 [I D,I G,I L,I N,I O,I T,I U,I V,I X]=some [I (one H8 [I D,I G,I L,I N,I O,I T,I U,I V,I X]),B b]:=by
 obtain⟨r,b,h⟩:=Z12 (M:=EA) (Q93 D G L N O T U V X) rfl;have h:H8 [I D,I G,I L,I N,I O,I T,I U,I V,I X]=some [I r,B b]:=h;refine⟨b,?_⟩;unfold one;rw[h];rfl
theorem Zt3 (h:KOK K) (c:Cv):QN (Ae K c)=some (I (AS K c).1::I (AS K c).2::Ae K c):=by
 obtain⟨b,hb⟩:=Ztq K.pa K.pb K.pc c.m0 c.m1 c.m2 c.m3 c.m4 c.m5;exact Zfr h hb (Rv h.f.t.q) (λD=>Zgd h.f.t.q D) (Z1w h c)
def Qhm (c:Cv) (v:Int):Cv:={c with m0:=V (c.m0+v),m1:=v,m2:=V (v-c.m1),m3:=c.m0,m4:=c.m3,m5:=c.m4}
def Ej (K:Kf) (c:Cv) (l:Int):Cv:=Qhm c (nxV K c l)
theorem Qiz {c:Cv} {n:Int} (h:KOK K) (g:Gd K n c) (l:Int):
  Fa (nxL K c l)=some (Gy c.m0 c.m1 c.m3 c.m4 (nxV K c l))/\((AO K.pa K.pb (nxV K c l) (V (nxV K c l-c.m1))).2=true\/∃r:Int,nxV K c l=V (c.m1+r)/\r=AJ K.pa K.pb c.m1 c.m2):=by
 obtain⟨o,D,v,rfl,G⟩:=Zxe h g.mo l c.o2;have D:Fa (nxL K c l)=some (Gy c.m0 c.m1 c.m3 c.m4 v):=D;have e:nxV K c l=v:=by unfold nxV;rw[D];rfl
 rw[e];exact⟨D,G⟩
theorem Zb1 {c:Cv} (h:M (nxL K c a)=some (Gy c.m0 c.m1 c.m3 c.m4 v)):Qol M (I a::Ae K c)=some (Ae K (Qhm c v)):=by
 rw[Zgz];exact eB h rfl
theorem Zty {c:Cv} {n:Int} (h:KOK K) (g:Gd K n c) (l:Int):QJ (I l::Ae K c)=some (Ae K (Ej K c l)):=Zb1 (Qiz h g l).1
theorem Qus {c:Cv} {n:Int} (h:KOK K) (g:Gd K n c) (D:0<=n/\n<=10000) (l:Int):Gd K (n+1) (Ej K c l):=g.bC h D (Qiz h g l).2
def OV (c:Cv):Cv:={c with next:=V (c.idx+1),on:=false,idx:=0,aN:=false,cnt:=0}
def U1 (c:Cv) (n sp:Int):List AC:=(Pz [I c.s0,I c.s1,I c.s2,I c.s3,I n,I sp]).getD []
def Vo (c:Cv) (n sp:Int):Cv:={c with s0:=gA (U1 c n sp) 0,s1:=gA (U1 c n sp) 1,s2:=gA (U1 c n sp) 2,s3:=gA (U1 c n sp) 3}
def Z44 (c:Cv) (n sp:Int):Bool:=bA ((Pv [I c.s0,I c.s1,I c.s2,I c.s3,I n,I sp]).getD []) 0
def Qak (K:Kf) (c:Cv):Int×Cv:=
 if c.aN=true then(if c.cnt>1/\c.aJ=true then(3,OV c)else(2,c))
 else if(mkK K c.idx).aP≠3 then(3,OV c)
 else if(itK K (mkK K c.idx).aU).aP=7 then(if c.cnt<(itK K (mkK K c.idx).aU).n then(3,c)else(3,OV c))
 else if(itK K (mkK K c.idx).aU).aP=8 then(if Z44 (Vo c (itK K (mkK K c.idx).aU).n (itK K (mkK K c.idx).aU).aS) (itK K (mkK K c.idx).aU).n (itK K (mkK K c.idx).aU).aS=true then(3,OV (Vo c (itK K (mkK K c.idx).aU).n (itK K (mkK K c.idx).aU).aS))else(3,Vo c (itK K (mkK K c.idx).aU).n (itK K (mkK K c.idx).aU).aS))
 else if(itK K (mkK K c.idx).aU).aP=14 then(7,{c with aI:=7})else(3,OV c)
def MJ (c:Cv):Cv:={c with cnt:=V (c.cnt+1)}
def Ir (K:Kf) (c:Cv):Int×Cv:=Qak K (MJ c)
theorem Zuv {l:Option (List AC)} (h:l.isSome=true):l=some (l.getD []):=by
 cases l with
 |none=>cases h
 |some o=>rfl
def Eg (K:Kf) (c:Cv) (i:Int):Bool:=
 if(mkK K i).aP=1\/(mkK K i).aP=2\/(mkK K i).aP=6 then c.o3 else if(mkK K i).aP=4 then true
 else if(mkK K i).aP=3 then((itK K (mkK K i).aU).aP==11||(itK K (mkK K i).aU).aP==12)else false
def E7 (K:Kf) (c:Cv) (i:Int):Int×Cv:=Ir K {c with on:=true,idx:=i,aN:=Eg K c i,cnt:=0}
theorem Zz6 {c:Cv} (h:KOK K) (N:0<=a) (O:a<K.p.aD.length)
  (V:M (Ae K {c with on:=true,idx:=a,aN:=Eg K c a,cnt:=0})=some (I (Ir K {c with on:=true,idx:=a,aN:=Eg K c a,cnt:=0}).1::Ae K (Ir K {c with on:=true,idx:=a,aN:=Eg K c a,cnt:=0}).2)):
  Qfl M (I a::Ae K c)=some (I (E7 K c a).1::Ae K (E7 K c a).2):=by
 rw[Z8u];have G:=Rc h N O;unfold E7;refine eT (inM (f:=Av) N O) ?_;rw[Nw N O];have fin:∀{w:Bool} {f:List AC->List AC},w=Eg K c a->(∀(m:Int) (c:Cv),f (I m::Ae K c)=I m::Ae K c)->((M (Ae K {c with on:=true,idx:=a,aN:=w,cnt:=0})).bind λo=>some (f o))=some (I (Ir K {c with on:=true,idx:=a,aN:=Eg K c a,cnt:=0}).1::Ae K (Ir K {c with on:=true,idx:=a,aN:=Eg K c a,cnt:=0}).2):=λL hf=>by
  subst L;refine eB V ?_;rw[hf]
 have ne:∀{n:Int},(gA (Av (mkK K a)) 1==n)=false->(mkK K a).aP≠n:=λe=>by simpa [gA,nth,Ag]using e
 have D:∀{n:Int},(gA (Av (mkK K a)) 1==n)=true->(mkK K a).aP=n:=λe=>eq_of_beq e;refine eC (λe=>fin (by unfold Eg;rw[ab (.inl (D e))]) λ_ _=>rfl) λX=> ?_;refine eC (λe=>fin (by unfold Eg;rw[ab (.inr (.inl (D e)))]) λ_ _=>rfl) λY=> ?_;refine eC (λe=>fin (by unfold Eg;rw[ab (.inr (.inr (D e)))]) λ_ _=>rfl) λn6=> ?_;have T: ¬((mkK K a).aP=1\/(mkK K a).aP=2\/(mkK K a).aP=6):=by
  intro q;rcases q with q|q|q
  ·exact ne X q
  ·exact ne Y q
  ·exact ne n6 q
 refine eC (λe=>fin (by unfold Eg;rw[aa T,ab (D e)]) λ_ _=>rfl) λU=> ?_;refine eC (λe=> ?_) λn3=>fin (by unfold Eg;rw[aa T,aa (ne U),aa (ne n3)]) λ_ _=>rfl;refine eT (inM (f:=Af) (l:=K.aA) (i:=(mkK K a).aU) G.1 G.2.1) ?_;have er:nth [] (K.aA.map Af) (gA (Av (mkK K a)) 2).toNat=Af (itK K (mkK K a).aU):=Rg G.1 G.2.1;rw[er];have L:Eg K c a=((itK K (mkK K a).aU).aP==11||(itK K (mkK K a).aU).aP==12):=by unfold Eg;rw[aa T,aa (ne U),ab (D e)]
 refine eC (λk=>fin (by rw[L,show((itK K (mkK K a).aU).aP==11)=true from k];rfl) λ_ _=>rfl) λk=>fin (by rw[L,show((itK K (mkK K a).aU).aP==11)=false from k];rfl) λ_ _=>rfl
def Li (c:Cv):Cv:=if c.g0=0 then{c with o2:=true,g0:=1,g1:=18,g2:= -1}else c
theorem Zes (K:Kf) (c:Cv):IY (Ae K c)=some (Ae K (Li c)):=Zs7 K c
def Qvj (c:Cv):Int:=one Zt4 [I c.before,I c.s0]
def goC (K:Kf) (c:Cv) (g:Sgm):Cv:={c with y0:=g.aU,y1:=Bu K c,y2:=c.s3,e0:=1,e1:=c.m0,e2:=Qvj c,e3:=0}
def Zlx (K:Kf) (c:Cv) (g:Sgm):Bool:=(itK K g.aU).aP==6||(c.s1 !=0&& !decide (V (V (c.s3-Qvj c)*c.s0)<0))
def Z5i (aX way:Int):Int:=one Zqq [I aX,I way]
def Zit (K:Kf) (d:Cv) (g:Sgm):Int:=V (d.y2+V (V ((if(itK K g.aU).n=3 then 1 else-1)*Z5i g.aX (V (Bu K d-d.y1)))*256))
def Zwg (K:Kf) (c:Cv) (l:Int) (g:Sgm):Cv:={Ej K c l with s3:=Zit K (Ej K c l) g}
def thL (K:Kf) (c:Cv) (l aX:Int):List AC:=pxt K.p K.x K.t [I K.pa,I K.pb,I K.pc,I c.o0,I c.o1,B c.o2,B c.o3,B c.o4,I c.m0,I c.m1,I c.m2,I c.m3,I c.m4,I c.m5,I l,I aX,I c.e0,I c.e1,I c.e2,I c.e3,I c.before,I c.s3]
def thO (K:Kf) (c:Cv) (l aX:Int):List AC:=(Zfb (thL K c l aX)).getD []
def Qts (c:Cv) (o:List AC):Cv:={Qhm c (gA o 1)with e0:=gA o 6,e1:=gA o 7,e2:=gA o 8,e3:=gA o 9}
def Z79 (K:Kf) (c:Cv) (l aX:Int):Cv:=
 if c.g0≠0 then{Ej K c l with e0:=3}else if gA (thO K c l aX) 10≠0 then Li (Qts c (thO K c l aX))else Qts c (thO K c l aX)
def Q88 (K:Kf) (c:Cv) (l:Int) (g:Sgm):Cv:=if(itK K g.aU).aP=6 then Zwg K c l g else Z79 K c l g.aX
def LA (K:Kf) (c:Cv) (l:Int):Cv:=
 if(vF K c).aX=0\/(c.o2=true/\c.y0≠(vF K c).aU)then Ej K c l
 else if c.y0=(vF K c).aU then Q88 K c l (vF K c)
 else if Zlx K c (vF K c)=true then Q88 K (goC K c (vF K c)) l (vF K c)
 else if c.s1=0 then Li c else c
def BP (K:Kf) (c:Cv):Int×Cv:=
 if c.aM=true/\c.m0=V ((AS K c).1*256)then
  (if 0 <= (AS K c).2 then
   (if(mkK K (AS K c).2).aU=(E7 K c (AS K c).2).2.y0/\(itK K (mkK K (AS K c).2).aU).aP=5/\(E7 K c (AS K c).2).2.e0=1 then((E7 K c (AS K c).2).1,Li (E7 K c (AS K c).2).2)else E7 K c (AS K c).2)
  else if K.closed=true then(7,{c with aI:=7})else(1,c))
 else(if c.g0≠0/\c.aM=true then 6 else 1,LA K c (AS K c).1)
theorem Yae {c:Cv} (h:KOK K) (N:(AS K c).2= -1\/0<=(AS K c).2/\c.next<=(AS K c).2/\(AS K c).2<K.p.aD.length)
  (hL:T (Ae K c)=some (I (AS K c).1::I (AS K c).2::Ae K c)) (hB:0<=(AS K c).2->(AS K c).2<K.p.aD.length->W (I (AS K c).2::Ae K c)=some (I (E7 K c (AS K c).2).1::Ae K (E7 K c (AS K c).2).2))
  (hF:∀c,Z (Ae K c)=some (Ae K (Li c))) (O: ¬(c.aM=true/\c.m0=V ((AS K c).1*256))->M (I (AS K c).1::Ae K c)=some (Ae K (LA K c (AS K c).1))):
  XA M Z W T (Ae K c)=some (I (BP K c).1::Ae K (BP K c).2):=by
 rw[Zyj];unfold BP;generalize LA K c (AS K c).1=mv at*;have a1:=hB;generalize hb:E7 K c (AS K c).2=G at*;clear hb;generalize AS K c=D at*;refine eB hL ?_;have L:∀{a:Prop} [Decidable a],¬(c.aM=true/\c.m0=V (D.1*256))->∀{x:Option (List AC)},x=some (I (if c.g0≠0/\c.aM=true then 6 else 1)::Ae K mv)->
   x=some (I (if c.aM=true/\c.m0=V (D.1*256)then(if 0<=D.2 then(if(mkK K D.2).aU=G.2.y0/\(itK K (mkK K D.2).aU).aP=5/\G.2.e0=1 then(G.1,Li G.2)else G)else if K.closed=true then(7,{c with aI:=7})else(1,c))else(if c.g0≠0/\c.aM=true then 6 else 1,mv)).1::Ae K (if c.aM=true/\c.m0=V (D.1*256)then(if 0<=D.2 then(if(mkK K D.2).aU=G.2.y0/\(itK K (mkK K D.2).aU).aP=5/\G.2.e0=1 then(G.1,Li G.2)else G)else if K.closed=true then(7,{c with aI:=7})else(1,c))else(if c.g0≠0/\c.aM=true then 6 else 1,mv)).2):=λhn _ hx=>by
  rw[aa hn];exact hx
 refine eC (λs=>eC (λe=> ?_) λe=> ?_) λs=> ?_
 ·have s:c.aM=true:=s;have e:c.m0=V (D.1*256):=eq_of_beq e;rw[ab ⟨s,e⟩];refine eC (λk=> ?_) λk=> ?_
  ·have k:0<=D.2:=Bg k;rw[ab k];have U:D.2<K.p.aD.length:=by
    rcases N with N|N
    ·omega
    ·exact N.2.2
   have X:=Rc h k U;refine eB (hB k U) (eT (inM (f:=Av) k U) ?_);have Y:nth [] (K.p.aD.map Av) D.2.toNat=Av (mkK K D.2):=Nw k U;have a0:nth [] (K.aA.map Af) (mkK K D.2).aU.toNat=Af (itK K (mkK K D.2).aU):=Rg X.1 X.2.1;refine eC (λy=> ?_) λy=> ?_
   ·have y:(mkK K D.2).aU=G.2.y0:=by
     have:=eq_of_beq (show(gA (nth [] (K.p.aD.map Av) D.2.toNat) 2==G.2.y0)=true from y);rw[Y]at this;exact this
    refine eT (show(decide (0<=gA (nth [] (K.p.aD.map Av) D.2.toNat) 2)&&decide (gA (nth [] (K.p.aD.map Av) D.2.toNat) 2<((K.aA.map Af).length:Int)))=true by rw[Y];exact inM (f:=Af) (l:=K.aA) (i:=(mkK K D.2).aU) X.1 X.2.1) ?_;have ek:gA (nth [] (K.aA.map Af) (gA (nth [] (K.p.aD.map Av) D.2.toNat) 2).toNat) 0=(itK K (mkK K D.2).aU).aP:=by
     rw[Y];show gA (nth [] (K.aA.map Af) (mkK K D.2).aU.toNat) 0=_;rw[a0];rfl
    refine eC (λq=> ?_) λq=> ?_
    ·have q:(itK K (mkK K D.2).aU).aP=5:=by rw[<-ek];exact eq_of_beq q
     refine eC (λz=> ?_) λz=> ?_
     ·have z:G.2.e0=1:=eq_of_beq z;rw[ab ⟨y,q,z⟩];exact eB (hF G.2) rfl
     ·have z:G.2.e0≠1:=λe=>by have:(G.2.e0==1)=false:=z;rw[beT e]at this;cases this
      rw[aa (λw=>z w.2.2)];rfl
    ·have q:(itK K (mkK K D.2).aU).aP≠5:=λe=>by
      have:(gA (nth [] (K.aA.map Af) (gA (nth [] (K.p.aD.map Av) D.2.toNat) 2).toNat) 0==5)=false:=q;rw[ek,beT e]at this;cases this
     rw[aa (λw=>q w.2.1)];rfl
   ·have y:(mkK K D.2).aU≠G.2.y0:=λe=>by
     have:(gA (nth [] (K.p.aD.map Av) D.2.toNat) 2==G.2.y0)=false:=y;rw[Y]at this;rw[show(gA (Av (mkK K D.2)) 2==G.2.y0)=true from beT e]at this;cases this
    rw[aa (λw=>y w.1)];rfl
  ·have k: ¬0<=D.2:=Bd k;rw[aa k];refine eC (λq=> ?_) λq=> ?_
   ·rw[ab (show K.closed=true from q)];rfl
   ·rw[aa (show¬K.closed=true by rw[show K.closed=false from q];simp)];rfl
 ·have e:c.m0≠V (D.1*256):=λe'=>by
   have:(c.m0==V (D.1*256))=false:=e;rw[beT e']at this;cases this
  refine L (a:=True) (λw=>e w.2) ?_;refine eC (λq=> ?_) λq=> ?_
  ·have q:c.g0≠0:=λe=>by
    have:(c.g0 !=0)=true:=q;rw[bnF e]at this;cases this
   refine eB (O λw=>e w.2) (eT (show c.aM=true from s) ?_);rw[ab ⟨q,show c.aM=true from s⟩];rfl
  ·have q:c.g0=0:=dk λe=>by
    have:(c.g0 !=0)=false:=q;rw[bnT e]at this;cases this
   refine eB (O λw=>e w.2) ?_;rw[aa (λw=>w.1 q)];rfl
 ·have s:c.aM=false:=s;refine L (a:=True) (λw=>by rw[s]at w;cases w.1) ?_;refine eC (λq=> ?_) λq=> ?_
  ·refine eB (O λw=>by rw[s]at w;cases w.1) (eF (show c.aM=false from s) ?_);rw[aa (λw=>by rw[s]at w;cases w.2)];rfl
  ·refine eB (O λw=>by rw[s]at w;cases w.1) ?_;rw[aa (λw=>by rw[s]at w;cases w.2)];rfl
def swI (s:Int) (it:Itm):Int:=one Ku (I s::Af it)
theorem Zv3 (s:Int) (it:Itm):Ku (I s::Af it)=some [I (swI s it)]:=by
 have key:∃v,Ku (I s::Af it)=some [I v]:=by
  show∃v,Qke (I s::Af it)=some [I v];rw[Z87];by_cases D:it.aP=10
  ·rw[B4 (bnF D)];by_cases G:it.n<0
   ·rw[Cj (ai G)];exact⟨_,rfl⟩
   ·rw[B4 (al G)];by_cases L:it.n>=16
    ·rw[Cj (ai L)];exact⟨_,rfl⟩
    ·rw[B4 (al L),B4 (al (by simp[V,IntKind.wrap,IntKind.signed,IntKind.bits];omega))];cases it.on<;>exact⟨_,rfl⟩
  ·rw[Cj (bnT D)];exact⟨_,rfl⟩
 obtain⟨v,h⟩:=key;exact Z0z h
def Ep (K:Kf) (s:Int):List Mrk->Cv->List Int×Cv
 |[],c=>([],c)
 |m::l,c=>if m.at_>s\/(m.at_=s/\c.next<=c.aK/\Dl m.aP c=true)then([],c)
  else if m.aP=5 then(m.aU::(Ep K s l {c with outs:=swI c.outs (itK K m.aU),aK:=c.aK+1}).1,(Ep K s l {c with outs:=swI c.outs (itK K m.aU),aK:=c.aK+1}).2)
  else Ep K s l {c with aK:=c.aK+1}
def Cl (K:Kf) (c:Cv) (s:Int):List Int×Cv:=Ep K s (K.p.aD.drop c.aK.toNat) c
theorem Z4z {c:Cv} (h:KOK K) (Y:0<=c.aK/\c.aK<=K.p.aD.length) (s:Int)
  (hA:∀(c:Cv) (at_ k it:Int),Z [I at_,I k,I it,I c.o0,I c.o1,B c.o2,B c.o3,B c.o4]=some [B (Dl k c)]) (hS:∀(s:Int) (it:Itm),M (I s::Af it)=some [I (swI s it)]):
  Qnl M Z (Am (RM M Z)) (I s::Ae K c)=some (.vC Aa ((Cl K c s).1.map Aj)::Ae K (Cl K c s).2):=by
 rw[Z98];have key:Out (λo=>o=(1, .vC Aa ((Cl K c s).1.map Aj)::Ae K (Cl K c s).2)) (Am (RM M Z) (.vC Aa (([]:List Int).map Aj)::I s::Ae K c)):=by
  have hc:=h.count;refine Cd (λz:List Int×Cv=> .vC Aa (z.1.map Aj)::I s::Ae K z.2)
   (λz=>0<=z.2.aK/\z.2.aK<=K.p.aD.length/\(z.1.length:Int)<=z.2.aK/\(Cl K c s).1=z.1++(Ep K s (K.p.aD.drop z.2.aK.toNat) z.2).1/\(Cl K c s).2=(Ep K s (K.p.aD.drop z.2.aK.toNat) z.2).2)
   (λz=>(K.p.aD.length-z.2.aK).toNat) _ ?_ ([],c) ⟨Y.1,Y.2,by simp;omega,rfl,rfl⟩
  rintro⟨l,d⟩ ⟨g1,g2,g3,G,L⟩;dsimp only at g1 g2 g3 G L;refine Out.eqv (Znu M Z _ _ K d) ?_;refine .cond (λk=> ?_) λk=> ?_
  ·have k:d.aK<((K.p.aD.map Av).length:Int):=Bg k;rw[ac]at k;have hi:d.aK.toNat<K.p.aD.length:=by omega
   have em:mkK K d.aK=K.p.aD[d.aK.toNat]:=by unfold mkK;rw[List.getD,ag hi];rfl
   have N:=Rc h g1 k;rw[ik hi,<-em]at G L;unfold Ep at G L;refine .cond (λ_=> ?_) λe=>(inB g1 (by rw[ac];exact k) e).elim;rw[Nw g1 k];generalize T:mkK K d.aK=m at*;have wp:V (d.aK+1)=d.aK+1:=Ad;have O:(d.aK+1).toNat=d.aK.toNat+1:=by omega
   have stop:(m.at_>s\/(m.at_=s/\d.next<=d.aK/\Dl m.aP d=true))->∀{x:List AC},x= .vC Aa (l.map Aj)::Ae K d->Out (λo:Nat×List AC=>(o.1=0/\∃D:List Int×Cv,o.2= .vC Aa (D.1.map Aj)::I s::Ae K D.2/\(0<=D.2.aK/\D.2.aK<=K.p.aD.length/\(D.1.length:Int)<=D.2.aK/\(Cl K c s).1=D.1++(Ep K s (K.p.aD.drop D.2.aK.toNat) D.2).1/\(Cl K c s).2=(Ep K s (K.p.aD.drop D.2.aK.toNat) D.2).2)/\(K.p.aD.length-D.2.aK).toNat<(K.p.aD.length-d.aK).toNat)\/(o.1≠0/\o=(1, .vC Aa ((Cl K c s).1.map Aj)::Ae K (Cl K c s).2))) (some (1,x)):=λU _ hx=>by
    rw[ab U]at G L;subst hx;refine .some (.inr ⟨by simp,?_⟩);rw[G,L,jb]
   have X: ¬(m.at_>s\/(m.at_=s/\d.next<=d.aK/\Dl m.aP d=true))->Out (λo:Nat×List AC=>(o.1=0/\∃D:List Int×Cv,o.2= .vC Aa (D.1.map Aj)::I s::Ae K D.2/\(0<=D.2.aK/\D.2.aK<=K.p.aD.length/\(D.1.length:Int)<=D.2.aK/\(Cl K c s).1=D.1++(Ep K s (K.p.aD.drop D.2.aK.toNat) D.2).1/\(Cl K c s).2=(Ep K s (K.p.aD.drop D.2.aK.toNat) D.2).2)/\(K.p.aD.length-D.2.aK).toNat<(K.p.aD.length-d.aK).toNat)\/(o.1≠0/\o=(1, .vC Aa ((Cl K c s).1.map Aj)::Ae K (Cl K c s).2))) (O9 K d (l.map Aj) M s):=λU=>by
    rw[aa U]at G L;unfold O9;rw[Nw g1 k,T,wp];refine .cond (λq=> ?_) λq=> ?_
    ·have q:m.aP=5:=eq_of_beq q;rw[ab q]at G L;refine .cond (λ_=> ?_) λe=>by rw[BF (by simp;omega)]at e;cases e
     refine .cond (λ_=> ?_) λe=>(inB (show 0<=gA (Av m) 2 from N.1) (show gA (Av m) 2<((K.aA.map Af).length:Int) by rw[ac];exact N.2.1) e).elim;rw[show nth [] (K.aA.map Af) (gA (Av m) 2).toNat=Af (itK K m.aU)from Rg N.1 N.2.1];refine .bind (p:=λo=>o=_) ⟨_,hS d.outs (itK K m.aU),rfl⟩ λo e=> ?_;subst e;refine .some (.inl ⟨rfl,(l++[m.aU],{d with outs:=swI d.outs (itK K m.aU),aK:=d.aK+1}),?_,⟨by dsimp only;omega,by dsimp only;omega,by simp;omega,?_,?_⟩,by dsimp only;omega⟩)
     ·rw[bt];rfl
     ·dsimp only;rw[G,O];simp
     ·dsimp only;rw[L,O]
    ·have q:m.aP≠5:=by simpa [gA,nth,Ag]using q
     rw[aa q]at G L;refine .some (.inl ⟨rfl,(l,{d with aK:=d.aK+1}),rfl,⟨by dsimp only;omega,by dsimp only;omega,by dsimp only;omega,?_,?_⟩,by dsimp only;omega⟩)
     ·dsimp only;rw[G,O]
     ·dsimp only;rw[L,O]
   refine .cond (λa=>stop (.inl (Bg a)) rfl) λa=> ?_;have a: ¬m.at_>s:=Bd a;refine .cond (λb=> .cond (λe=> ?_) λe=>X λw=> ?_) λb=>X λw=> ?_
   ·refine .bind (p:=λo=>o=_) ⟨_,hA d _ _ _,rfl⟩ λo q=> ?_;subst q;refine .cond (λq=>stop (.inr ⟨eq_of_beq b,Bg e,q⟩) rfl) λq=>X λw=> ?_;have q:Dl m.aP d=false:=q;rcases w with w|w
    ·exact a w
    ·rw[q]at w;cases w.2.2
   ·rcases w with w|w
    ·exact a w
    ·exact Bd e w.2.1
   ·rcases w with w|w
    ·exact a w
    ·have:(m.at_==s)=false:=b;rw[beT w.1]at this;cases this
  ·have k: ¬d.aK<((K.p.aD.map Av).length:Int):=Bd k;rw[ac]at k;rw[eu (by omega)]at G L;refine .some (.inr ⟨by simp,?_⟩);rw[G,L];simp[Ep]
 obtain⟨o,h1,rfl⟩:=key;exact eB h1 rfl
theorem Zlp {c:Cv} (h:KOK K) (D:0<=c.aK/\c.aK<=K.p.aD.length) (s:Int):PF (I s::Ae K c)=some (.vC Aa ((Cl K c s).1.map Aj)::Ae K (Cl K c s).2):=
 Z4z h D s (λc at_ k it=>Qtq at_ k it c) Zv3
def PI (K:Kf) (c:Cv):Int×Cv:=
 if c.g0=2 then(6,stand c)else if c.aI≠0 then(c.aI,c)
 else if c.aH=true/\c.aM=true then(8,{c with aI:=8})else if c.on=true then Ir K c else(0,c)
abbrev F0 (K:Kf) (frm i:Int) (c:Cv):List AC:=I frm::I 5::I i::(Ht++(Ht++Ae K c))
abbrev X_ (K:Kf) (frm mode:Int) (c:Cv):List AC:=I frm::(Ht++([.vC kPt [], .vC Aa [],I mode,I 0,I 0,I 0,I 0,I 0,I 0]++Ae K c))
abbrev DY (c:Cv):Cv:={c with aJ:=false,aL:=false}
def SK (c:Cv) (E:List Evn):Cv:=E.foldl (λc e=>evC c e.aP e.n) (DY c)
def Mi (K:Kf) (frm u:Int):Rw:=wA ((K6 (pxt K.p K.x K.t [I frm,I u])).getD []) 0
theorem Z0g (h:KOK K) (frm u:Int) (D:u-frm<=1000000000000):Out (λo=>wA o 0=Mi K frm u) (K6 (pxt K.p K.x K.t [I frm,I u])):=
 ⟨_,Zuv (Z8q h.f frm u D),rfl⟩
abbrev H_ (K:Kf) (c:Cv):Pt:=CR K.p K.x K.t (Bk c)
theorem Z9c {D G L M MU:Fn} {c:Cv} (O:c.way=0) (T:c.aL=false) {frm mode:Int}
  (U:MU (Ae K c)=some [I (Bk c)]) (V:M (Ae K c)=some [I (Bu K c)]) (hB:Out (λo=>wA o 0=Mi K frm (Bk c)) (L (pxt K.p K.x K.t [I frm,I (Bk c)])))
  (N:∀s,G (I s::Ae K c)=some (.vC Aa ((Cl K c s).1.map Aj)::Ae K (Cl K c s).2)) (X:∀s,∃n q:Int,(Cl K c s).2={c with aK:=n,outs:=q}) (Y:∀u,D (pxt K.p K.x K.t [I u])=some (ptR (CR K.p K.x K.t u))):
  V5 D G L M MU (I frm::(Ae K c++[.vC kPt [], .vC Aa [],I mode,I 0,I 0,I 0,I 0,I 0,I 0]))=
   some (Ae K (Cl K c (Bu K c)).2++La (Mi K frm (Bk c)) ((Cl K c (Bu K c)).1.map Aj) mode (Bu K c) (H_ K c) c.s3 c.g1):=by
 refine dp (Zxl D G L M MU frm [] [] mode 0 0 0 0 0 0 K c) ?_;obtain⟨o,hB,ho⟩:=hB;rw[<-ho];refine eB U (eB V (eT (show(!c.aL)=true by rw[T];rfl) (eB hB (eT (show(c.way==0)=true from beT O) ?_))));have N:=N (Bu K c);obtain⟨n,q,hq⟩:=X (Bu K c);generalize Cl K c (Bu K c)=ps at*;refine eB N ?_;rw[hq];refine eB (Y (Bk c)) ?_;rw[show H_ K c=CR K.p K.x K.t (Bk c)from rfl];generalize CR K.p K.x K.t (Bk c)=mt;rfl
theorem Qf4 (K:Kf) (s:Int):∀(l:List Mrk) (c:Cv),∃n q:Int,(Ep K s l c).2={c with aK:=n,outs:=q}
 |[],c=>⟨c.aK,c.outs,rfl⟩
 |m::l,c=>by
  unfold Ep;split
  ·exact⟨c.aK,c.outs,rfl⟩
  ·split
   ·obtain⟨n,q,h⟩:=Qf4 K s l {c with outs:=swI c.outs (itK K m.aU),aK:=c.aK+1};exact⟨n,q,h⟩
   ·obtain⟨n,q,h⟩:=Qf4 K s l {c with aK:=c.aK+1};exact⟨n,q,h⟩
theorem Q6i (K:Kf) (c:Cv) (s:Int):∃n q:Int,(Cl K c s).2={c with aK:=n,outs:=q}:=Qf4 K s _ c
theorem Zks {c:Cv} {n:Int} (h:KOK K) (g:Gd K n c) (D:0<=n/\n<=10010) (G:c.aL=false) {frm mode:Int} (hf: -300000000000<=frm/\frm<=300000000000):
  KS (I frm::(Ae K c++[.vC kPt [], .vC Aa [],I mode,I 0,I 0,I 0,I 0,I 0,I 0]))=
   some (Ae K (Cl K c (Bu K c)).2++La (Mi K frm (Bk c)) ((Cl K c (Bu K c)).1.map Aj) mode (Bu K c) (H_ K c) c.s3 c.g1):=
 Z9c g.way G (RV K c) (Q7v h c) (Z0g h frm (Bk c) (by have:=Qte g D;omega)) (λs=>Zlp h g.pass s) (Q6i K c) (P7 h.f)
def KP (c:Cv):Cv:=if c.aH=true\/c.g0≠0 then{c with o2:=true}else c
def CD (c:Cv):Cv:={c with before:=c.s3}
def I7 (K:Kf) (c:Cv):Cv:=if K8 K c=true then c else spS c K.bF
def Jb (c:Cv):Cv:={c with aM:=BL c}
def ZN (K:Kf) (c:Cv) (E:List Evn):Cv:=Jb (I7 K (CD (KP (SK c E))))
theorem Z96 {L M N MB MP MO MU MS O T U MV:Fn} {V D:Lp} {c:Cv} {E:List Evn} {X:List AC} {Y:Cv}
  (h3:V (.vC kPt (E.map evR)::I (E.map evR).length::I 0::(Ht++Ae K (DY c)))=some (1,Ht++Ae K (SK c E)))
  (hT:∀c,U (Ae K c)=some [B (K8 K c)]) (hX:∀(c:Cv) (bF:Int),T [I c.s0,I c.s1,I c.s2,I c.s3,I bF]=some [I (spS c bF).s0,I (spS c bF).s1,I (spS c bF).s2,I (spS c bF).s3])
  (hN:∀c,O (Ae K c)=some [I (Bk c)]) (hS:∀c:Cv,MS [I c.m0,I c.m1,I c.m2,I c.m3,I c.m4,I c.m5]=some [B (BL c)])
  (G:∀o:Nat×List AC,(∃e,o.2=Ht++Ae K e)->IG D o M L (I (Bk (SK c E))) (Ae K (ZN K c E))=some (X++Ae K Y)):
  Qk7 L M N MB MP MO MU MS O T U MV V D (.vC kPt (E.map evR)::Ae K c)=some (X++Ae K Y):=by
 refine dp (Zpr L M N MB MP MO MU MS O T U MV V D (E.map evR) K c) ?_;refine eB h3 (eT rfl ?_);unfold ZN at G;generalize SK c E=d at*
 have rest:∀b:Cv,KP d=b->Bk b=Bk d->BL b=BL d->
   ((U (Ae K (CD b))).bind λo => bif !bA o 0 then (T [I b.s0, I b.s1, I b.s2, I b.s3, I K.bF]).bind λo2 => (O (Ae K { CD b with s0 := gA o2 0, s1 := gA o2 1, s2 := gA o2 2, s3 := gA o2 3 })).bind λo3 => (MS [I d.m0, I d.m1, I d.m2, I d.m3, I d.m4, I d.m5]).bind λo4 => IG D (1, Ht ++ Ae K d) M L (jA o3 0) (Ae K { CD b with s0 := gA o2 0, s1 := gA o2 1, s2 := gA o2 2, s3 := gA o2 3, aM := bA o4 0 })
    else(O (Ae K (CD b))).bind λo3=>(MS [I d.m0,I d.m1,I d.m2,I d.m3,I d.m4,I d.m5]).bind λo4=>IG D (1,Ht++Ae K d) M L (jA o3 0) (Ae K {CD b with aM:=bA o4 0}))=some (X++Ae K Y):=λb hb hu hs=>by
  have G:=G (1,Ht++Ae K d) ⟨d,rfl⟩;rw[hb]at G;refine eB (hT (CD b)) ?_;cases ht:K8 K (CD b)
  ·have e1:I7 K (CD b)=spS (CD b) K.bF:=by unfold I7;rw[aa (by rw[ht];simp)]
   rw[e1]at G;refine eT rfl (eB (hX b K.bF) ?_);refine dp (iz (λz=>Option.bind z _) (hN (spS (CD b) K.bF))) (eB rfl (eB (hS d) ?_));have e2:Bk (spS (CD b) K.bF)=Bk d:=hu;have e3:({spS (CD b) K.bF with aM:=BL d}:Cv)=Jb (spS (CD b) K.bF):=by
    unfold Jb;rw[show BL (spS (CD b) K.bF)=BL b from rfl,hs]
   rw[<-e3,<-e2]at G;exact G
  ·have e1:I7 K (CD b)=CD b:=by unfold I7;rw[ab ht]
   rw[e1]at G;refine eF rfl ?_;refine dp (iz (λz=>Option.bind z _) (hN (CD b))) (eB rfl (eB (hS d) ?_));have e2:Bk (CD b)=Bk d:=hu;have e3:({CD b with aM:=BL d}:Cv)=Jb (CD b):=by
    unfold Jb;rw[show BL (CD b)=BL b from rfl,hs]
   rw[<-e3,<-e2]at G;exact G
 refine eC (λt=> ?_) λt=>eC (λq=> ?_) λq=> ?_
 ·have t:d.aH=true:=t;exact rest {d with o2:=true} (by unfold KP;rw[ab (.inl t)]) rfl rfl
 ·have q:d.g0≠0:=λe=>by
   have:(d.g0 !=0)=true:=q;rw[bnF e]at this;cases this
  exact rest {d with o2:=true} (by unfold KP;rw[ab (.inr q)]) rfl rfl
 ·have t:d.aH=false:=t;have q:d.g0=0:=dk λe=>by
   have:(d.g0 !=0)=false:=q;rw[bnT e]at this;cases this
  exact rest d (by unfold KP;rw[aa (λw=>by rcases w with w|w;rw[t]at w;cases w;exact w q)]) rfl rfl
theorem Gd.clear {n:Int} {c:Cv} (g:Gd K n c):Gd K n (DY c):=⟨g.way,g.pass,g.task,g.mo,g.m0⟩
abbrev UL:Axs:=⟨8,10,10,10,-16777216,16777216,0,0,0,[]⟩
theorem Qhd:AxOK UL:=⟨by decide,by decide,by decide,λh=>absurd rfl h,⟨λx h=>(by cases h),λi h=>(by simp at h)⟩,by decide,by decide⟩
abbrev P4:Ax3:=⟨UL,UL,UL⟩
theorem machX:MachOK P4 9 3 100 1 0:=⟨⟨Qhd,Qhd,Qhd⟩,⟨by decide,by decide,by decide⟩,by decide,by decide⟩
theorem Zt1:Items 4084 ⟨0,0,0⟩ []:=⟨trivial,λit h=>by cases h⟩
abbrev kX (l:List Itm):Kf:=kfP P4 9 3 100 1 0 l true
theorem V8:AF []=⟨⟨0,0,0⟩,[],[]⟩:=rfl
abbrev atE (E:List Evn) (k:Int):List Evn:=E.filter λe=>e.cycle==k
theorem gdK (h:KOK K):Gd K 0 BT:=⟨rfl,⟨by decide,by simp⟩,λh=>(by cases h),Qmc h.plan,by decide⟩
structure Os (c d : Cv) : Prop where
 on:d.on=c.on
 aI:d.aI=c.aI
 aH:d.aH=c.aH
 gu:(d.g0=c.g0/\d.g1=c.g1/\d.g2=c.g2)\/(c.g0=0/\d.g0=1/\d.g1=18)
theorem Zm3 {a k c v x:Int} (D:Plan3 a k c) (G:Ci a k v x) (T:v<=0):AJ a k v x=0:=by
 have L:=closed D G;have M:=E5 D L.1;have N:v=0:=by have:=E5 D G;omega
 obtain⟨B,hB⟩:∃B,B=bs k v 20 (-x-k) (min (k-x) a):=⟨_,rfl⟩;obtain⟨U,V,X,Y,I,q6⟩:=SH D G hB;have:=IZ (k:=k) (b:=B) (by have:=D.b;omega);have hx:=G.2.2.2.2 N;have ha:=D.a;have e:AJ a k v x= -B:=by unfold AJ;rw[hB]
 rw[e];rcases I with I|I
 ·omega
 ·by_cases O:B+1<=0
  ·rw[Il O]at I;omega
  ·omega
def stL (K:Kf) (c:Cv):List Int:=(AO K.pa K.pb c.m1 c.m2).1
theorem Quw (h:Plan3 K.pa K.pb K.pc) {c:Cv} (D:Mo K c) (G:c.m1<=0):stL K c=[]:=by
 unfold stL;rw[(Ti h D).2,ab G]
theorem Zlm {c d:Cv} (D:d.m1=c.m1) (G:d.m2=c.m2):stL K d=stL K c:=by unfold stL;rw[D,G]
theorem Znm {a k c:Int} (N:Plan3 a k c) {u:Int} (U: -1000000000000000<=u/\u<=1000000000000000) {v x:Int} (X:(AO a k v x).2=true) (D G L:Int):
  H8 [I a,I k,I c,I u,I v,I x,I D,I G,I L]=some [I (Cq u (AO a k v x).1),B true]:=by
 have key:∀{M:Fn},M [I a,I k,I c,I u,I v,I x,I D,I G,I L]=some [.vC Aa ((BI u (AO a k v x).1).map Aj),B (AO a k v x).2]->Py M [I a,I k,I c,I u,I v,I x,I D,I G,I L]=some [I (Cq u (AO a k v x).1),B true]:=by
  intro M O;have hb:=PO N v x;rw[X]at O;rw[Q9c];generalize(AO a k v x).1=l at*;refine eB O (eF rfl ?_);show cond ((((BI u l).map Aj).length:Int)==0) _ (cond (decide (0<=V ((((BI u l).map Aj).length:Int)-1))&&decide (V ((((BI u l).map Aj).length:Int)-1)<(((BI u l).map Aj).length:Int))) (some [I (Ag (nth .vD (nth [] ((BI u l).map Aj) (V ((((BI u l).map Aj).length:Int)-1)).toNat) 0)),B true]) none)=_;have Y:((BI u l).map Aj).length=l.length:=by rw[ac,Kq]
  rw[Y];refine eC (λe=> ?_) λe=> ?_
  ·have e:(l.length:Int)=0:=eq_of_beq e;have:l=[]:=jl.1 (by omega);subst this;rfl
  ·have e:(l.length:Int)≠0:=by simpa using e
   rw[Ad (x:=(l.length:Int)-1)];refine eT (by simp;omega) ?_;have T:=Yp u l (by intro q;rw[q]at e;simp at e);rw[Kq]at T;have en:((l.length:Int)-1).toNat=l.length-1:=by omega
   have er:nth [] ((BI u l).map Aj) (l.length-1)=Aj (Cq u l):=by
    rw[B8,List.getD,du,T];rfl
   rw[en,er];rfl
 exact key (Qna N U v x D G L)
def ok1 (r:Nat) (a b t:Int):Bool:=bif decide (0<=a)then decide (a*r+b<=t)else bif Nat.beq r 1 then decide (a+5*max (b-t) 0<=0)else decide (a*(r-1)+b<=t)
end Go.Bm
namespace Go.Bm
open Classical
def sT (K:Kf) (t:Trk):Kf:=⟨K.x,K.pa,K.pb,K.pc,K.bF,K.lag,K.aA,K.closed,K.p,K.len,K.set,t⟩
def Qwo:List Pce->Int->Pt->Pt
 |[],_,d=>d
 |c::l,u,d=>if u>c.at_+c.aR then Qwo l u d else if c.bC≠0\/u=c.at_+c.aR then c.aT else c.was
def Z2u (t:Trk) (u:Int):Pt:=Qwo t.aE (clT t u) t.aT
def Qp5 (K:Kf) (c:Cv):Bool:=BL c&& !decide (Zck K.t (Bk c))
def Qt3 (K:Kf) (c:Cv) (to:Int):Trk:=Bz K.p K.x (Z2u K.t (Bk c)) (Bu K c) to
def zM (c:Cv):Cv:={c with m0:=0,m1:=0,m2:=0,m3:=0,m4:=0,m5:=0}
def Zyu (K:Kf) (c:Cv) (n:Int):Cv:={c with g0:=gA ((Qbu (I n::Ae K c)).getD []) 61,g1:=gA ((Qbu (I n::Ae K c)).getD []) 62,g2:=gA ((Qbu (I n::Ae K c)).getD []) 63}
def Z2y (K:Kf) (c:Cv):Cv:={c with aH:=bA ((Z1n (Ae K c)).getD []) 77}
def Zwz (K:Kf) (c:Cv) (s:Int):Int:=gA ((Zva (I s::Ae K c)).getD []) 0
end Go.Bm
namespace Go.Bm
def Z5q (K:Kf) (c:Cv) (n:Int):Bool:=(Ga K c).isSome&&decide (0<n)&&decide (c.way=0)&& !c.on&&decide (c.aI=0)&&c.o2&&decide ((vF K c).aX=0)&&Qp5 K c
def Zf8 (K:Kf) (c:Cv) (n:Int):Int:=mx (mx 0 (V (Bu K c-n))) (Zwz K c (Bu K c))
def Z41 (K:Kf) (c:Cv) (n:Int):Kf×Cv:=if Z5q K c n=true then(sT K (Qt3 K c (Zf8 K c n)),{zM c with o2:=false,way:=1,home:=Bu K c})else(K,c)
def evA (s:Kf×Cv) (k n:Int):Kf×Cv:=
 if k=13 then(s.1,Zyu s.1 (evC s.2 k n) n)else if k=12 then(s.1,Z2y s.1 (evC s.2 k n))else if k=7 then Z41 s.1 (evC s.2 k n) n else(s.1,evC s.2 k n)
end Go.Bm
namespace Go.Bm
open Classical
def QH (K:Kf) (c:Cv) (E:List Evn):Kf×Cv:=E.foldl (λs e=>evA s e.aP e.n) (K,DY c)
def tdC (c:Cv):Cv:={zM c with aL:=true,way:=if c.way=1 then 2 else 0,o2:=if c.way=1 then c.o2 else true}
def toC (K:Kf) (c:Cv):Int:=if c.way=2 then K.len else c.home
def Zmk (K:Kf) (c:Cv):Kf×Cv:=
 if c.aM=true/\c.m0=V (K.t.length*256)then(if Qp5 K c=true then(sT K (Qt3 K c (toC K c)),tdC c)else(K,c))else(K,Ej K c K.t.length)
def Zu1 (c:Cv):Int:=if c.way=2 then 5 else 4
def JN (K:Kf) (c:Cv):Int×Kf×Cv:=if(PI K c).1≠0 then((PI K c).1,K,(PI K c).2)else if c.way≠0 then(Zu1 c,Zmk K c)else(0,K,c)
def Jf (K:Kf) (c:Cv) (s:Int):List Int×Cv:=if c.way=0 then Cl K c s else([],c)
def Qxt (K:Kf) (c:Cv) (frm:Int):Rw:=if c.aL=true then []else Mi K frm (Bk c)
def E9 (K:Kf) (c:Cv) (E:List Evn):Kf×Cv:=((QH K c E).1,Jb (I7 (QH K c E).1 (CD (KP (QH K c E).2))))
def stA (K:Kf) (c:Cv) (E:List Evn):Int×Kf×Cv:=
 if(JN (E9 K c E).1 (E9 K c E).2).1=0 then((BP (E9 K c E).1 (JN (E9 K c E).1 (E9 K c E).2).2.2).1,(E9 K c E).1,(BP (E9 K c E).1 (JN (E9 K c E).1 (E9 K c E).2).2.2).2)else JN (E9 K c E).1 (E9 K c E).2
def Eh (K:Kf) (c:Cv) (E:List Evn):Kf×Cv:=((stA K c E).2.1,(Jf (stA K c E).2.1 (stA K c E).2.2 (Bu (stA K c E).2.1 (stA K c E).2.2)).2)
def tkA (K:Kf) (c:Cv) (E:List Evn):List AC:=
 La (Qxt (stA K c E).2.1 (stA K c E).2.2 (Bk (QH K c E).2)) ((Jf (stA K c E).2.1 (stA K c E).2.2 (Bu (stA K c E).2.1 (stA K c E).2.2)).1.map Aj) (stA K c E).1 (Bu (stA K c E).2.1 (stA K c E).2.2) (H_ (stA K c E).2.1 (stA K c E).2.2) (stA K c E).2.2.s3 (stA K c E).2.2.g1
end Go.Bm
namespace Go.Bm
end Go.Bm
namespace Go.Bm
open Classical
theorem Z2o {a:Axs} (h:AxOK a) (p:Int): -1<=Dm a (p+1)-Dm a p/\Dm a (p+1)-Dm a p<=1:=by
 unfold Dm;by_cases c:a.aW=[]
 ·rw[ab c,ab c];omega
 ·have hl:=Qau c;have hs:=h.aO c;rw[aa c,aa c];have M:∀i,i+1<a.aW.length-> -a.aO<=A6 a (i+1)-A6 a i/\A6 a (i+1)-A6 a i<=a.aO:=λi X=>by
   have hp:=h.aW.2 i X;unfold A6;omega
  by_cases O:p<=a.aV
  ·rw[ab O];by_cases T:p+1<=a.aV
   ·rw[ab T];omega
   ·rw[aa T];have e:p+1-a.aV=1:=by omega
    have e2:(1:Int)/a.aO=0:=kn (by omega) (by omega);rw[e,e2];by_cases G:(0:Int)>=a.aW.length-1
    ·rw[ab G,show a.aW.length-1=0 by omega];omega
    ·rw[aa G];have g:=O3 (D:=A6 a 1-A6 a 0) (L:=a.aO) (d:=0) (by omega) (M 0 (by omega));have g0:AP 0 a.aO=0:=FH (by omega) (by omega) (by omega);rw[jr,g0]at g;show-1<=A6 a (Int.toNat 0)+AP ((A6 a (Int.toNat 0+1)-A6 a (Int.toNat 0))*(1-0*a.aO)) a.aO-A6 a 0/\A6 a (Int.toNat 0)+AP ((A6 a (Int.toNat 0+1)-A6 a (Int.toNat 0))*(1-0*a.aO)) a.aO-A6 a 0<=1;rw[jc];show-1<=A6 a 0+AP ((A6 a 1-A6 a 0)*(0+1)) a.aO-A6 a 0/\A6 a 0+AP ((A6 a 1-A6 a 0)*(0+1)) a.aO-A6 a 0<=1;omega
  ·rw[aa O,aa (show¬p+1<=a.aV by omega)];have e0:=Int.mul_ediv_add_emod (p-a.aV) a.aO;have e1:=Int.emod_nonneg (p-a.aV) (show a.aO≠0 by omega);have e2:=j7 (p-a.aV) (show 0<a.aO by omega);have e3:0<=(p-a.aV)/a.aO:=Int.ediv_nonneg (by omega) (by omega);have key:∀(k r:Int),0<=r->r<a.aO->p+1-a.aV=a.aO*k+r->(p+1-a.aV)/a.aO=k:=by
    intro k r Y r1 N;rw[N,Int.mul_add_ediv_left _ _ (by omega),kn Y r1,fm]
   generalize(p-a.aV)/a.aO=i at*;generalize(p-a.aV)%a.aO=r at*;obtain⟨n,rfl⟩:∃n:Nat,i=n:=⟨i.toNat,by omega⟩;have U:p-a.aV-(n:Int)*a.aO=r:=by rw[iv];omega
   rw[U];by_cases c4:r+1<a.aO
   ·rw[key n (r+1) (by omega) c4 (by omega)];have I:p+1-a.aV-(n:Int)*a.aO=r+1:=by rw[iv]at U⊢;omega
    rw[I];by_cases G:(n:Int)>=a.aW.length-1
    ·rw[ab G,ab G];omega
    ·rw[aa G,aa G,af];have g:=O3 (D:=A6 a (n+1)-A6 a n) (L:=a.aO) (d:=r) (by omega) (M n (by omega));omega
   ·have N:p+1-a.aV=a.aO*((n:Int)+1)+0:=by rw[jo];omega
    rw[key ((n:Int)+1) 0 (by omega) (by omega) N];have I:p+1-a.aV-((n:Int)+1)*a.aO=0:=by rw[iv];omega
    rw[I,jr];have g0:AP 0 a.aO=0:=FH (by omega) (by omega) (by omega);rw[g0];have et:((n:Int)+1).toNat=n+1:=by omega
    rw[et,af];by_cases G:(n:Int)>=a.aW.length-1
    ·rw[ab G,ab];omega
    ·rw[aa G];have g:=O3 (D:=A6 a (n+1)-A6 a n) (L:=a.aO) (d:=r) (by omega) (M n (by omega));rw[show r+1=a.aO by omega,Q5 (by omega)]at g;by_cases V:(n:Int)+1>=a.aW.length-1
     ·rw[ab V,show a.aW.length-1=n+1 by omega];omega
     ·rw[aa V];omega
theorem Qqa {a:Axs} (h:AxOK a) (p:Int): -1<=Ct a (p+1)-Ct a p/\Ct a (p+1)-Ct a p<=1:=by
 have G:=Z2o h p;have I:=h.step;have D:0<a.step:=by omega
 unfold Ct;have up:AP (p+Dm a p+a.step) a.step=AP (p+Dm a p) a.step+1:=by
  obtain⟨a1,b1⟩:=S4 (a:=p+Dm a p) D;refine FH D ?_ ?_
  ·rw[d7];omega
  ·rw[d7,d7]at*;omega
 have dn:AP (p+Dm a p-a.step) a.step=AP (p+Dm a p) a.step-1:=by
  obtain⟨a1,b1⟩:=S4 (a:=p+Dm a p) D;refine FH D ?_ ?_
  ·rw[kg];omega
  ·rw[d7]at b1;rw[d7,kg];omega
 have m1:=JV D (show p+1+Dm a (p+1)<=p+Dm a p+a.step by omega);have m2:=JV D (show p+Dm a p-a.step<=p+1+Dm a (p+1) by omega);omega
theorem Z1o {a:Axs} (h:AxOK a) {p q:Int} (G: -1<=q-p/\q-p<=1): -1<=Ct a q-Ct a p/\Ct a q-Ct a p<=1:=by
 have D:q=p+1\/q=p\/p=q+1:=by omega
 rcases D with rfl|rfl|rfl
 ·exact Qqa h p
 ·omega
 ·have:=Qqa h q;omega
def okD (d:Pt):Prop:=(d.x=1\/d.x= -1)/\(d.y=1\/d.y= -1)/\(d.z=1\/d.z= -1)
theorem Zio {d a b:Pt} (D:k=1\/k= -1) (h:okD d):okD (Du d a b k):=by
 obtain⟨G,I,L⟩:=h;unfold okD Du QI;simp only;refine⟨?_,?_,?_⟩<;>(repeat' split)<;>omega
theorem Q22 {c:Pce} (h:∀k∈t.aE,okD k.aT) (G:okD c.aT):∀k∈(DF t c).aE,okD k.aT:=by
 unfold DF;by_cases g:t.aE≠[]/\c.bC≠0/\(AZ t.aE).bC=c.bC/\(AZ t.aE).aT=c.aT
 ·rw[ab g];intro k D;rcases fy D with D|rfl
  ·exact h k D
  ·have:=h (AZ t.aE) (Qdc g.1);exact this
 ·rw[aa g];intro k D;rcases be.1 D with D|D
  ·exact h k D
  ·rw[de]at D;subst D;exact G
theorem Qwu {p:Pth} {x:Ax3} {mv lo hi f:Int} {d:Pt} (I:mv=1\/mv= -1) (L:okD d):∀j,(∀k∈(BS p x mv lo hi (⟨[],0,f,d⟩,d) j).1.aE,okD k.aT)/\okD (BS p x mv lo hi (⟨[],0,f,d⟩,d) j).2
 |0=>⟨by simp[BS],L⟩
 |j+1=>by
  obtain⟨D,M⟩:=Qwu (p:=p) (x:=x) (lo:=lo) (hi:=hi) (f:=f) I L j;rw[BS];unfold Fu;split
  ·unfold Ch;simp only;have G:=Zio (a:=Ez p.aQ p.aF (Dr p.aF.length mv j)) (b:=(sgA p.aF (Dr p.aF.length mv j)).to) I M;refine⟨Q22 ?_ G,G⟩;split
   ·exact Q22 D G
   ·exact D
  ·exact⟨D,M⟩
theorem Z4n {x:Ax3} (D:okD d):∀k∈(Bz p x d a b).aE,okD k.aT:=by
 unfold Bz;exact(Qwu (by split<;>simp) D _).1
def H0 (a:Axs) (g:Int->Int) (f:Pt->Int) (c:Pce) (u:Int):Int:=Ct a (g (c.s+c.bC*(u-c.at_)))+Eb a c.bC c.at_ (f c.was) (f c.aT) u
def H2 (a:Axs) (g:Int->Int) (f:Pt->Int):List Pce->Int->Int
 |[],_=>0
 |c::l,u=>if u<=c.at_+c.aR then H0 a g f c u else H2 a g f l u
def LG (x:Ax3) (a:Axs) (f:Pt->Int):Prop:=(0<=a.bB/\a.bB<=1000)/\(∀d,okD d->f d=1\/f d= -1)/\(∀w d,f w≠f d->a.bB<=Cg x w d)
theorem Z3i {x:Ax3} (h:Ax3OK x):LG x x.a Pt.x:=⟨h.a,λd D=>D.1,λw d G=>by have I:=h.a;unfold Cg slk;rw[aa G];(repeat' split)<;>omega⟩
theorem Z43 {x:Ax3} (h:Ax3OK x):LG x x.b Pt.y:=⟨h.b,λd D=>D.2.1,λw d G=>by have I:=h.a;have L:=h.b;unfold Cg slk;rw[aa G];(repeat' split)<;>omega⟩
theorem Zjg {x:Ax3} (h:Ax3OK x):LG x x.c Pt.z:=⟨h.c,λd D=>D.2.2,λw d G=>by have I:=h.a;have L:=h.b;unfold Cg slk;rw[aa G];omega⟩
theorem Qt8 {x:Ax3} {a:Axs} {f:Pt->Int} {g:Int->Int} {at_ s:Int} {c:Pce} {l:List Pce} (X:LG x a f) (h:chain x k Q at_ s d (c::l)) (Y:k=1\/k= -1) (hd:okD d) (hc:okD c.aT):
  H0 a g f c at_=Ct a (g s)+FO a (f d)/\H0 a g f c (at_+c.aR)=Ct a (g (s+c.bC*c.aR))+FO a (f c.aT):=by
 obtain⟨hb,hf,L⟩:=X;obtain⟨h1,h2,h3,h4,-⟩:=h;have G:=hf d hd;have D:=hf c.aT hc;unfold H0;rw[h1,h2,show at_-at_=0 by omega,show at_+c.aR-at_=c.aR by omega,jr,fm];rcases h4 with⟨N,O,I,-⟩|⟨N,O,I⟩
 ·have T:c.bC≠0:=by rcases Y with rfl|rfl<;>omega
  unfold Eb;rw[ab (.inl T),ab (.inl T)];refine⟨?_,rfl⟩;by_cases e:f d=f c.aT
  ·rw[e]
  ·have:=L d c.aT e;rw[I]at this;unfold FO
   (repeat' split)<;>omega
 ·rw[N,O,jc,fm];by_cases e:f d=f c.aT
  ·unfold Eb;have U:(0:Int)≠0\/f d=f c.aT:= .inr e;rw[ab U,ab U,e];exact⟨rfl,rfl⟩
  ·have:=L d c.aT e;rw[<-I]at this;have V: ¬((0:Int)≠0\/f d=f c.aT):=λg=>g.elim (λg=>g rfl) e;unfold Eb FO;rw[aa V,aa V];generalize Ct a (g s)=M;constructor
   ·rcases D with D|D<;>rcases G with G|G<;>rw[D,G]<;>simp<;>omega
   ·rcases D with D|D<;>rw[D]<;>simp<;>omega
theorem Q47 {x:Ax3} {a:Axs} {f:Pt->Int} {g:Int->Int} {at_ s:Int} {c:Pce} {l:List Pce} (M:LG x a f) (N:AxOK a) (G:∀s,-1<=g (s+1)-g s/\g (s+1)-g s<=1) (h:chain x k Q at_ s d (c::l)) (I:k=1\/k= -1) {u:Int} (Y:at_<=u):
  -1<=H0 a g f c (u+1)-H0 a g f c u/\H0 a g f c (u+1)-H0 a g f c u<=1:=by
 obtain⟨hb,hf,hs⟩:=M;obtain⟨O,T,h3,U,-⟩:=h;unfold H0;rw[O,T];rcases U with⟨D,V,X,-⟩|⟨D,V,X⟩
 ·have L:c.bC≠0:=by rcases I with rfl|rfl<;>omega
  unfold Eb;rw[ab (.inl L),ab (.inl L),D];have := Z1o N (p := g (s + k * (u - at_))) (q := g (s + k * (u + 1 - at_))) (by
   rcases I with rfl|rfl
   ·have:=G (s+1*(u-at_));rw[show s+1*(u+1-at_)=s+1*(u-at_)+1 by omega];exact this
   ·have:=G (s+ -1*(u+1-at_));rw[show s+ -1*(u-at_)=s+ -1*(u+1-at_)+1 by omega];omega)
  omega
 ·unfold Eb;rw[D,jc,jc]
  (repeat' split)<;>omega
theorem Qxw {x:Ax3} {a:Axs} {f:Pt->Int} {g:Int->Int} {mv:Int} {Q:Int->Pt->Prop} (D:LG x a f) (M:AxOK a) (N:∀s,-1<=g (s+1)-g s/\g (s+1)-g s<=1) (G:mv=1\/mv= -1):∀{at_ s:Int} {d:Pt} {l:List Pce},chain x mv Q at_ s d l->okD d->(∀k∈l,okD k.aT)->∀u,at_<=u->u<BJ at_ l->
  -1<=H2 a g f l (u+1)-H2 a g f l u/\H2 a g f l (u+1)-H2 a g f l u<=1
 |at_,s,d,[],h,_,_,u,h1,h2=>by simp only[BJ]at h2;omega
 |at_,s,d,c::l,h,hd,O,u,T,I=>by
  have U:=O c (by simp);have a1:=h.1;unfold H2;by_cases c1:u+1<=c.at_+c.aR
  ·rw[ab c1,ab];exact Q47 D M N h G T
  ·rw[aa c1];have L:=h.2.2.2.2;by_cases c2:u<=c.at_+c.aR
   ·
    rw[ab c2];have e:u=at_+c.aR:=by omega
    have hj:=(Qt8 (g:=g) D h G hd U).2;rw[e,hj];cases l with
    |nil=>simp only[BJ]at I;omega
    |cons c' l'=>
     have V:=O c' (by simp);have X:=(Qt8 (g:=g) D L G U V).1;have Y:=Q47 (u:=at_+c.aR) D M N L G (cz _);have a2:=L.1;have a3:=L.2.2.1;unfold H2;rw[ab,<-X];exact Y
   ·rw[aa c2];exact Qxw D M N G L U (λk a0=>O k (by simp[a0])) u (by omega) I
theorem Qxq {a:Axs} {g:Int->Int} {f:Pt->Int}:∀{l:List Pce} {u:Int},fI l u<l.length->H2 a g f l u=H0 a g f (pcA l (fI l u)) u
 |[],_,h=>by simp at h
 |c::l,u,h=>by
  unfold fI at h⊢;unfold H2;by_cases D:u<=c.at_+c.aR
  ·rw[ab D,ab D,IS]
  ·rw[aa D]at h⊢;rw[aa D,GQ];exact Qxq (by simpa using h)
theorem Zrn (D:GoodPath p) (s:Int):(-1<=(atP p (s+1)).x-(atP p s).x/\(atP p (s+1)).x-(atP p s).x<=1)/\(-1<=(atP p (s+1)).y-(atP p s).y/\(atP p (s+1)).y-(atP p s).y<=1)/\(-1<=(atP p (s+1)).z-(atP p s).z/\(atP p (s+1)).z-(atP p s).z<=1):=Zlr D s
theorem Zl2 {x:Ax3} (V:GoodPath p) (G:Ax3M x) (X:b=1\/b= -1) (Y:TC x b Q t r d) (ht:TQ t) (hd:okD t.aT) (hk:∀k∈t.aE,okD k.aT) (M:0<=u/\u<t.length):
  E0 (CR p x t u) (CR p x t (u+1)):=by
 obtain⟨h1,N,-,-⟩:=Y;have D:t.aE≠[]:=by
  intro c;rw[c]at N;simp only[BJ]at N;omega
 have I:∀v,0<=v->v<=t.length->clT t v=v:=by intro v g1 g2;unfold clT Bb;omega
 have O:∀(a:Axs) (f:Pt->Int) (g:Int->Int) (v:Int),0<=v->v<=t.length->Ct a (g (AV t v))+shT a t v f=H2 a g f t.aE v:=by
  intro a f g v g1 g2;have T:=KM ht v D;have U:iT t v=fI t.aE v:=by unfold iT;rw[I v g1 g2]
  unfold AV shT;rw[aa D,aa D,U,I v g1 g2];rw[U]at T;exact(Qxq T).symm
 have key:∀(a:Axs) (f:Pt->Int) (g:Int->Int),LG x a f->AxOK a->(∀s,-1<=g (s+1)-g s/\g (s+1)-g s<=1)-> -1<=(Ct a (g (AV t (u+1)))+shT a t (u+1) f)-(Ct a (g (AV t u))+shT a t u f)/\(Ct a (g (AV t (u+1)))+shT a t (u+1) f)-(Ct a (g (AV t u))+shT a t u f)<=1:=by
  intro a f g hA ha L;rw[O a f g u M.1 (by omega),O a f g (u+1) (by omega) (by omega)];exact Qxw hA ha L X h1 hd hk u M.1 (by rw[N];exact M.2)
 have L:=Zrn V;exact⟨key x.a Pt.x (λs=>(atP p s).x) (Z3i G.ok) G.a λs=>(L s).1,key x.b Pt.y (λs=>(atP p s).y) (Z43 G.ok) G.b λs=>(L s).2.1,key x.c Pt.z (λs=>(atP p s).z) (Zjg G.ok) G.c λs=>(L s).2.2⟩
theorem Qx0 {x:Ax3} {Q:Int->Pt->Prop}:∀{a s:Int} {d:Pt} {l:List Pce} {u:Int},chain x 1 Q a s d l->l≠[]->u<=BJ a l->plL l u<=CK s l
 |_,_,_,[],_,_,h,_=>absurd rfl h
 |a,s,d,c::l,u,h,_,L=>by
  obtain⟨O,T,U,D,M⟩:=h;have G:c.bC=1\/c.bC=0:=by rcases D with D|D<;>simp[D.1]
  have he:=Qhc (.inl rfl) M;unfold plL;by_cases N:u<=c.at_+c.aR
  ·rw[ab N];unfold CK;generalize CK (s+c.bC*c.aR) l=E at*;rcases G with G|G<;>rw[G]at he⊢<;>omega
  ·rw[aa N];have I:l≠[]:=by
    intro e;subst e;simp only[BJ]at L;omega
   exact Qx0 M I L
theorem Uj {x:Ax3} {Q:Int->Pt->Prop}:∀{a s:Int} {d:Pt} {l:List Pce},chain x 1 Q a s d l->l≠[]->∀v w:Int,a<=v->v<=w->w<=BJ a l->s<=plL l v/\plL l v<=plL l w
 |_,_,_,[],_,h,_,_,_,_,_=>absurd rfl h
 |a,s,d,c::l,h,_,v,w,U,T,G=>by
  obtain⟨g1,g2,V,I,N⟩:=h;have D:c.bC=1\/c.bC=0:=by rcases I with I|I<;>simp[I.1]
  have more: ¬w<=a+c.aR->l≠[]:=λX e=>by
   subst e;simp only[BJ]at G;omega
  simp only[BJ]at G;unfold plL;rw[g1,g2];by_cases O:v<=a+c.aR
  ·rw[ab O];by_cases L:w<=a+c.aR
   ·rw[ab L];rcases D with D|D<;>rw[D]<;>omega
   ·rw[aa L];have M:=Uj N (more L) w w (by omega) (cz _) G;rcases D with D|D<;>rw[D]at M⊢<;>omega
  ·rw[aa O,aa];have M:=Uj N (more (by omega)) v w (by omega) T G;rcases D with D|D<;>rw[D]at M<;>omega
structure Fw (t : Trk) (n : Int) : Prop where
 wh:∀z,0<=z->z<=n->0<=A4 t z/\A4 t z<=t.length/\AV t (A4 t z)=z/\∀v,0<=v->v<A4 t z->AV t v<z
 up:∀u v,u<=v->AV t u<=AV t v
 rg:∀u,0<=AV t u/\AV t u<=n
 zero:AV t 0=0
 len:0<=t.length/\t.length<=900000000000000
theorem Fw.le {n:Int} (h:Fw t n) {z u:Int} (D:0<=z) (G:z<=n) (I:u<=A4 t z):AV t u<=z:=by
 have L:=h.wh z D G;have:=h.up u _ I;omega
theorem Fw.ge {n:Int} (h:Fw t n) {z u:Int} (D:0<=z) (G:z<=n) (I:0<=u) (L:z<=AV t u):A4 t z<=u:=by
 apply dk;intro c;have:=(h.wh z D G).2.2.2 u I (by omega);omega
theorem Fw.wmono {n:Int} (h:Fw t n) {y z:Int} (G:0<=y) (I:y<=z) (L:z<=n):A4 t y<=A4 t z:=by
 have D:=h.wh z (by omega) L;refine h.ge G (by omega) D.1 ?_;rw[D.2.2.1];exact I
theorem Zwd {x:Ax3} (hx:Ax3OK x) (X:GoodPath p) (hm:0<=m/\m<=As p.aF):Fw (Bz p x d 0 m) m:=by
 have hn:=Md X;obtain⟨d',I,N,-⟩:=QR (d:=d) (a:=0) (b:=m) (Q:=λ_ _=>True) hx X (λ_ _ _ _ _ _ _ _=>trivial);have G:=WK d 0 m hx X;have c1:Bb 0 (As p.aF)=0:=by unfold Bb;omega
 have c2:Bb m (As p.aF)=m:=by unfold Bb;omega
 have Y:mvP p 0 m=1:=by unfold mvP;rw[c1,c2,aa]
 rw[Y,c2]at I;rw[c1]at N;generalize Bz p x d 0 m=t at*;obtain⟨ch,O,T,-⟩:=I;rw[N]at ch T;by_cases D:t.aE=[]
 ·have a0:m=0:=by rw[D]at T;exact T.symm
  have a5:t.length=0:=by rw[D]at O;exact O.symm
  have pl:∀u,AV t u=0:=λu=>by unfold AV;rw[ab D,N]
  refine⟨λz z0 z1=> ?_,λu v _=>by rw[pl,pl];omega,λu=>by rw[pl];omega,pl 0,G.len⟩;have U:A4 t z=0:=by unfold A4;rw[ab (by rw[N];omega)]
  rw[U];exact⟨by omega,by omega,by rw[pl];omega,λv V I=>by omega⟩
 ·have cl:∀u,0<=clT t u/\clT t u<=t.length:=OB G;have L:∀u,0<=u->u<=t.length->clT t u=u:=λu V I=>by unfold clT Bb;omega
  have M:∀u v,u<=v->clT t u<=clT t v:=λu v h=>by unfold clT Bb;omega
  have up:∀u v,u<=v->AV t u<=AV t v:=λu v h=>by
   rw[KN G u D,KN G v D];exact(Uj ch D _ _ (cl u).1 (M u v h) (by rw[O];exact(cl v).2)).2
  have lo:∀u,0<=AV t u:=λu=>by
   rw[KN G u D];exact(Uj ch D _ _ (cl u).1 (cz _) (by rw[O];exact(cl u).2)).1
  have hi:∀u,AV t u<=m:=λu=>by
   rw[KN G u D];have:=Qx0 ch D (u:=clT t u) (by rw[O];exact(cl u).2);rw[T]at this;exact this
  have zero:AV t 0=0:=by
   rw[KN G 0 D,L 0 (by omega) G.len.1];obtain⟨c,l,e⟩:=List.exists_cons_of_ne_nil D;rw[e]at ch⊢;obtain⟨g1,g2,g3,-⟩:=ch;unfold plL;rw[ab,g1,g2];simp
  refine⟨λz z0 z1=> ?_,up,λu=>⟨lo u,hi u⟩,zero,G.len⟩;by_cases hz:z=0
  ·have U:A4 t z=0:=by unfold A4;rw[ab (by rw[N];exact hz)]
   rw[U];exact⟨by omega,G.len.1,by rw[zero,hz],λv V I=>by omega⟩
  ·have U:A4 t z=wF z t.aE:=by unfold A4;rw[aa (by rw[N];exact hz)]
   obtain⟨a1,a2,a3,a4⟩:=(Qu3 (.inl rfl) z ch).2.2 (by omega) (by rw[T];omega);rw[O]at a2;rw[U];refine⟨by omega,a2,?_,λv V I=> ?_⟩
   ·rw[KN G _ D,L _ (by omega) a2,a3]
   ·rw[KN G _ D,L v V (by omega)];have:=a4 v V I;omega
theorem Q43 {x:Ax3} (G:Ax3OK x) (D:GoodPath p):Fw (Bz p x d 0 (As p.aF)) (As p.aF):=
 Zwd G D ⟨(Md D).1,cz _⟩
end Go.Bm
namespace Go.Bm
theorem Zj2 {MS MF:Fn} {x:Ax3} (M:∀{way:Rw},way.length<=100000->(MS (pxt p x t [.vC Aa way])).isSome=true)
  {a b c m0 m1 m2 m3 m4 m5 l:Int} {L:List Int} (hL:L.length<=4096) (T:MF [I a,I b,I c,I m0,I m1,I m2,I m3,I m4,I m5]=some [.vC Aa ((BI m0 L).map Aj),B true]):
  Out (λo=>bA o 0=true->Cq m0 L<=V (l*256)) (Qh MS MF (pxt p x t [I a,I b,I c,I m0,I m1,I m2,I m3,I m4,I m5,I l])):=by
 rw[Wh];refine .bind (p:=λo=>o=_) ⟨_,T,rfl⟩ λo e=> ?_;subst e;have G:∀{X:List AC},X=[B false]->bA X 0=true->Cq m0 L<=V (l*256):=λe h=>by subst e;simp[bA,nth,Dz]at h
 have U:wA [AC.vC Aa ((BI m0 L).map Aj),B true] 0=(BI m0 L).map Aj:=rfl;rw[U];have Y:((BI m0 L).map Aj).length=L.length:=by rw[ac,Kq]
 have ee:0<L.length->Ag (nth .vD (nth [] ((BI m0 L).map Aj) ((((BI m0 L).map Aj).length:Int)-1).toNat) 0)=Cq m0 L:=λN=>by
  rw[Y];have O:=Yp m0 L (by intro q;rw[q]at N;simp at N);rw[Kq]at O;have en:((L.length:Int)-1).toNat=L.length-1:=by omega
  have er:nth [] ((BI m0 L).map Aj) (L.length-1)=Aj (Cq m0 L):=by
   rw[B8,List.getD,du,O];rfl
  rw[en,er];rfl
 have e0:L.length=0->Cq m0 L=m0:=λh=>by rw[jl.1 h];rfl
 generalize(BI m0 L).map Aj=sp at*;refine .cond (λ_=> .some (G rfl)) λ_=> ?_;refine .cond (λc=> ?_) λc=> ?_
 ·have c:=Bg c;rw[Ad (x:=(sp.length:Int)-1)];refine .cond (λ_=> ?_) λc=>by simp at c;omega
  rw[ee (by omega)];refine .cond (λ_=> .some (G rfl)) λD=> ?_;have D:=Bd D;refine .cond (λ_=> ?_) λc=>by rw[BF (by simp;omega)]at c;cases c
  refine .cond (λ_=> ?_) λc=>by rw[BF (by simp;omega)]at c;cases c
  exact .ibind (M (by simp;omega)) λ_ _=> .some λ_=>by omega
 ·have c:=Bd c;have e1:=e0 (by omega);refine .cond (λ_=> .some (G rfl)) λD=> ?_;have D:=Bd D;refine .cond (λ_=> ?_) λc=>by rw[BF (by simp;omega)]at c;cases c
  refine .cond (λ_=> ?_) λc=>by rw[BF (by simp;omega)]at c;cases c
  exact .ibind (M (by simp;omega)) λ_ _=> .some λ_=>by omega
def Qhk (pa pb m0 v x l:Int):Prop:=(AO pa pb v x).2=true/\Cq m0 (AO pa pb v x).1<=V (l*256)
theorem Zmn {x:Ax3} (h:Fix p x t) {a b c:Int} (G:Plan3 a b c) {m0:Int} (v z m3 m4 m5 l:Int) (N:(AO a b v z).2=true-> -1000000000000000<=m0/\m0<=1000000000000000):
  Out (λo=>bA o 0=true->Qhk a b m0 v z l) (Je (pxt p x t [I a,I b,I c,I m0,I v,I z,I m3,I m4,I m5,I l])):=by
 by_cases D:(AO a b v z).2=true
 ·have M:=Qna G (N D) v z m3 m4 m5;rw[D]at M;have:=Zj2 (MS:=LK) (MF:=EA) (l:=l) (Quq h) (PO G v z).1 M;exact this.mono λo L hb=>⟨D,L hb⟩
 ·exact(Wa h G m0 v z m3 m4 m5 l).mono λo L hb=>absurd (L hb) D
theorem Zd1 (h:KOK K) {c:Cv} (D:Mo K c) (N: -300000000000<=c.m0/\c.m0<=300000000000) (l:Int) (G:Bool):Out (SV c.m0 c.m1 c.m3 c.m4 (λv=>Qhk K.pa K.pb (V (c.m0+v)) v (V (v-c.m1)) l) λr=>r=AJ K.pa K.pb c.m1 c.m2)
  (Fa (pxt K.p K.x K.t [I K.pa,I K.pb,I K.pc,I c.o0,I c.o1,B G,B c.o3,B c.o4,I c.m0,I c.m1,I c.m2,I c.m3,I c.m4,I c.m5,I l])):=
 Quy (F := λ_ => True) (by have := h.plan.b; omega) (Q3j h.plan D) (λv _ _ _ => Zmn h.f h.plan _ _ _ _ _ _ λL => by
  have:=E5 h.plan (HT.1 L).1;rw[Ad];omega) (λv=>Qeu h.f ..) Qfa Qma (λ_ M=>Qsh M)
def B2 (K:Kf) (c:Cv):Int:=Cq c.m0 (stL K c)
theorem Zre (h:KOK K) {n:Int} {c e:Cv} (g:Gd K n c) (O:0<=n/\n<=10000) {v:Int} (G:v=V (c.m1+AJ K.pa K.pb c.m1 c.m2)) (e0:e.m0=V (c.m0+v)) (e1:e.m1=v) (e2:e.m2=V (v-c.m1)):B2 K e=B2 K c:=by
 obtain⟨b1,b2,b3⟩:=Qtw h.plan g.mo G;have T:=E5 h.plan (HT.1 b3).1;have U:=g.m0;rw[Ad]at e0;obtain⟨-,s2⟩:=Ti h.plan g.mo;unfold B2 stL;rw[e0,e1,e2,b2,s2,<-b1];by_cases D:c.m1<=0
 ·rw[ab D];have hb:=Zm3 h.plan g.mo.ready D;have I:=E5 h.plan g.mo.ready;have L:v=0:=by omega
  have M:(AO K.pa K.pb v (AJ K.pa K.pb c.m1 c.m2)).1=[]:=by
   have N:(AO K.pa K.pb v (AJ K.pa K.pb c.m1 c.m2)).2=true:=by rw[<-b2];exact b3
   rw[(Ti h.plan N).2,ab]
  rw[M,L];show c.m0+0=c.m0;omega
 ·rw[aa D];show _=Cq (c.m0+v) _;rfl
def EndQ (K:Kf) (c d:Cv) (l:Int):Prop:=B2 K d<=V (l*256)\/B2 K d=B2 K c
theorem EndQ.of (h:KOK K) {n:Int} {c e:Cv} (g:Gd K n c) (G:0<=n/\n<=10000) {v l:Int} (D:Qhk K.pa K.pb (V (c.m0+v)) v (V (v-c.m1)) l\/∃r:Int,v=V (c.m1+r)/\r=AJ K.pa K.pb c.m1 c.m2)
  (e0:e.m0=V (c.m0+v)) (e1:e.m1=v) (e2:e.m2=V (v-c.m1)):EndQ K c e l:=by
 rcases D with D|⟨r,D,rfl⟩
 ·refine .inl ?_;unfold B2 stL;rw[e0,e1,e2];exact D.2
 ·exact .inr (Zre h g G D e0 e1 e2)
theorem Zaq {n:Int} {c:Cv} (g:Gd K n c) (D:0<=n/\n<=10000): -300000000000<=c.m0/\c.m0<=300000000000:=by have:=g.m0;omega
theorem Zda (h:KOK K) {n:Int} {c:Cv} (g:Gd K n c) (D:0<=n/\n<=10000) (l:Int):EndQ K c (Ej K c l) l:=
 EndQ.of h g D (v:=nxV K c l) (Z3t (Zd1 h g.mo (Zaq g D) l c.o2)) rfl rfl rfl
structure MarksOK (K : Kf) : Prop where
 fw:Fw K.t K.len
 closed:K.closed=true
 at_:∀i:Int,0<=i->i<K.p.aD.length->0<=(mkK K i).at_/\(mkK K i).at_<=K.len
 mono:∀i j:Int,0<=i->i<=j->j<K.p.aD.length->(mkK K i).at_<=(mkK K j).at_
theorem Q94 {A:Int->Bool} {c:Cv} {known frm:Int} (M:∀k,A k=true->Dl k c=true):∀(l:List Mrk) (i:Nat),(∀m∈l,A m.aP=true->frm<=m.at_/\m.at_<=known)->
  (Fk c known frm l i=(known,-1)/\∀m∈l,A m.aP=false)\/∃j,∃N:j<l.length,Fk c known frm l i=(l[j].at_,((i+j:Nat):Int))/\Dl l[j].aP c=true/\∀k,∀O:k<j,A (l[k]'(by omega)).aP=false
 |[],_,_=> .inl ⟨rfl,λm U=>by cases U⟩
 |m::l,i,h=>by
  unfold Fk;by_cases G:Dl m.aP c=true/\frm<=m.at_/\m.at_<=known
  ·rw[ab G];exact .inr ⟨0,by simp,rfl,G.1,λk O=>by omega⟩
  ·rw[aa G];have T:A m.aP=false:=by
    cases e:A m.aP
    ·rfl
    ·exact absurd ⟨M _ e,h m (by simp) e⟩ G
   rcases Q94 M l (i+1) λq D=>h q (by simp[D])with⟨I,L⟩|⟨j,N,I,L,V⟩
   ·refine .inl ⟨I,λq D=> ?_⟩;rcases av.1 D with rfl|D
    ·exact T
    ·exact L q D
   ·refine .inr ⟨j+1,by simpa using N,?_,by simpa using L,λk O=> ?_⟩
    ·rw[I];have:i+1+j=i+(j+1):=by omega
     rw[this];rfl
    ·cases k with
     |zero=>exact T
     |succ k=>exact V k (by omega)
theorem Z4m {A:Int->Bool} {c:Cv} {known frm:Int} (Y:∀k,A k=true->Dl k c=true) (hn:0<=c.next) (hm:∀i:Int,c.next<=i->i<K.p.aD.length->A (mkK K i).aP=true->frm<=(mkK K i).at_/\(mkK K i).at_<=known):
  (BW K c known frm=(known,-1)/\∀i:Int,c.next<=i->i<K.p.aD.length->A (mkK K i).aP=false)\/
  ∃j:Int,BW K c known frm=((mkK K j).at_,j)/\c.next<=j/\j<K.p.aD.length/\Dl (mkK K j).aP c=true/\∀i:Int,c.next<=i->i<j->A (mkK K i).aP=false:=by
 have M:(max c.next 0).toNat=c.next.toNat:=by rw[Int.max_eq_left hn]
 have N:∀(k:Nat) (D:k<(K.p.aD.drop c.next.toNat).length),(K.p.aD.drop c.next.toNat)[k]=mkK K ((c.next.toNat+k:Nat):Int):=λk D=>by
  rw[List.getElem_drop];unfold mkK;rw[af,List.getD,ag (by rw[co]at D;omega)];rfl
 have em:∀{i:Int},c.next<=i->i<K.p.aD.length->∃k,∃D:k<(K.p.aD.drop c.next.toNat).length,mkK K i=(K.p.aD.drop c.next.toNat)[k]/\(k:Int)=i-c.next:=fun{i} G I=>by
  refine⟨(i-c.next).toNat,by rw[co];omega,?_,by omega⟩;rw[N];have:((c.next.toNat+(i-c.next).toNat:Nat):Int)=i:=by omega
  rw[this]
 have L:∀m∈K.p.aD.drop c.next.toNat,A m.aP=true->frm<=m.at_/\m.at_<=known:=λm O U=>by
  obtain⟨k,D,rfl⟩:=List.mem_iff_getElem.1 O;rw[N k D]at U⊢;rw[co]at D;exact hm _ (by omega) (by omega) U
 unfold BW;rw[M];rcases Q94 Y _ c.next.toNat L with⟨G,I⟩|⟨j,V,G,I,h3⟩
 ·refine .inl ⟨G,λi i1 X=> ?_⟩;obtain⟨k,D,e,-⟩:=em i1 X;rw[e];exact I _ (ca D)
 ·rw[N j V]at G I;have T:=V;rw[co]at T;refine .inr ⟨_,G,by omega,by omega,I,λi i1 X=> ?_⟩;obtain⟨k,D,e,e2⟩:=em (i:=i) i1 (by omega);rw[e];exact h3 k (by omega)
theorem PX (h:KOK K) (c:Cv):c.m0<=B2 K c:=(Qo5 c.m0 (stL K c) (PO h.plan c.m1 c.m2).2).1
theorem Zzd (h:KOK K) {n:Int} {c:Cv} (g:Gd K n c) (D:0<=n/\n<=10000):Sc K c=B2 K c:=by
 have:=Zaq g D;unfold Sc one;rw[Znm h.plan (by omega) g.mo];rfl
def Jm (A:Int->Bool) (K:Kf) (c:Cv):Prop:=∀i:Int,c.next<=i->i<K.p.aD.length->A (mkK K i).aP=true->B2 K c<=256*A4 K.t (mkK K i).at_
theorem Zqv (h:KOK K) (mk:MarksOK K) {r z:Int} (U:0<=r) (D:0<=z) (G:z<=K.len) (V:r<=256*A4 K.t z):H5 K r<=z:=by
 have X:=mk.fw.wh z D G;have Y:=mk.fw.len;have L:i64 K.len:=h.len;unfold i64 at L;have hu:DM r=(r+255)/256:=by
  unfold DM;rw[Ad (x:=r+256),Ad (x:=r+256-1),bm (by omega)];rw[Ad];omega
 have M:0<=DM r:=by omega
 have N:DM r<=A4 K.t z:=by omega
 have O:=mk.fw.le D G N;unfold H5;split
 ·next I=>
  have T:AV K.t (DM r)<z:=by
   apply dk;intro q;have e:AV K.t (DM r)=z:=by omega
   have:=mk.fw.ge D G M (by omega);rw[e]at I;omega
  rw[Ad (by have:=(mk.fw.rg (DM r)).1;omega)];omega
 ·exact O
theorem Vn {A:Int->Bool} (h:KOK K) (mk:MarksOK K) {n:Int} {c:Cv} (g:Gd K n c) (M:0<=n/\n<=10000) (N:∀k,A k=true->Dl k c=true) (Y:0<=c.m0) (O:0<=c.next) (T:Jm A K c):
  (AS K c=(A4 K.t K.len,-1)/\∀i:Int,c.next<=i->i<K.p.aD.length->A (mkK K i).aP=false)\/
  ∃j:Int,AS K c=(A4 K.t (mkK K j).at_,j)/\c.next<=j/\j<K.p.aD.length/\Dl (mkK K j).aP c=true/\∀i:Int,c.next<=i->i<j->A (mkK K i).aP=false:=by
 have U:E2 K=K.len:=by unfold E2;rw[ab mk.closed]
 have he:=PX h c;unfold AS;rw[Zzd h g M,U];have V:=Z4m (K:=K) (known:=K.len) (frm:=H5 K (B2 K c)) N O λi i1 L X=>by
  have D:=mk.at_ i (by omega) L;exact⟨Zqv h mk (by omega) D.1 D.2 (T i i1 L X),D.2⟩
 rcases V with⟨G,I⟩|⟨j,G,I⟩
 ·rw[G];exact .inl ⟨rfl,I⟩
 ·rw[G];exact .inr ⟨j,rfl,I⟩
theorem Jm.bC {A:Int->Bool} (h:KOK K) (mk:MarksOK K) {n:Int} {c e:Cv} (g:Gd K n c) (V:0<=n/\n<=10000) (X:∀k,A k=true->Dl k c=true) (Y:0<=c.m0) (hx:0<=c.next) (O:Jm A K c)
  (he:EndQ K c e (AS K c).1) (L:e.next=c.next):Jm A K e:=by
 intro i i1 I G;rw[L]at i1;rcases he with he|he
 ·rcases Vn h mk g V X Y hx O with⟨T,U⟩|⟨j,T,U,h3,h4,h5⟩
  ·rw[U i i1 I]at G;cases G
  ·rw[T]at he;dsimp only at he;have M:j<=i:=by
    apply dk;intro q;rw[h5 i i1 (by omega)]at G;cases G
   have D:=mk.at_ j (by omega) h3;have N:=mk.at_ i (by omega) I;have hw:=mk.fw.wh _ D.1 D.2;have hl:=mk.fw.len;have:=mk.fw.wmono D.1 (mk.mono j i (by omega) M I) N.2;rw[Ad]at he;omega
 ·rw[he];exact O i i1 I G
end Go.Bm
namespace Go.Bm
open Classical
theorem Qyy {dir:Int}:∀(k:Nat) (bG:Bool) (a b:Spk),∃l,AK dir k bG a b=l++[b]
 |0,_,_,b=>⟨[],rfl⟩
 |k+1,bG,a,b=>by
  unfold AK;split
  ·exact⟨[],rfl⟩
  ·obtain⟨l,D⟩:=Qyy (dir:=dir) k false (AI a b dir bG) b;rw[D];exact⟨AK dir k false a (AI a b dir bG)++l,by rw[df]⟩
theorem Q49 {it:Itm} (h:CE it) (G:it.aP=3) (p:Pt):CQ it (AE it p)=Aq p:=by
 obtain⟨D,-,M,-⟩:=h.2.2.2 G;obtain⟨I,L,N⟩:=QL it.aG it.ce;unfold CQ AE;simp only[I,L];unfold dU dW;have e1:plU it.aG it.ce*16+(plU it.aG p-plU it.aG it.ce)*16=plU it.aG p*16:=by omega
 have e2:plW it.aG it.ce*16+(plW it.aG p-plW it.aG it.ce)*16=plW it.aG p*16:=by omega
 rw[e1,e2];unfold spP plU plW plH Aq;rcases D with D|D|D<;>rw[D]<;>rfl
theorem Z6g {it:Itm} (h:CE it):∃l,Bv it=l++[Aq it.to]:=by
 unfold Bv;by_cases D:it.aP=3
 ·rw[ab D];unfold CJ;obtain⟨l,G⟩:=Qyy (dir:=it.dir) 16 it.bG (AE it it.fr) (AE it it.to);rw[G];refine⟨(AE it it.fr::l).map (CQ it),?_⟩;rw[<-Q49 h D,<-az,bt];rfl
 ·rw[aa D];exact⟨[Aq it.fr],rfl⟩
theorem Yad {aA:List Itm} {frm:Int} (h:CE (vE aA i)) (D: ¬0<=BE aA i):∃l,BY aA i frm=l++[Aq (vE aA i).to]:=by
 unfold BY;by_cases c:smI (vE aA i)
 ·rw[ab c];unfold Gm;rw[aa D];unfold Bv;rw[aa (by have:=c.1;omega)];exact⟨_,rfl⟩
 ·rw[aa c];exact Z6g h
theorem Q5z (l:List Pt) (q:Pt) (s:List Sgm×Int×Pt):((l++[q]).foldl (AU a k u) s).2.2=q:=by
 rw[List.foldl_append,dv,List.foldl_nil];generalize l.foldl (AU a k u) s=t;unfold AU;split
 ·rename_i c;exact c.symm
 ·rfl
theorem Q5x {aU aZ aX:Int}:∀(D:List Pt) (s:List Sgm×Int×Pt),∃l,(D.foldl (AU aU aZ aX) s).1=s.1++l
 |[],s=>⟨[],by simp⟩
 |q::D,s=>by
  rw[dv];obtain⟨l,G⟩:=Q5x (aU:=aU) (aZ:=aZ) (aX:=aX) D (AU aU aZ aX s q);rw[G];unfold AU;split
  ·exact⟨l,rfl⟩
  ·exact⟨_::l,(df _ _ _).trans rfl⟩
theorem Zd6 (aA:List Itm) (i:Nat) (s:BSt):∃l,(Dh aA i s).aF=s.aF++l:=by
 unfold Dh;split
 ·exact Q5x _ _
 ·exact⟨[],by simp⟩
theorem Quk (aA:List Itm) (i:Nat):∀k,∃l,(At aA (i+k)).aF=(At aA i).aF++l
 |0=>⟨[],by simp⟩
 |k+1=>by
  obtain⟨l,D⟩:=Quk aA i k;obtain⟨m,G⟩:=Zd6 aA (i+k) (At aA (i+k));refine⟨l++m,?_⟩;show(Dh aA (i+k) (At aA (i+k))).aF=_;rw[G,D,df]
theorem Q87 {l:List Sgm} (h:∀g∈l,1<=g.len):0<=As l:=by
 induction l with
 |nil=>simp[As]
 |cons k l D=>
  have:=D λg G=>h g (by simp[G]);have:=h k (by simp);simp only[As];omega
theorem Zg8 (l m:List Sgm):As (l++m)=As l+As m:=by
 induction l with
 |nil=>simp[As]
 |cons k l D=>simp only[az,As,D];omega
structure okW (R : Nat) (s : Spk) : Prop where
 ok:okS s
 u:s.u.natAbs<=R
 w:s.w.natAbs<=R
 r:s.r<=R
theorem Zr2 {a b:Spk} (G:okW i a) (hb:okW i b) {dir:Int} (I:dir=1\/dir= -1) (bG:Bool):okW i (AI a b dir bG):=by
 have D:=L2 G.ok hb.ok I bG;have L:=Qfm G.ok.2.2.1 hb.ok.2.2.1;have M:hf a.r b.r<=i:=by have:=G.r;have:=hb.r;unfold hf;omega
 refine⟨ZL G.ok hb.ok I bG,?_,?_,?_⟩;all_goals
  unfold AI Dg;split
  ·simp
  ·rename_i h;obtain⟨N,O⟩:=Qf8 D.1 D.2 L h;simp only;omega
theorem Qit {R:Nat} {dir:Int} (G:dir=1\/dir= -1):∀(k:Nat) (bG:Bool) {a b:Spk},okW R a->okW R b->∀s∈AK dir k bG a b,okW R s
 |0,_,a,b,_,hb,s,D=>by simp[AK]at D;subst D;exact hb
 |k+1,bG,a,b,I,hb,s,D=>by
  unfold AK at D;have L:=Zr2 I hb G bG;split at D
  ·simp at D;subst D;exact hb
  ·rcases be.1 D with D|D
   ·exact Qit G k false I L s D
   ·exact Qit G k false L hb s D
theorem Qsd {it:Itm} {c:Nat} (D:bd 1048576 it.ce) (G:bd 1048576 d) (T:(dU it d).natAbs<=c) (U:(dW it d).natAbs<=c):okW (32*c+1) (AE it d):=by
 obtain⟨g1,g2,M,N⟩:=N_ D G;refine⟨L0 D G,?_,?_,?_⟩
 ·show(dU it d*16).natAbs<=_;omega
 ·show(dW it d*16).natAbs<=_;omega
 ·show EX _<=_;obtain⟨n,I⟩:=bh M;have hle:n<=(32*c)*(32*c):=by
   have V:=B0 (x:=dU it d*16) (A:=16*c) (by omega);have X:=B0 (x:=dW it d*16) (A:=16*c) (by omega);have e:(32*c)*(32*c)=4*(16*c*(16*c)):=by grind
   unfold sq2 at I;generalize 16*c*(16*c)=m at*;omega
  rw[I]at N⊢;obtain⟨r,L,O⟩:=KR n;rw[NN (QC L O)];have:r<=32*c:=jx.1 (cb L hle);split<;>omega
theorem Z6c {it:Itm} (h:Made it) (O:bd 40004 it.fr) (U:bd 40004 it.to):∀p∈Bv it,bd 1000000 p:=by
 have V:=Qlt h (AR O (by omega)) (AR U (by omega));intro p I;unfold Bv at I;by_cases T:it.aP=3
 ·rw[ab T]at I;obtain⟨G,hd,hc,-⟩:=V.2.2.2 T;have L:=h.arc T;obtain⟨-,X⟩:=Ue L (by omega) O;obtain⟨r,k,t,g,x,e1,e2,e3,e4,e5,e6,e7,e8,e9,a0,a3,M,Y⟩:=L.ends;obtain⟨⟨r1,r2⟩,r3,r4⟩:=KZ (r:=r) (k:=k) (by omega);obtain⟨⟨r5,r6⟩,r7,r8⟩:=KZ (r:=r+g) (k:=k+t) (by omega);have a1:(dU it it.fr).natAbs<=20/\(dW it it.fr).natAbs<=20:=by unfold dU dW;rw[M,(DD G).1,(DD G).2.1];omega
  have a2:(dU it it.to).natAbs<=20/\(dW it it.to).natAbs<=20:=by unfold dU dW;rw[M,Y,(DD G).1,(DD G).1,(DD G).2.1,(DD G).2.1];omega
  have k1:=Qsd hc V.2.1 a1.1 a1.2;have k2:=Qsd hc V.2.2.1 a2.1 a2.2;simp only[bc]at I;obtain⟨s,D,rfl⟩:=I
  have hh:∀s∈CJ it,s.h.natAbs<=640064:=by
   have key:∀(k:Nat) (bG:Bool) (a b:Spk),a.h.natAbs<=640064->b.h.natAbs<=640064->∀s∈AK it.dir k bG a b,s.h.natAbs<=640064:=by
    intro k;induction k with
    |zero=>intro bG a b L hb s D;simp[AK]at D;subst D;exact hb
    |succ k ih=>
     intro bG a b L hb s D;have hm:(AI a b it.dir bG).h.natAbs<=640064:=by
      unfold AI Dg;split
      ·simp
      ·show(hf a.h b.h).natAbs<=_;unfold hf;omega
     unfold AK at D;split at D
     ·simp at D;subst D;exact hb
     ·rcases be.1 D with D|D
      ·exact ih false _ _ L hm s D
      ·exact ih false _ _ hm hb s D
   have f1:=(FN (pl:=it.aG) O).2.2;have f2:=(FN (pl:=it.aG) U).2.2;have b1:(AE it it.fr).h.natAbs<=640064:=by show(plH it.aG it.fr*16).natAbs<=_;omega
   have b2:(AE it it.to).h.natAbs<=640064:=by show(plH it.aG it.to*16).natAbs<=_;omega
   intro s D;rcases av.1 D with rfl|D
   ·exact b1
   ·exact key 16 _ _ _ b1 b2 s D
  have N:okW (32*20+1) s:=by
   rcases av.1 D with rfl|D
   ·exact k1
   ·exact Qit hd 16 _ k1 k2 s D
  have a4:=hh s D;obtain⟨c1,c2,-⟩:=FN (pl:=it.aG) (Er X);have u1:=N.u;have u2:=N.w;have:(8:Int).toNat=8:=rfl;unfold CQ;exact Qjc (by omega) (by omega) (by omega)
 ·rw[aa T]at I;simp at I;rcases I with rfl|rfl
  ·exact AR (Er O) (by decide)
  ·exact AR (Er U) (by decide)
theorem Q29:∀{l:List Itm} {p:Pt},(∀it∈l,AA it)->LJ p l->ED p l
 |[],_,_,_=>trivial
 |it::l,p,h,D=>by
  unfold ED;rw[ab (h it (by simp))];exact⟨D.1,Q29 (λi G=>h i (by simp[G])) D.2⟩
theorem Zih {l:List Itm} (h:Motions 40004 d l):Items 40004 d l:=by
 have G:∀it∈l,AA it:=λit D=>by have:=h.made it D;exact⟨by have:=this.1.aP;omega,by have:=this.2.2.1;omega⟩
 exact⟨Q29 G h.chain,λit D=> .inl ⟨G it D,(h.made it D).1,(h.made it D).2.1,(h.made it D).2.2.2⟩⟩
theorem Oq (aA:List Itm):AF aA=⟨(At aA aA.length).aQ,(At aA aA.length).aF,(At aA aA.length).aD⟩:=rfl
noncomputable def mkA (aA:List Itm) (i:Nat):Mrk:=⟨(At aA (i+1)).len,if AA (vE aA i)then Iw aA i else Qv (vE aA i),i⟩
theorem TF (aA:List Itm):∀n,(At aA n).aD=(List.range n).map (mkA aA)
 |0=>rfl
 |n+1=>by
  rw[List.range_succ,bt,<-TF aA n];show(Dh aA n (At aA n)).aD=_;unfold mkA;show _=_++[(⟨(Dh aA n (At aA n)).len,_,_⟩:Mrk)];unfold Dh;by_cases c:AA (vE aA n)
  ·simp only[ab c]
  ·simp only[aa c]
theorem Q9z:∀l:List Itm,FE l=1\/FE l=2
 |[]=> .inr rfl
 |it::l=>by
  unfold FE
  repeat' split
  all_goals first|exact .inl rfl|exact .inr rfl|exact Q9z l
theorem Zii (aA:List Itm) (i:Nat):Iw aA i=6\/Iw aA i=1\/Iw aA i=2:=by
 unfold Iw;have:=Q9z (aA.drop (i+1))
 repeat' split
 all_goals omega
theorem Qb {aA:List Itm} (h:BInv (At aA i)):(At aA i).len=As (At aA i).aF:=by
 by_cases hb:(At aA i).bI=true
 ·exact(h.bI hb).2.2.2.symm
 ·obtain⟨D,G,-⟩:=h.empty (by simpa using hb);rw[D,G];rfl
theorem Z90 {aA:List Itm} (D:∀j<aA.length,¬B9 (vE aA j)) {i:Nat} (G:i<=aA.length):∀g∈(At aA i).aF,1<=g.len:=by
 have h:=Ia D i G;by_cases hb:(At aA i).bI=true
 ·exact λg I=>(Q6 (h.bI hb).1 (h.bI hb).2.1 g I).1
 ·rw[(h.empty (by simpa using hb)).1];simp
theorem Q95 {aA:List Itm} (D:∀j<aA.length,¬B9 (vE aA j)) {i k:Nat} (h:i+k<=aA.length):0<=(At aA i).len/\(At aA i).len<=(At aA (i+k)).len:=by
 rw[Qb (Ia D i (by omega)),Qb (Ia D (i+k) h)];obtain⟨l,L⟩:=Quk aA i k;have I:=Z90 D h;rw[L]at I⊢;rw[Zg8];have M:=Q87 (l:=(At aA i).aF) λg G=>I g (by simp[G]);have N:=Q87 (l:=l) λg G=>I g (by simp[G]);omega
theorem Zvp {aA:List Itm} (D:∀j<aA.length,¬B9 (vE aA j)) {i:Nat} (G:i<aA.length):
  0<=(mkA aA i).at_/\(mkA aA i).at_<=As (AF aA).aF:=by
 have h:=Q95 D (i:=i+1) (k:=aA.length-(i+1)) (by omega);rw[show i+1+(aA.length-(i+1))=aA.length by omega]at h;refine⟨h.1,?_⟩;have:=Qb (Ia D aA.length (cm _));rw[Oq];simp only;rw[<-this];exact h.2
end Go.Bm
namespace Go.Bm
structure Ix (A : Int -> Bool) (K : Kf) (c : Cv) : Prop where
 m0:0<=c.m0
 next:0<=c.next
 j:Jm A K c
 task:c.on=true->c.next<=c.idx/\c.idx<K.p.aD.length/\∀i:Int,c.next<=i->i<c.idx->A (mkK K i).aP=false
theorem Jm.sub {A:Int->Bool} {c d:Cv} (h:Jm A K c) (he:B2 K d=B2 K c) (I:c.next<=d.next):Jm A K d:=λi i1 D G=>by
 rw[he];exact h i (by omega) D G
theorem ix0 {A:Int->Bool} (h:KOK K) (mk:MarksOK K):Ix A K BT:=by
 refine⟨cz _,cz _,λi i1 G _=> ?_,λI=>by cases I⟩;have D:=mk.at_ i i1 G;have L:=mk.fw.wh _ D.1 D.2;have e:B2 K BT=0:=by
  unfold B2;rw[Quw h.plan (c:=BT) (Qmc h.plan) (cz _)];rfl
 rw[e];omega
theorem Qt7 {c d:Cv} (D:d.m0=c.m0) (G:d.m1=c.m1) (I:d.m2=c.m2):B2 K d=B2 K c:=by unfold B2;rw[Zlm G I,D]
theorem Zl8 (h:KOK K) {c:Cv} (D:c.m0=0) (G:c.m1=0) (I:c.m2=0):B2 K c=0:=by
 unfold B2;have L:Mo K c:=by
  unfold Mo;rw[G,I];exact Qmc h.plan
 rw[Quw h.plan L (by omega),D];rfl
theorem SN {aA:List Itm} (D:K.p=AF aA) {i:Int} (L:0<=i) (M:i<aA.length):mkK K i=mkA aA i.toNat:=by
 have G:i.toNat<aA.length:=by omega
 have I:i.toNat<(At aA aA.length).aD.length:=by rw[TF];simpa using G
 unfold mkK;rw[D,Oq];simp only;rw[List.getD,ag I];simp only[TF,fj,List.getElem_range];rfl
theorem Qnq (aA:List Itm):(AF aA).aD.length=aA.length:=by rw[Oq];simp[TF]
theorem Q89 {x:Ax3} {pa pb pc bF lag:Int} {aA:List Itm} (M:Ax3OK x) (N:GoodPath (AF aA)) (D:∀j<aA.length,¬B9 (vE aA j)):MarksOK (kfP x pa pb pc bF lag aA true):=by
 have O:=Qnq aA;refine⟨Q43 M N,rfl,λi G I=> ?_,λi j G I L=> ?_⟩
 ·have I:i<(AF aA).aD.length:=I;rw[SN (aA:=aA) rfl G (by omega)];exact Zvp D (by omega)
 ·have L:j<(AF aA).aD.length:=L;rw[SN (aA:=aA) rfl G (by omega),SN (aA:=aA) rfl (by omega) (by omega)];have:=(Q95 D (i:=i.toNat+1) (k:=j.toNat-i.toNat) (by omega)).2;rw[show i.toNat+1+(j.toNat-i.toNat)=j.toNat+1 by omega]at this;exact this
end Go.Bm
namespace Go.Bm
open Classical
end Go.Bm
namespace Go.Bm
def A0 (k:Int):Bool:=k==1||(k==3||k==6)
theorem Qfp {c:Cv} (k:Int) (h:A0 k=true):Dl k c=true:=by
 unfold A0 at h;unfold Dl;simp only[Bool.or_eq_true]at*;rcases h with h|h|h
 ·exact .inl h
 ·exact .inr (.inl h)
 ·exact .inr (.inr (.inl h))
theorem Zmb (h:∀g∈K.p.aF,g.aX=0) (c:Cv):(vF K c).aX=0:=by
 unfold vF;cases e:Ga K c with
 |none=>rfl
 |some g=>exact h g (VW e)
structure Rs (c d : Cv) : Prop where
 m0:d.m0=c.m0
 m1:d.m1=c.m1
 m2:d.m2=c.m2
 m3:d.m3=c.m3
 m4:d.m4=c.m4
 next:d.next=c.next
 on:d.on=c.on
 aI:d.aI=c.aI
 aH:d.aH=c.aH
 y0:d.y0=c.y0
 g0:d.g0=c.g0
 o3:d.o3=c.o3
 o4:d.o4=c.o4
 way:d.way=c.way
 home:d.home=c.home
theorem Rs.still {c d:Cv} (s:Rs c d):BL d=BL c:=by unfold BL;rw[s.m0,s.m1,s.m2,s.m3,s.m4]
def Beg (K:Kf) (c:Cv) (E:List Evn) (d:Cv):Prop:=E9 K c E=(K,d)/\Rs c d/\d.aM=BL c
theorem Zc6 (K:Kf) (c:Cv):QH K c []=(K,DY c):=rfl
def dnC (d:Cv) (i:Int):Cv:={d with next:=i+1,on:=false,idx:=0,aN:=false,cnt:=0}
theorem Znb (K:Kf) (c:Cv) (s:Int):∃n q:Int,(Jf K c s).2={c with aK:=n,outs:=q}:=by
 unfold Jf;split
 ·exact Q6i K c s
 ·exact⟨c.aK,c.outs,rfl⟩
theorem Q24 {c:Cv}:BL c=true↔c.m1=0/\c.m2=0/\c.m3=c.m0/\c.m4=c.m0:=by
 unfold BL;simp only[aj,beq_iff_eq]
end Go.Bm
namespace Go.Bm
open Classical
def Bo (l:List Int):List Int:=(List.range (l.length-1)).map λi=>V (l.getD (i+1) 0-l.getD i 0)
theorem Zr (l:List Int):(Bo l).length=l.length-1:=by unfold Bo;simp
theorem Qmj {l:List Int} (h:i<l.length):nth [] (l.map Aj) i=Aj (l.getD i 0):=by
 rw[GO Aj [] l i h,List.getD,ag h];rfl
theorem Z15 {l:List Int} (h:l.length<=100000):O_ [.vC Aa (l.map Aj)]=some [.vC Aa ((Bo l).map Aj)]:=by
 show Se (Am Ry) [.vC Aa (l.map Aj)]=_;rw[Qwf];have key:Out (λo=>o=(1,[.vC Aa ((Bo l).map Aj)])) (Am Ry [.vC Aa (([]:List Int).map Aj), .vC Aa (l.map Aj),I ((1:Nat):Int)]):=by
  refine Cd (λs:Nat=>[.vC Aa (((List.range (s-1)).map λi=>V (l.getD (i+1) 0-l.getD i 0)).map Aj), .vC Aa (l.map Aj),I (s:Int)]) (λs=>1<=s/\s<=max l.length 1) (λs=>l.length+1-s) _ ?_ 1 ⟨by omega,by omega⟩;rintro i ⟨g1,g2⟩;rw[Q4l];rw[Ad (x:=(i:Int)-1),Ad (x:=(i:Int)+1)];have G:((l.map Aj).length:Int)=l.length:=by rw[ac]
  refine .cond (λc=> ?_) (λc=> ?_)
  ·have c:=Bg c;refine .cond (λ_=> ?_) λe=>(inB (by omega) c e).elim;refine .cond (λ_=> ?_) λe=>(inB (by omega) (by omega) e).elim;refine .cond (λ_=> ?_) λc=>by rw[BF (by simp;omega)]at c;cases c
   have e1:((i:Int)-1).toNat=i-1:=by omega
   rw[af,e1,Qmj (by omega),Qmj (by omega)];refine .some (.inl ⟨rfl,i+1,?_,⟨by omega,by omega⟩,by omega⟩);have e2:i+1-1=(i-1)+1:=by omega
   have e3:l.getD i 0=l.getD (i-1+1) 0:=by rw[show i-1+1=i by omega]
   dsimp only;rw[e2,List.range_succ,bt,bt];show _=[AC.vC Aa (_++[Aj (V (l.getD (i-1+1) 0-l.getD (i-1) 0))]),_,I ((i+1:Nat):Int)];rw[<-e3];rfl
  ·have c:=Bd c;refine .some (.inr ⟨by simp,?_⟩);unfold Bo;have:i-1=l.length-1:=by omega
   rw[this]
 obtain⟨o,D,rfl⟩:=key;exact eB D rfl
def BdP (l:List Int) (n:Int):Prop:=∀v∈l,¬v>n/\ ¬v<V (0-n)
theorem Z0a {l:List Int} (n:Int) (h:l.length<=100000):NF [.vC Aa (l.map Aj),I n]=some [B (decide (BdP l n))]:=by
 show RB (Am Pu) [.vC Aa (l.map Aj),I n]=_;rw[Qq5];have key:Out (λo=>(o=(1,[B false])/\ ¬BdP l n)\/(o=(2,[])/\BdP l n)) (Am Pu [I n, .vC Aa (l.map Aj),I ((l.map Aj).length:Int),I ((0:Nat):Int)]):=by
  refine Cd (λs:Nat=>[I n, .vC Aa (l.map Aj),I ((l.map Aj).length:Int),I (s:Int)]) (λs=>s<=l.length/\BdP (l.take s) n) (λs=>l.length-s) _ ?_ 0 ⟨by omega,λv D=>by simp at D⟩;rintro i ⟨g1,g2⟩;rw[Q2x];rw[Ad (x:=(i:Int)+1)];have U:((l.map Aj).length:Int)=l.length:=by rw[ac]
  refine .cond (λc=> ?_) (λc=> ?_)
  ·have c:=Bg c;refine .cond (λ_=> ?_) λe=>(inB (by omega) c e).elim;rw[af,Qmj (by omega)];have N:i<l.length:=by omega
   have em:l.getD i 0=l[i]:=by rw[List.getD,ag N];rfl
   have O:l.getD i 0∈l:=by rw[em];exact ca N
   refine .cond (λG=> ?_) λG=> .cond (λL=> ?_) λL=> ?_
   ·have G:l.getD i 0>n:=Bg G;exact .some (.inr ⟨by simp, .inl ⟨rfl,λq=>(q _ O).1 G⟩⟩)
   ·have L:l.getD i 0<V (0-n):=Bg L;exact .some (.inr ⟨by simp, .inl ⟨rfl,λq=>(q _ O).2 L⟩⟩)
   ·have G: ¬l.getD i 0>n:=Bd G;have L: ¬l.getD i 0<V (0-n):=Bd L;refine .some (.inl ⟨rfl,i+1,rfl,⟨by omega,λv D=> ?_⟩,by omega⟩);rw[gv,ag N,be]at D;rcases D with D|D
    ·exact g2 v D
    ·have:v=l.getD i 0:=by rw[em];simpa using D
     rw[this];exact⟨G,L⟩
  ·have c:=Bd c;have:i=l.length:=by omega
   rw[this,jg]at g2;exact .some (.inr ⟨by simp, .inr ⟨rfl,g2⟩⟩)
 obtain⟨o,T,M⟩:=key;refine eB T ?_;rcases M with⟨rfl,M⟩|⟨rfl,M⟩
 ·rw[al M];rfl
 ·rw[ai M];rfl
def WiP (a:Axs) (l:List Int):Prop:=BdP (Bo l) a.aS/\BdP (Bo (Bo l)) a.bD/\BdP (Bo (Bo (Bo l))) a.bE
theorem Ze8 {a:Axs} {l:List Int} (h:l.length<=100000):KV (Bs a++[.vC Aa (l.map Aj)])=some [B (decide (WiP a l))]:=by
 have key:∀{D G:Fn},(∀{l:List Int},l.length<=100000->G [.vC Aa (l.map Aj)]=some [.vC Aa ((Bo l).map Aj)])->(∀{l:List Int} (n:Int),l.length<=100000->D [.vC Aa (l.map Aj),I n]=some [B (decide (BdP l n))])->
   Ta D G [I a.step,I a.aS,I a.bD,I a.bE,I a.low,I a.aY,I a.bB,I a.aV,I a.aO, .vC Aa (a.aW.map Aj), .vC Aa (l.map Aj)]=some [B (decide (WiP a l))]:=by
  intro D G L hB;rw[Zbe];have M:=Zr l;have N:=Zr (Bo l);have O:=Zr (Bo (Bo l));refine eB (L h) (eB (hB a.aS (by omega)) ?_);by_cases b1:BdP (Bo l) a.aS
  ·refine eF (by rw[ai b1];rfl) (eB (L (l:=Bo l) (by omega)) (eB (hB a.bD (by omega)) ?_));by_cases b2:BdP (Bo (Bo l)) a.bD
   ·refine eF (by rw[ai b2];rfl) (eB (L (l:=Bo (Bo l)) (by omega)) (eB (hB a.bE (by omega)) ?_));by_cases b3:BdP (Bo (Bo (Bo l))) a.bE
    ·rw[ai (show WiP a l from⟨b1,b2,b3⟩)];exact eF (by rw[ai b3];rfl) rfl
    ·rw[al (show¬WiP a l from λq=>b3 q.2.2)];exact eT (by rw[al b3];rfl) rfl
   ·rw[al (show¬WiP a l from λq=>b2 q.2.1)];exact eT (by rw[al b2];rfl) rfl
  ·rw[al (show¬WiP a l from λq=>b1 q.1)];exact eT (by rw[al b1];rfl) rfl
 exact key Z15 Z0a
def FT (x:Ax3) (l:List Pt):Prop:=WiP x.a (l.map (·.x))/\WiP x.b (l.map (·.y))/\WiP x.c (l.map (·.z))
theorem Zcf {α:Type} (A:List α) (b y:α) (R:List α):(A++b::R).set A.length y=(A++[y])++R:=by simp
theorem Qon {x:Ax3} (X:0<=k/\k<=2) {l:List Pt} (Y:l.length<=100000) {f:Pt->Int} (hf:f=if k=0 then(·.x)else if k=1 then(·.y)else(·.z)):
  Out (λo=>o=(1, .vC Aa ((l.map f).map Aj):: .vC kPt (l.map ptR)::I k::I k::AG x)) (Am (HN M) (.vC Aa (((l.take 0).map f).map Aj++List.replicate (l.length-0) [I 0]):: .vC kPt (l.map ptR)::I k::I k::I ((l.map ptR).length:Int)::I ((0:Nat):Int)::AG x)):=by
 refine Cd (λs:Nat=> .vC Aa (((l.take s).map f).map Aj++List.replicate (l.length-s) [I 0]):: .vC kPt (l.map ptR)::I k::I k::I ((l.map ptR).length:Int)::I (s:Int)::AG x) (λs=>s<=l.length) (λs=>l.length-s) _ ?_ 0 (by omega);intro i g;refine Out.eqv (Qxf M _ (l.map ptR) k k ((l.map ptR).length:Int) i x.a.step x.a.aS x.a.bD x.a.bE x.a.low x.a.aY x.a.bB x.a.aV x.a.aO (x.a.aW.map Aj) x.b.step x.b.aS x.b.bD x.b.bE x.b.low x.b.aY x.b.bB x.b.aV x.b.aO (x.b.aW.map Aj) x.c.step x.c.aS x.c.bD x.c.bE x.c.low x.c.aY x.c.bB x.c.aV x.c.aO (x.c.aW.map Aj)) ?_;rw[Ad (x:=(i:Int)+1)];have el:((l.map ptR).length:Int)=l.length:=by rw[ac]
 refine .cond (λc=> ?_) (λc=> ?_)
 ·have c:=Bg c;have O:i<l.length:=by omega
  have hlen:(((l.take i).map f).map Aj++List.replicate (l.length-i) [I 0]).length=l.length:=by
   rw[aq,ac,ac,d9,List.length_replicate];omega
  have T:(((l.take i).map f).map Aj).length=i:=by rw[ac,ac,d9];omega
  have U:nth [] (l.map ptR) (i:Int).toNat=ptR l[i]:=by rw[af];exact GO _ _ _ _ O
  have N:∀y:Int,y=f l[i]->(((l.take i).map f).map Aj++List.replicate (l.length-i) [I 0]).set (i:Int).toNat [I y]=((l.take (i+1)).map f).map Aj++List.replicate (l.length-(i+1)) [I 0]:=λy V=>by
   have e1:l.length-i=(l.length-(i+1))+1:=by omega
   rw[af,e1,jh];have:=Zcf (((l.take i).map f).map Aj) [I 0] [I y] (List.replicate (l.length-(i+1)) [I 0]);rw[T]at this;rw[this,gv,ag O,V,bt,bt];rfl
  refine .cond (λ_=> ?_) λe=>(inB (by omega) c e).elim;rw[U];refine .cond (λD=> ?_) λD=> .cond (λG=> ?_) λG=> .cond (λL=> ?_) λL=> ?_
  ·have D:k=0:=Bg D;rw[ab D]at hf;refine .cond (λ_=> ?_) λe=>(inB (by omega) (by omega) e).elim;refine .some (.inl ⟨rfl,i+1,?_,by omega,by omega⟩);dsimp only;rw[<-N l[i].x (by rw[hf])];rfl
  ·have D: ¬k=0:=Bd D;have G:k=1:=Bg G;rw[aa D,ab G]at hf;refine .cond (λ_=> ?_) λe=>(inB (by omega) (by omega) e).elim;refine .some (.inl ⟨rfl,i+1,?_,by omega,by omega⟩);dsimp only;rw[<-N l[i].y (by rw[hf])];rfl
  ·have D: ¬k=0:=Bd D;have G: ¬k=1:=Bd G;rw[aa D,aa G]at hf;refine .cond (λ_=> ?_) λe=>(inB (by omega) (by omega) e).elim;refine .some (.inl ⟨rfl,i+1,?_,by omega,by omega⟩);dsimp only;rw[<-N l[i].z (by rw[hf])];rfl
  ·have D:=Bd D;have G:=Bd G;have L:=Bd L
   have D: ¬k=0:=D;have G: ¬k=1:=G;have L: ¬k=2:=L;omega
 ·have c:=Bd c;have e:i=l.length:=by omega
  subst e;refine .some (.inr ⟨by simp,?_⟩);rw[jg,i8];simp
theorem Zvq {x:Ax3} {l:List Pt} (G:l.length<=100000):JW (AG x++[.vC kPt (l.map ptR)])=some [B (decide (FT x l))]:=by
 have key:∀{M:Fn},(∀{a:Axs} {l:List Int},l.length<=100000->M (Bs a++[.vC Aa (l.map Aj)])=some [B (decide (WiP a l))])->
   Qw M (Am (HN M)) (Am (NH M (Am (HN M)))) (AG x++[.vC kPt (l.map ptR)])=some [B (decide (FT x l))]:=by
  intro M O;refine(Qtm M _ _ x.a.step x.a.aS x.a.bD x.a.bE x.a.low x.a.aY x.a.bB x.a.aV x.a.aO (x.a.aW.map Aj) x.b.step x.b.aS x.b.bD x.b.bE x.b.low x.b.aY x.b.bB x.b.aV x.b.aO (x.b.aW.map Aj) x.c.step x.c.aS x.c.bD x.c.bE x.c.low x.c.aY x.c.bB x.c.aV x.c.aO (x.c.aW.map Aj) (l.map ptR)).trans ?_;have L:Out (λo=>(o=(1,[B false])/\ ¬FT x l)\/(o=(2,[])/\FT x l)) (Am (NH M (Am (HN M))) (.vC kPt (l.map ptR)::I ((0:Nat):Int)::AG x)):=by
   refine Cd (λs:Nat=> .vC kPt (l.map ptR)::I (s:Int)::AG x) (λs=>s<=3/\(0<s->WiP x.a (l.map (·.x)))/\(1<s->WiP x.b (l.map (·.y)))/\(2<s->WiP x.c (l.map (·.z)))) (λs=>3-s) _ ?_ 0 ⟨by omega,by omega,by omega,by omega⟩;rintro k ⟨X,g1,g2,U⟩;refine Out.eqv (Qve M _ (l.map ptR) k x.a.step x.a.aS x.a.bD x.a.bE x.a.low x.a.aY x.a.bB x.a.aV x.a.aO (x.a.aW.map Aj) x.b.step x.b.aS x.b.bD x.b.bE x.b.low x.b.aY x.b.bB x.b.aV x.b.aO (x.b.aW.map Aj) x.c.step x.c.aS x.c.bD x.c.bE x.c.low x.c.aY x.c.bB x.c.aV x.c.aO (x.c.aW.map Aj)) ?_;refine .cond (λc=> ?_) (λc=> ?_)
   ·have c:=Bg c;refine .cond (λ_=> ?_) λc=>by simp at c
    refine .cond (λ_=> ?_) λc=>by simp at c;omega
    have T:k=0\/k=1\/k=2:=by omega
    rcases T with rfl|rfl|rfl
    ·have D:=Qon (M:=M) (x:=x) (k:=((0:Nat):Int)) (by omega) G (f:=(·.x)) (by simp);have e0:((l.take 0).map (·.x)).map Aj++List.replicate (l.length-0) [I 0]=List.replicate ((l.map ptR).length:Int).toNat [I 0]:=by simp
     rw[e0]at D;refine .bind (p:=λo=>o=_) D λo e=> ?_;subst e;refine .cond (λ_=> ?_) λc=>by simp at c
     refine .cond (λ_=> ?_) λc=>by simp[gA,nth,Ag]at c
     refine .bind (p:=λo=>o=_) ⟨_,O (a:=x.a) (l:=l.map (λp:Pt=>p.x)) (by rw[ac];exact G),rfl⟩ λo e=> ?_;subst e;by_cases q:WiP x.a (l.map (·.x))
     ·rw[ai q];exact .some (.inl ⟨rfl,1,rfl,⟨by omega,λ_=>q,by omega,by omega⟩,by omega⟩)
     ·rw[al q];exact .some (.inr ⟨by simp, .inl ⟨rfl,λa=>q a.1⟩⟩)
    ·have D:=Qon (M:=M) (x:=x) (k:=((1:Nat):Int)) (by omega) G (f:=(·.y)) (by simp);have e0:((l.take 0).map (·.y)).map Aj++List.replicate (l.length-0) [I 0]=List.replicate ((l.map ptR).length:Int).toNat [I 0]:=by simp
     rw[e0]at D;refine .bind (p:=λo=>o=_) D λo e=> ?_;subst e;refine .cond (λ_=> ?_) λc=>by simp at c
     refine .cond (λc=>by simp[gA,nth,Ag]at c) λ_=> ?_;refine .cond (λ_=> ?_) λc=>by simp[gA,nth,Ag]at c
     refine .bind (p:=λo=>o=_) ⟨_,O (a:=x.b) (l:=l.map (λp:Pt=>p.y)) (by rw[ac];exact G),rfl⟩ λo e=> ?_;subst e;by_cases q:WiP x.b (l.map (·.y))
     ·rw[ai q];exact .some (.inl ⟨rfl,2,rfl,⟨by omega,λ_=>g1 (by omega),λ_=>q,by omega⟩,by omega⟩)
     ·rw[al q];exact .some (.inr ⟨by simp, .inl ⟨rfl,λa=>q a.2.1⟩⟩)
    ·have D:=Qon (M:=M) (x:=x) (k:=((2:Nat):Int)) (by omega) G (f:=(·.z)) (by simp);have e0:((l.take 0).map (·.z)).map Aj++List.replicate (l.length-0) [I 0]=List.replicate ((l.map ptR).length:Int).toNat [I 0]:=by simp
     rw[e0]at D;refine .bind (p:=λo=>o=_) D λo e=> ?_;subst e;refine .cond (λ_=> ?_) λc=>by simp at c
     refine .cond (λc=>by simp[gA,nth,Ag]at c) λ_=> ?_;refine .cond (λc=>by simp[gA,nth,Ag]at c) λ_=> ?_;refine .cond (λ_=> ?_) λc=>by simp[gA,nth,Ag]at c
     refine .bind (p:=λo=>o=_) ⟨_,O (a:=x.c) (l:=l.map (λp:Pt=>p.z)) (by rw[ac];exact G),rfl⟩ λo e=> ?_;subst e;by_cases q:WiP x.c (l.map (·.z))
     ·rw[ai q];exact .some (.inl ⟨rfl,3,rfl,⟨by omega,λ_=>g1 (by omega),λ_=>g2 (by omega),λ_=>q⟩,by omega⟩)
     ·rw[al q];exact .some (.inr ⟨by simp, .inl ⟨rfl,λa=>q a.2.2⟩⟩)
   ·have c:=Bd c;exact .some (.inr ⟨by simp, .inr ⟨rfl,g1 (by omega),g2 (by omega),U (by omega)⟩⟩)
  obtain⟨o,V,N⟩:=L;refine eB V ?_;rcases N with⟨rfl,N⟩|⟨rfl,N⟩
  ·rw[al N];rfl
  ·rw[ai N];rfl
 exact key Ze8
theorem Z9b (D:0<=u) (G:u<=1000000000000000):Hs [I u]=some [I (u/256)]:=by
 show UN [I u]=_;rw[Q84];have e:u.tdiv 256=u/256:=bm D;have em: ¬u.tmod 256<0:=by have:=Int.tmod_nonneg (a:=u) 256 D;omega
 rw[B4 (al em),e,Ad]
abbrev MU (p:Pth) (x:Ax3) (t:Trk) (u:Int):Pt:=CR p x t (u/256)
def Ks (l:List Pt) (j:Nat):List Pt:=(l.take (j+1)).drop (j+1-4)
abbrev MK (K:Kf) (u:Int):Pt:=MU K.p K.x K.t u
structure LimX (a : Axs) : Prop where
 ls:1<=a.aS/\a.aS<=1000
 la:2<=a.bD/\a.bD<=1000
 lj:4<=a.bE/\a.bE<=1000
theorem Qmf {a:Axs} (h:LimX a) (v:Int):WiP a [v,v,v,v]:=by
 have D:V (v-v)=0:=by rw[Int.sub_self];rfl
 have L:V (0-0)=0:=rfl;have e1:Bo [v,v,v,v]=[0,0,0]:=by show [V (v-v),V (v-v),V (v-v)]=_;rw[D]
 have e2:Bo [0,0,0]=[0,0]:=rfl;have e3:Bo [0,0]=[0]:=rfl;have bd:∀{n:Int} {l:List Int},0<=n/\n<=1000->(∀v∈l,v=0)->BdP l n:=λM G v I=>by
  rw[G v I,Ad (x:=0-_)];omega
 have:=h.ls;have:=h.la;have:=h.lj
 unfold WiP;rw[e1,e2,e3];exact⟨bd (by omega) (by simp),bd (by omega) (by simp),bd (by omega) (by simp)⟩
theorem Z6a {x:Ax3} (h:Ax3M x) (p:Pt):FT x [p,p,p,p]:=
 ⟨Qmf ⟨by have:=h.a.lim;omega,by have:=h.a.lim;omega,by have:=h.a.lim;omega⟩ _,Qmf ⟨by have:=h.b.lim;omega,by have:=h.b.lim;omega,by have:=h.b.lim;omega⟩ _,Qmf ⟨by have:=h.c.lim;omega,by have:=h.c.lim;omega,by have:=h.c.lim;omega⟩ _⟩
theorem YP {x:Ax3} {mv:Int} {Q:Int->Pt->Prop}:∀{a s:Int} {d:Pt} {l:List Pce},chain x mv Q a s d l->a+l.length<=BJ a l
 |a,s,d,[],_=>by simp[BJ]
 |a,s,d,c::l,h=>by
  have:=YP h.2.2.2.2;have D:=h.2.2.1;show a+((c::l).length:Nat)<=BJ (a+c.aR) l;rw[bp];omega
theorem Qsx {aU aZ aX:Int}:∀(D:List Pt) (s:List Sgm×Int×Pt),∃l,(D.foldl (AU aU aZ aX) s).1=s.1++l/\∀g∈l,g.aU=aU/\g.aX=aX
 |[],s=>⟨[],by simp,by simp⟩
 |q::D,s=>by
  obtain⟨l,G,L⟩:=Qsx (aU:=aU) (aZ:=aZ) (aX:=aX) D (AU aU aZ aX s q);by_cases c:q=s.2.2
  ·have e:AU aU aZ aX s q=s:=by unfold AU;rw[ab c]
   rw[e]at G;exact⟨l,by rw[dv,e];exact G,L⟩
  ·have e:(AU aU aZ aX s q).1=s.1++[⟨q,Ay s.2.2 q,aU,aZ,aX⟩]:=by unfold AU;rw[aa c]
   refine⟨⟨q,Ay s.2.2 q,aU,aZ,aX⟩::l,?_,?_⟩
   ·rw[dv,G,e,df];rfl
   ·intro g I;rcases av.1 I with rfl|I
    ·exact⟨rfl,rfl⟩
    ·exact L g I
theorem Zla (aA:List Itm) (i:Nat):∃l,(At aA (i+1)).aF=(At aA i).aF++l/\∀g∈l,g.aU=i/\g.aX=HO (vE aA i)/\AA (vE aA i):=by
 show∃l,(Dh aA i (At aA i)).aF=_/\_;unfold Dh;by_cases c:AA (vE aA i)
 ·rw[ab c];obtain⟨l,I,D⟩:=Qsx (aU:=i) (aZ:=FQ (vE aA i) (At aA i).aS) (aX:=HO (vE aA i)) (BY aA i (At aA i).frm) ((At aA i).aF,(At aA i).len,if(At aA i).bI=true then(At aA i).at_ else Aq (vE aA i).fr);exact⟨l,I,λg G=>⟨(D g G).1,(D g G).2,c⟩⟩
 ·rw[aa c];exact⟨[],by simp,by simp⟩
def fqI (it:Itm):Itm:=if it.aP=1 then it else{it with aZ:=2000000}
theorem Zt5 (it:Itm):(fqI it).aP=it.aP:=by unfold fqI;split<;>rfl
theorem Qtv (it:Itm):(fqI it).fr=it.fr:=by unfold fqI;split<;>rfl
theorem Qtu (it:Itm):(fqI it).to=it.to:=by unfold fqI;split<;>rfl
theorem Z1l {it:Itm} (h:Made it) (D:it.aP<=3):Made (fqI it):=by
 unfold fqI;split
 ·exact h
 ·refine⟨h.aP,h.line,λq=> ?_,λ_=>(show(1:Int)<=2000000/\(2000000:Int)<=60000000 from⟨by decide,by decide⟩),h.bH,λq=> ?_,h.free,h.bG⟩
  ·have a:=h.arc q;exact⟨a.aP,a.aG,a.dir,a.ends⟩
  ·rcases q with q|q
   ·have q:it.aP=5:=q;omega
   ·have q:it.aP=6:=q;omega
theorem Q05:∀{l:List Itm} {p:Pt},LJ p l->LJ p (l.map fqI)
 |[],_,h=>h
 |it::l,p,h=>⟨(Qtv it).trans h.1,by rw[Qtu];exact Q05 h.2⟩
theorem Z92 {l:List Itm} (h:Motions 40004 d l):Motions 40004 d (l.map fqI):=by
 refine⟨Q05 h.chain,λit G=> ?_⟩;obtain⟨a,I,rfl⟩:=bc.1 G;obtain⟨L,M,D,N,O⟩:=h.made a I;refine⟨Z1l L D,?_,by rw[Zt5];exact D,by rw[Qtv];exact N,by rw[Qtu];exact O⟩;unfold fqI;split<;>exact M
theorem Z2j {l m:Rw} (N:Src l) (D:Src m) (O:m.length<=100000):∃(x:Ax3) (a b c bF lag:Int),Qr [.vC Aa l, .vC Aa m]=some (AG x++[I a,I b,I c,I bF,I lag])/\MachOK x (a+50) (b+10) (c+2000) bF lag/\(1<=a/\a<=900)/\(2<=b/\b<=201)/\(1<=c/\c<=16000):=by
 obtain⟨x,T,U⟩:=Zyf N;obtain⟨a,b,c,V,G,L,M⟩:=Zka (MF:=DS) (JG D) (SS m);obtain⟨bF,lag,g1,g2⟩:=Zhr (MP:=Rt) (MF:=DS) (JG D) (SS m) T U V G L M O;exact⟨x,a,b,c,bF,lag,g1,⟨g2.x,⟨by omega,by omega,by omega⟩,g2.bF,g2.lag⟩,G,L,M⟩
end Go.Bm
