/- laid together -/
import Derived.Test.YtnnpdlgenmnekaaGreatDoorPrPg
import Derived.Test.YtnnpdlgenmnekaaGreatDoorPrAtF
import Derived.Test.YtnnpdlgenmnekaaGreatDoorPrLc
import Derived.Test.YtnnpdlgenmnekaaGreatDoorMx3
import Derived.Test.YtnnpdlgenmnekaaGreatDoorMy1
set_option linter.unusedVariables false
set_option linter.unusedSimpArgs false
set_option maxRecDepth 100000
open Go.IntKind (wrap)
variable {K:Go.Bm.Kf} {i:Nat} {a k b v u r d:Int} {p:Go.Bm.Pth} {M Z W T S P O:Go.Bm.Fn} {t:Go.Bm.Trk} {l:Go.Bm.Rw} {N:Go.Bm.Lp} {g:Go.Bm.Sgm} {H G z o:Go.Bm.Pt}
namespace Go.Bm
open Classical
theorem Zdy {it:Itm} (hf:it.aP=1\/1<=it.aZ/\it.aZ<=60000000) (G:0<=a/\a<=30000):JE (Ag it++[I a])=some [I (HM it a)]:=by
 by_cases D:it.aP=1
 ·unfold JE HM;generalize Bw=M;have h:=Qxw (AK:=M) it.aP it.block it.fr.x it.fr.y it.fr.z it.to.x it.to.y it.to.z it.aG it.ce.x it.ce.y it.ce.z it.dir it.bG it.aZ it.perRev it.side it.radius it.bH it.n it.aS it.on a;rw[ab D];refine dh h ?_;rw[By (by simp[D])]
 ·exact Ze1 (by omega) G
theorem Z4l {aF:List Sgm} (D:E9 z aF=o) (L:bd 67108864 o) (M:bd 67108864 H) (N:aF.length+1<=1048577) (hlen:0<=u/\u<=4000000000000000000):
  Pb [.vC Aj (aF.map Ay), .vC AF l,I H.x,I H.y,I H.z,I G.x,I G.y,I G.z,I a,I k,I b,I v,I z.x,I z.y,I z.z,B true,I u,I r,I d]=
   some [.vC Aj ((A9 k b v (aF,u,o) H).1.map Ay), .vC AF l,I z.x,I z.y,I z.z,B true,I (A9 k b v (aF,u,o) H).2.1,I r,I d]:=
 Zil D (Qci L M) (H8 L M) N hlen
theorem Zch {aA:List Itm} (hlen:aA.length<=15) (D:∀j<aA.length,¬Cd (vE aA j)) {i:Nat} (M:i<aA.length):
  PB IW J_ E8 G7 Dy I4 QS (pbR aA i)=some (0,pbR aA (i+1)):=by
 have hb:=NT D i (by omega);have S:=SF D i (by omega);have G:∀k<aA.length,AB (vE aA k)->drawn (vE aA k):=λk V N=>(Ll (D k V) N).1;have I:=Ll (D i M);refine Zd8 M hlen hb.aD Q1 (λL T=>Qrk (by omega) T) (λL T=>Qbu (by omega) T) (λN=> ?_) (Zsk (by omega) M (by have:=hb.aD;omega));have O:=(I N).1;exact Z9e M hlen O.1 hb S (Wr O hb.frm G) (λX=>by have U:=(I N).2;rcases X with h|h<;>omega) (Qs2 aA i) (Uf _) (SY O.1.2.1 O.1.2.2.1) (Qvk _) (Zdy (I N).2 hb.aS)
  (Zy3 (by omega) M O hb.frm G) (λY U h3 h4 h5=>Z4l Y U h3 h4 h5) Zq6
theorem Zbz {aA:List Itm} (hlen:aA.length<=15) (D:∀j<aA.length,¬Cd (vE aA j)):∀(k i:Nat),i+k=aA.length->
  Am (PB IW J_ E8 G7 Dy I4 QS) (pbR aA i)=
   some (2,[.vC Aj ((A_ aA).aF.map Ay), .vC AF ((A_ aA).aD.map At),I (A_ aA).aQ.x,I (A_ aA).aQ.y,I (A_ aA).aQ.z,B (Ax aA aA.length).bI,I (Ax aA aA.length).len,I (Ax aA aA.length).aS,I (CO aA aA.length)])
 |0,i,G=>by
  obtain rfl:i=aA.length:=by omega
  refine A1 ?_ (by simp);unfold pbR A_;rw[Q72,AZ (by omega)]
 |k+1,i,G=>by
  rw[Bc (Zch hlen D (by omega))];exact Zbz hlen D k (i+1) (by omega)
def JH (aA:List Itm) (o:List AC):Prop:=
 if CW aA=0 then o=[.vC Aj ((A_ aA).aF.map Ay), .vC AF ((A_ aA).aD.map At),I 0,I (A_ aA).aQ.x,I (A_ aA).aQ.y,I (A_ aA).aQ.z,B (Ax aA aA.length).bI,I (Ax aA aA.length).len,I (Ax aA aA.length).aS,I (CO aA aA.length)]
 else o=[.vC Aj [], .vC AF [],I (CW aA),I 0,I 0,I 0,B false,I 0,I 0,I 0]
theorem Zsn {N D:Lp} {aA:List Itm} (hlen:aA.length<=15)
  (U : (N [.vC Aj [], .vC AF [], .vC Ah (aA.map Ag), I (-1), .vC Ah (aA.map Ag), I aA.length, I 0, I 0, I 0, I 0, B false, I 0, I 0, I 0] = some (1, [.vC Aj [], .vC AF [], I (CW aA), I 0, I 0, I 0, B false, I 0, I 0, I 0]) /\ CW aA ≠ 0) \/
   (N [.vC Aj [], .vC AF [], .vC Ah (aA.map Ag),I (-1), .vC Ah (aA.map Ag),I aA.length,I 0,I 0,I 0,I 0,B false,I 0,I 0,I 0]=some (2,[.vC Aj [], .vC AF [], .vC Ah (aA.map Ag),I 0,I 0,I 0,B false,I 0,I 0,I 0])/\CW aA=0))
  (O : CW aA = 0 -> D [.vC Aj [], .vC AF [], .vC Ah (aA.map Ag), I (-1), .vC Ah (aA.map Ag), I aA.length, I 0, I 0, I 0, I 0, B false, I 0, I 0, I 0] =
   some (2,[.vC Aj ((A_ aA).aF.map Ay), .vC AF ((A_ aA).aD.map At),I (A_ aA).aQ.x,I (A_ aA).aQ.y,I (A_ aA).aQ.z,B (Ax aA aA.length).bI,I (Ax aA aA.length).len,I (Ax aA aA.length).aS,I (CO aA aA.length)])):
  ∃o,Qju M Z W T S P N D [.vC Ah (aA.map Ag)]=some o/\JH aA o:=by
 rw[Zr3];have G: ¬((aA.length:Int)>20000):=by omega
 rcases U with⟨h,L⟩|⟨h,L⟩
 ·simp only[go_sem,ah,h,aa G];exact⟨_,rfl,by unfold JH;rw[aa L]⟩
 ·have g:=O L;simp only[go_sem,ah,h,aa G,g];rw[aa (by decide),aa (by decide)];exact⟨_,rfl,by unfold JH;rw[ab L]⟩
theorem Zb6 {aA:List Itm} (hlen:aA.length<=15):∃o,II [.vC Ah (aA.map Ag)]=some o/\JH aA o:=by
 have D:CW aA=Gu aA aA.length 0 (-1):=by unfold CW;rw[aa]
 refine Zsn hlen ?_ λhe=>Zbz hlen (Pi he).2 aA.length 0 (by omega);rw[D];exact Qca Q1 Z8i (by omega) aA.length 0 (-1) (by omega) (.inl rfl)
theorem Zf8 {aA:List Itm} (h:∃o,M [.vC Ah (aA.map Ag)]=some o/\JH aA o):
  Qg7 M [.vC Ah (aA.map Ag)]=if CW aA=0 then some (Bu (A_ aA)++[I 0])else some [I 0,I 0,I 0, .vC Aj [], .vC AF [],I (CW aA)]:=by
 obtain⟨o,G,D⟩:=h;rw[Zux,G];unfold JH at D;by_cases c:CW aA=0
 ·rw[ab c]at D⊢;subst D;simp only[go_sem];rw[aa (by simp)];try rfl
 ·rw[aa c]at D⊢;subst D;simp only[go_sem];rw[ab c]
theorem Zsh {aA:List Itm} (hlen:aA.length<=15):Ng [.vC Ah (aA.map Ag)]=if CW aA=0 then some (Bu (A_ aA)++[I 0])else some [I 0,I 0,I 0, .vC Aj [], .vC AF [],I (CW aA)]:=
 Zf8 (Zb6 hlen)
def Ko (aA:List Itm):Nat->Option Nat
 |0=>none
 |i+1=>if(vE aA i).aP=10 then Ko aA i else some i
noncomputable def Ky (aA:List Itm):Int:=
 match Ko aA aA.length with
 |some i=>if smI (vE aA i)/\(vE aA i).bH≠0 then AX (A_ aA).aF-AD (A8 (vE aA i)) (Aw (vE aA i).to)else AX (A_ aA).aF
 |none=>AX (A_ aA).aF
theorem Y_ {aA:List Itm} {i:Nat}:∀{n:Nat},Ko aA n=some i->i<n/\(vE aA i).aP≠10/\∀j,i<j->j<n->(vE aA j).aP=10
 |0,h=>by cases h
 |n+1,h=>by
  unfold Ko at h;split at h
  ·rename_i c;obtain⟨I,D,G⟩:=Y_ h;refine⟨by omega,D,λj g1 g2=> ?_⟩;by_cases e:j=n
   ·rw[e];exact c
   ·exact G j g1 (by omega)
  ·rename_i c;cases h
   exact⟨by omega,c,λj g1 g2=>by omega⟩
theorem Zr5 {aA:List Itm} (h:(vE aA i).aP=10):(Ax aA (i+1)).len=(Ax aA i).len/\CO aA (i+1)=CO aA i:=by
 have D: ¬AB (vE aA i):=λg=>by have:=g.2;omega
 constructor
 ·rw[Ax];unfold FY;rw[aa D]
 ·rw[CO,aa D]
theorem Q05 {aA:List Itm} {i:Nat}:∀(k:Nat),(∀j,i<=j->j<i+k->(vE aA j).aP=10)->(Ax aA (i+k)).len=(Ax aA i).len/\CO aA (i+k)=CO aA i
 |0,_=>⟨rfl,rfl⟩
 |k+1,h=>by
  obtain⟨D,G⟩:=Q05 k λj g1 g2=>h j g1 (by omega);obtain⟨I,L⟩:=Zr5 (h (i+k) (by omega) (by omega));exact⟨I.trans D,L.trans G⟩
theorem Zkn {aA:List Itm} (D:∀j<aA.length,¬Cd (vE aA j)):AX (A_ aA).aF=(Ax aA aA.length).len:=by
 have h:=SF D aA.length (co _);unfold A_;by_cases hb:(Ax aA aA.length).bI=true
 ·exact(h.bI hb).2.2.2
 ·obtain⟨g1,g2,-⟩:=h.empty (by simpa using hb);simp only[g1,g2];rfl
theorem Zn0 {it:Itm} (h:it.fr≠it.to):Aw it.to≠A8 it:=by
 intro g;unfold Aw A8 at g;injection g with g1 g2 D;exact h (DU.2 ⟨by omega,by omega,by omega⟩)
theorem Zmf (it:Itm) (h:smI it) (aU aZ aX:Int) (s:(List Sgm×Int×Pt)×Int):
  (DO it aU aZ aX (DO it aU aZ aX s (A8 it)) (Aw it.to)).2=(DO it aU aZ aX (DO it aU aZ aX s (A8 it)) (Aw it.to)).1.2.1-AD (A8 it) (Aw it.to):=by
 have D:=Zn0 h.2;have I:(DO it aU aZ aX s (A8 it)).2=(A9 aU aZ aX s.1 (A8 it)).2.1:=ab ⟨h,rfl⟩;have G:(A9 aU aZ aX s.1 (A8 it)).2.2=A8 it:=by
  unfold A9;split
  ·rename_i c;exact c.symm
  ·rfl
 have L:(DO it aU aZ aX s (A8 it)).1=A9 aU aZ aX s.1 (A8 it):=rfl;generalize DO it aU aZ aX s (A8 it)=t at*;have M:(DO it aU aZ aX t (Aw it.to)).2=t.2:=aa λg=>D g.2;have N:(DO it aU aZ aX t (Aw it.to)).1=A9 aU aZ aX t.1 (Aw it.to):=rfl;rw[M,N,I,L];rw[<-G]at D⊢;rw[G];generalize A9 aU aZ aX s.1 (A8 it)=u at*;have O:A9 aU aZ aX u (Aw it.to)=(u.1++[⟨Aw it.to,AD u.2.2 (Aw it.to),aU,aZ,aX⟩],u.2.1+AD u.2.2 (Aw it.to),Aw it.to):=aa D;rw[O,G];simp only;omega
theorem Z3b {aA:List Itm} (M:Ko aA aA.length=some i) (G:smI (vE aA i)):CO aA aA.length=(Ax aA aA.length).len-AD (A8 (vE aA i)) (Aw (vE aA i).to):=by
 obtain⟨O,-,I⟩:=Y_ M;obtain⟨k,N⟩:∃k,aA.length=i+1+k:=⟨aA.length-(i+1),by omega⟩;have L:AB (vE aA i):=⟨by have:=G.1;omega,by have:=G.1;omega⟩;obtain⟨g1,g2⟩:=Q05 (aA:=aA) (i:=i+1) k λj e1 e2=>I j (by omega) (by omega);have D: ¬0<=B5 aA i:=by
  intro c;have S:=Tn c;rcases Y4 aA i with h|⟨-,-,m,m1,m2,m3,m4,m5⟩
  ·omega
  ·have:=I m m2 m3;have:=m4.1;omega
 rw[N,g1,g2];have e1:CO aA (i+1)=(Fb aA i (Ax aA i) (CO aA i)).2:=ab L;have e2:(Ax aA (i+1)).len=(Fb aA i (Ax aA i) (CO aA i)).1.2.1:=by
  rw[Za1,Ax];unfold FY;rw[ab L]
 rw[e1,e2];unfold Fb;have e3:CE aA i (Ax aA i).frm=I1 aA i (Ax aA i).frm++[A8 (vE aA i)]++[Aw (vE aA i).to]:=by
  unfold CE;rw[ab G];unfold L6;rw[aa D];unfold Ch;rw[aa (by have:=G.1;omega)];rfl
 rw[e3,List.foldl_append,List.foldl_append,fh,List.foldl_nil,fh,List.foldl_nil];exact Zmf _ G _ _ _ _
theorem Q30 {MS V:Fn} {aA:List Itm} {aF aD:Rw} {G:Pt} {b:Bool} {len N D:Int} (hl:aA.length<=1000) (X:∀it,MS (Ag it)=some [B (decide (smI it))]):
  ∀n:Nat,n<=aA.length->∃o:Nat×List AC,Am (Pe MS V) [.vC Aj aF, .vC AF aD, .vC Ah (aA.map Ag),I ((n:Int)-1),I G.x,I G.y,I G.z,B b,I len,I N,I D]=some o/\
   match Ko aA n with
   |some i=>o=(1,[I (if smI (vE aA i)/\(vE aA i).bH≠0 then D else len)])
   |none=>o=(2,[.vC Aj aF, .vC AF aD,I G.x,I G.y,I G.z,B b,I len,I N,I D])
 |0,_=>by
  refine⟨_,A1 (o:=(2,_)) ?_ (by simp),rfl⟩;rw[Q70,AZ (by omega)]
 |n+1,hn=>by
  have T:n<aA.length:=by omega
  have hr:=E6 T;have Y:=X (vE aA n);simp only[Ag]at Y;have U:(0:Int)<=(n:Int)/\(n:Int)<(aA.length:Int):=by omega
  have e:((n+1:Nat):Int)-1=n:=by omega
  have L:Pe MS V [.vC Aj aF, .vC AF aD, .vC Ah (aA.map Ag),I n,I G.x,I G.y,I G.z,B b,I len,I N,I D]=
    if(vE aA n).aP=10 then some (0,[.vC Aj aF, .vC AF aD, .vC Ah (aA.map Ag),I ((n:Int)-1),I G.x,I G.y,I G.z,B b,I len,I N,I D])
    else some (1,[I (if smI (vE aA n)/\(vE aA n).bH≠0 then D else len)]):=by
   rw[Q70];simp only[go_sem,ah,ak,hr,Y,ab U];rw[ab,Ae];by_cases M:(vE aA n).aP=10
   ·rw[ab M,ab M]
   ·rw[aa M,aa M];by_cases O:smI (vE aA n)
    ·rw[ab O];by_cases S:(vE aA n).bH≠0
     ·rw[ab S,ab ⟨O,S⟩]
     ·rw[aa S,aa (λg=>S g.2)]
    ·rw[aa O,aa (λg=>O g.1)]
  rw[e];unfold Ko;by_cases M:(vE aA n).aP=10
  ·rw[ab M]at L⊢;rw[Bc L];exact Q30 hl X n (by omega)
  ·rw[aa M]at L⊢;exact⟨_,A1 L (by simp),rfl⟩
theorem Ztm {aA:List Itm} (hl:aA.length<=15) (hS:∀it,M (Ag it)=some [B (decide (smI it))]) (h:∃o,Z [.vC Ah (aA.map Ag)]=some o/\JH aA o):
  Qj0 M Z (Am (Pe M Z)) [.vC Ah (aA.map Ag)]=some [I (if CW aA=0 then Ky aA else 0)]:=by
 obtain⟨o,Y,L⟩:=h;unfold JH at L;by_cases c:CW aA=0
 ·rw[ab c]at L⊢;have D:=(Pi c).2;have O:=Zkn D;have S:=λi T hs=>Z3b (aA:=aA) (i:=i) T hs;have X:= @Q30 M Z aA ((A_ aA).aF.map Ay) ((A_ aA).aD.map At) (A_ aA).aQ (Ax aA aA.length).bI (Ax aA aA.length).len (Ax aA aA.length).aS (CO aA aA.length) (by omega) hS aA.length (by omega);obtain⟨r,r1,G⟩:=X;rw[Q8k,Y];subst L;have hw:V ((aA.length:Int)-1)=(aA.length:Int)-1:=Ae;unfold Ky;rw[O];generalize Am (Pe M Z)=N at*;simp only[go_sem,ah,hw,r1];rw[aa (by simp)];cases T:Ko aA aA.length with
  |none=>
   rw[T]at G;simp only at G;subst G;rfl
  |some i=>
   rw[T]at G;simp only at G;subst G;simp only[go_sem];by_cases U:smI (vE aA i)/\(vE aA i).bH≠0
   ·rw[ab U,ab U,S i T U.1]
   ·rw[aa U,aa U]
 ·rw[aa c]at L⊢;subst L;rw[Q8k,Y];simp only[go_sem];rw[ab c]
theorem Znv {aA:List Itm} (D:aA.length<=15):Nj [.vC Ah (aA.map Ag)]=some [I (if CW aA=0 then Ky aA else 0)]:=Ztm D Uf (Zb6 D)
def okU (s:Spk):Prop:=s.u.natAbs<=1000000/\s.w.natAbs<=1000000/\(0<=s.r/\s.r<=1000000)/\s.h.natAbs<=200000
theorem okU.s {s:Spk} (h:okU s):okS s:=⟨by have:=h.1;omega,by have:=h.2.1;omega,⟨h.2.2.1.1,by have:=h.2.2.1.2;omega⟩,by have:=h.2.2.2;omega⟩
theorem Zt0 {a b:Spk} (D:okU a) (hb:okU b) {u w:Int} (G:u.natAbs<=100000000) (I:w.natAbs<=100000000):okU (Ht a b u w):=by
 unfold Ht;split
 ·exact⟨by simp,by simp,by simp,by simp⟩
 ·rename_i h;have L:=D.2.2;have M:=hb.2.2
  have N:0<=hf a.r b.r/\hf a.r b.r<=1000000:=by unfold hf;omega
  have O:(hf a.h b.h).natAbs<=200000:=by unfold hf;omega
  obtain⟨⟨-,S⟩,-,T⟩:=Zb5 G I (r:=hf a.r b.r) (by omega) h;exact⟨by simp only;omega,by simp only;omega,N,O⟩
theorem Zc4 {a b:Spk} (D:okU a) (hb:okU b) {dir:Int} (G:dir=1\/dir= -1) (bG:Bool):okU (EA a b dir bG):=
 Zt0 D hb (Oa D.s hb.s G bG).1 (Oa D.s hb.s G bG).2
theorem Xe {dir:Int} (G:dir=1\/dir= -1):∀(k:Nat) (bG:Bool) {a b:Spk},okU a->okU b->∀s∈DK dir k bG a b,okU s
 |0,_,a,b,_,hb,s,D=>by simp[DK]at D;subst D;exact hb
 |k+1,bG,a,b,I,hb,s,D=>by
  unfold DK at D;have L:=Zc4 I hb G bG;split at D
  ·simp at D;subst D;exact hb
  ·rcases bn.1 D with D|D
   ·exact Xe G k false I L s D
   ·exact Xe G k false L hb s D
theorem Z5i {n:Nat} (L:n<=300000000000):0<=Fp n/\Fp n<=1000000:=by
 obtain⟨r,D,G⟩:=OW n;have I:=Th D G;rw[SH I];have:r<1000000:=by
  by_cases c:r<1000000
  ·exact c
  ·have:=df (show 1000000<=r by omega) (show 1000000<=r by omega);omega
 split<;>omega
theorem Qjc {pl:Int} (h:bd i H):(plU pl H).natAbs<=i/\(plW pl H).natAbs<=i/\(plH pl H).natAbs<=i:=HK h
theorem Qoy {it:Itm} (D:bd 4200 it.ce) (G:bd 4200 H):okU (Ek it H):=by
 obtain⟨O,S,T⟩:=Qjc (pl:=it.aG) D;obtain⟨U,V,X⟩:=Qjc (pl:=it.aG) G;have I:(dU it H*16).natAbs<=134400:=by unfold dU;omega
 have L:(dW it H*16).natAbs<=134400:=by unfold dW;omega
 have Y:=Dx I;have q2:=Dx L;obtain⟨-,-,N,-⟩:=Qw (AY D (by omega)) (AY G (by omega));obtain⟨n,M⟩:=bq N;refine⟨bz I (by decide),bz L (by decide),?_,?_⟩
 ·show 0<=Fp _/\Fp _<=_;rw[M];refine Z5i ?_;unfold sq2 at M;omega
 ·show(plH it.aG H*16).natAbs<=_;omega
theorem Z6a {it:Itm} {s:Spk} (D:bd 4200 it.ce) (G:okU s):bd B24 (Ji it s):=by
 obtain⟨I,L,-⟩:=Qjc (pl:=it.aG) (E3 D);obtain⟨s1,s2,-,M⟩:=G;exact Q60 (by unfold B24;omega) (by unfold B24;omega) (by unfold B24;omega)
theorem Zwh {it:Itm} (h:Made it) (hf:bd 4084 it.fr):∀p∈Ch it,bd B24 p:=by
 have L:=Qt2 h hf;intro p G;unfold Ch at G;split at G
 ·rename_i M;simp only[av]at G;obtain⟨s,I,rfl⟩:=G;have D:bd 4200 it.ce:=AY (Qjf (h.arc M) (by omega) hf).2 (by omega);refine Z6a D ?_;rcases ax.1 I with rfl|I
  ·exact Qoy D (AY hf (by omega))
  ·exact Xe (h.arc M).dir 16 _ (Qoy D (AY hf (by omega))) (Qoy D (AY L (by omega))) s I
 ·simp at G;rcases G with rfl|rfl
  ·exact AY (E3 hf) (by decide)
  ·exact AY (E3 L) (by decide)
def UV (n:Nat) (g:Sgm):Prop:=bd B24 g.to/\0<=g.aU/\g.aU<n/\i64 g.aX
theorem Q6a {n:Nat} {aU aZ aX:Int} (I:0<=aU/\aU<n) (M:i64 aX):∀(D:List Pt) (s:List Sgm×Int×Pt),(∀p∈D,bd B24 p)->(∀g∈s.1,UV n g)->∀g∈(D.foldl (A9 aU aZ aX) s).1,UV n g
 |[],s,_,h=>h
 |q::D,s,N,h=>by
  rw[fh];refine Q6a I M D _ (λp L=>N p (by simp[L])) ?_;unfold A9;split
  ·exact h
  ·intro g G;simp only[bn,du]at G;rcases G with G|rfl
   ·exact h g G
   ·exact⟨N q (by simp),I.1,I.2,M⟩
structure PIn (n : Nat) (s : BSt) : Prop where
 aQ:bd B24 s.aQ
 aF:∀g∈s.aF,UV n g
 aD:∀m∈s.aD,0<=m.aU/\m.aU<n/\i64 m.at_
theorem Zxh {aA:List Itm} (I:drawn (vE aA i)) (hf:LF aA i a) (G:∀k<aA.length,AB (vE aA k)->drawn (vE aA k)) (L:∀p∈Ch (vE aA i),bd B24 p):∀p∈CE aA i a,bd B24 p:=by
 unfold CE;by_cases O:smI (vE aA i)
 ·rw[ab O];intro p D;rcases bn.1 D with D|D
  ·rcases bn.1 D with D|D
   ·unfold I1 at D;rcases hf with rfl|⟨f,rfl,S,M⟩
    ·rw[aa]at D;exact L p (fd D)
    ·rw[ab]at D;exact(Le (aA:=aA) (i:=(f:Int).toNat) (k:=i) (by simpa using M) I).1 p (dx D)
   ·simp at D;subst D;exact K9 I.1.2.1 I.1.2.2.1
  ·unfold L6 at D;by_cases h:0<=B5 aA i
   ·rw[ab h]at D;obtain⟨k,T,U,N⟩:=UZ G h;exact(Le (aA:=aA) (i:=i) (k:=(B5 aA i).toNat) I (by rw[T];simpa using N)).1 p (fd D)
   ·rw[aa h]at D;exact L p (dx D)
 ·rw[aa O];exact L
theorem Z7m {it:Itm} (hf:it.aP=1\/1<=it.aZ/\it.aZ<=60000000):i64 (OA it):=by
 unfold OA;split
 ·rename_i h;unfold syI at h;unfold mn i64;split<;>omega
 ·unfold i64;omega
theorem Zp6 {aA:List Itm} {s:BSt} (O:i<aA.length) (V:aA.length<=15) (D:∀j<aA.length,¬Cd (vE aA j)) (S:∀j<aA.length,AB (vE aA j)->∀p∈Ch (vE aA j),bd B24 p) (M:BOK aA i s) (h:PIn aA.length s):PIn aA.length (FY aA i s):=by
 have L:∀k<aA.length,AB (vE aA k)->drawn (vE aA k):=λk U G=>(Ll (D k U) G).1;have N:=Zaj O D M;have hlen:=M.len;have I:=N.len;unfold FY at I⊢;by_cases G:AB (vE aA i)
 ·rw[ab G]at I⊢;have T:=L i O G;refine⟨?_,Q6a ⟨by omega,by omega⟩ (Z7m (Ll (D i O) G).2) _ _ (Zxh T M.frm L (S i O G)) h.aF,?_⟩
  ·show bd B24 (if s.bI=true then s.aQ else Aw (vE aA i).fr);split
   ·exact h.aQ
   ·exact E3 T.1.2.1
  ·intro m G;simp only[bn,du]at G;rcases G with G|rfl
   ·exact h.aD m G
   ·refine⟨by simp only;omega,by simp only;omega,?_⟩;simp only at I⊢;unfold i64;omega
 ·rw[aa G];refine⟨h.aQ,h.aF,?_⟩;intro m G;simp only[bn,du]at G;rcases G with G|rfl
  ·exact h.aD m G
  ·refine⟨by simp only;omega,by simp only;omega,?_⟩;simp only;unfold i64;omega
theorem Q09 {aA:List Itm} (I:aA.length<=15) (D:∀j<aA.length,¬Cd (vE aA j)) (G:∀j<aA.length,AB (vE aA j)->∀p∈Ch (vE aA j),bd B24 p):∀i,i<=aA.length->PIn aA.length (Ax aA i)
 |0,_=>by rw[Ax];exact⟨by unfold bd;simp,λg h=>(by cases h),λg h=>(by cases h)⟩
 |i+1,L=>by rw[Ax];exact Zp6 (by omega) I D G (NT D i (by omega)) (Q09 I D G i (by omega))
theorem Zs5 {aA:List Itm} (L:aA.length<=15) (M:CW aA=0) (G:∀j<aA.length,AB (vE aA j)->∀p∈Ch (vE aA j),bd B24 p):bd B24 (A_ aA).aQ/\(∀g∈(A_ aA).aF,UV aA.length g)/\(∀m∈(A_ aA).aD,0<=m.aU/\m.aU<aA.length/\i64 m.at_)/\(A_ aA).aD.length=aA.length:=by
 have D:=(Pi M).2;have I:=Q09 L D G aA.length (co _);exact⟨I.aQ,I.aF,I.aD,(NT D aA.length (co _)).aD⟩
theorem Zof {aA:List Itm} (O:aA.length<=15) (M:CW aA=0):i64 (Ky aA):=by
 have I:=Qrw O M;have U:=Qo0 (Qk5 I.aQ I.aF);have G:=I.count;have D:=(Pi M).2;have N:i64 (AX (A_ aA).aF):=by unfold i64;omega
 unfold Ky;split
 ·rename_i i e;split
  ·rename_i c;obtain⟨S,-,-⟩:=Y_ e;have T:AB (vE aA i):=⟨by have:=c.1.1;omega,by have:=c.1.1;omega⟩;obtain⟨L,-⟩:=Ll (D i S) T;have:=H8 (AY (K9 L.1.2.1 L.1.2.2.1) (by decide)) (AY (E3 L.1.2.2.1) (by decide));unfold i64;omega
  ·exact N
 ·exact N
theorem TF (n lo D:Int):GO [I n,I lo,I D]=some [B (decide (lo<=n/\n<=D))]:=by
 show Qav [I n,I lo,I D]=_;rw[Zd9];by_cases G:lo<=n<;>by_cases L:n<=D<;>simp[G,L]
theorem Zhi (N:∀n lo D:Int,M [I n,I lo,I D]=some [B (decide (lo<=n/\n<=D))]) {a:Axs} (h:AxOK a) (G:a.aW≠[]):
  ∃o,Am (Zw M) (.vC Aa (a.aW.map Aq)::I a.aW.length::I 0::Bl a)=some o/\o.1=2:=by
 have V:=h.aO G;refine(?_:Out (λo:Nat×List AC=>o.1=2) _);refine C1 (λi:Nat=> .vC Aa (a.aW.map Aq)::I a.aW.length::I (i:Int)::Bl a) (λi=>i<=a.aW.length) (λi=>a.aW.length-i) _ ?_ 0 (by simp);intro i D;have hc:=h.count;rw[Znq];dsimp only[jA,gA,bA,wA];have O:∀j:Nat,j<a.aW.length->Af (nth .vD (nth [] (a.aW.map Aq) j) 0)=a.aW.getD j 0:=λj S=>by
  have e:nth [] (a.aW.map Aq) j=Aq a.aW[j]:=by
   rw[FC [] (a.aW.map Aq) j (by rw[ah];exact S),iq]
  rw[e,List.getD,al S];rfl
 refine .cond (λk=> ?_) λ_=> .some (.inr ⟨by simp,rfl⟩);have k:(i:Int)<(a.aW.length:Int):=BC k;have T:((a.aW.map Aq).length:Int)=a.aW.length:=by rw[ah]
 refine .cond (λ_=> ?_) λe=>(inB (by omega) (by rw[T];exact k) e).elim;have X: -4096<=a.aW.getD i 0/\a.aW.getD i 0<=4096:=by
  refine h.aW.1 _ ?_;rw[List.getD,al (by omega)];exact cg _
 rw[ak,O i (by omega),N];simp only[af,gA,wA,bA,jA,CM,Dn];rw[aj X];refine .cond (λe=>by cases e) λ_=> ?_;have U:∀{x:List AC},x= .vC Aa (a.aW.map Aq)::I a.aW.length::I ((i:Int)+1)::Bl a->Out (λo:Nat×List AC=>(o.1=0/\∃L:Nat,o.2= .vC Aa (a.aW.map Aq)::I a.aW.length::I (L:Int)::Bl a/\L<=a.aW.length/\a.aW.length-L<a.aW.length-i)\/(o.1≠0/\o.1=2)) (some (0,x)):=λe=>
  .some (.inl ⟨rfl,i+1,by rw[e];rfl,by omega,by omega⟩)
 rw[Ae (x:=(i:Int)+1)];refine .cond (λg=> ?_) λ_=>U rfl;have g:(i:Int)>0:=BC g;rw[Ae (x:=(i:Int)-1)];refine .cond (λ_=> ?_) λe=>(inB (by omega) (by rw[T];omega) e).elim;obtain⟨j,rfl⟩:∃j:Nat,i=j+1:=⟨i-1,by omega⟩;have hd:=h.aW.2 j (by omega);have Y: -4096<=a.aW.getD j 0/\a.aW.getD j 0<=4096:=by
  refine h.aW.1 _ ?_;rw[List.getD,al (by omega)];exact cg _
 have ej:(((j+1:Nat):Int)-1).toNat=j:=by omega
 rw[ej,O j (by omega),N];simp only[af,gA,wA,bA,jA,CM,Dn];have q1:a.aO.tdiv 4=a.aO/4:=bp (by omega);rw[q1,Ae (x:=a.aO/4),Ae (x:=0-a.aO/4),Ae (x:=a.aW.getD (j+1) 0-a.aW.getD j 0)];refine .cond (λe=> ?_) λ_=>U rfl;rw[aj (show 0-a.aO/4<=a.aW.getD (j+1) 0-a.aW.getD j 0/\a.aW.getD (j+1) 0-a.aW.getD j 0<=a.aO/4 by omega)]at e;cases e
theorem Ybh (G:∀n lo L:Int,M [I n,I lo,I L]=some [B (decide (lo<=n/\n<=L))]) {a:Axs} (h:AxOK a)
  (S:a.aW≠[]->∃o,N (.vC Aa (a.aW.map Aq)::I a.aW.length::I 0::Bl a)=some o/\o.1=2):Zb M N (Bl a)=some [B true]:=by
 have O:=h.aO;have V:=h.aV;have X:=h.count
 rw[Zj5];by_cases e:a.aW=[]
 ·rw[e];rfl
 ·have Y:0<a.aW.length:=List.length_pos_iff.2 e;obtain⟨o,T,U⟩:=S e;have O:=O e;have D:N [.vC Aa (a.aW.map Aq),I (a.aW.map Aq).length,I 0,I a.step,I a.aS,I a.bD,I a.bE,I a.low,I a.aY,I a.bB,I a.aV,I a.aO, .vC Aa (a.aW.map Aq)]=some o:=by rw[ah];exact T
  rw[Be (by rw[ah];simp;omega),Be (by rw[ah];simp;omega),G,G,D];simp only[af,gA,wA,bA,jA,CM,Dn];rw[aj (show-16777216<=a.aV/\a.aV<=16777216 by omega),aj (show 4<=a.aO/\a.aO<=16777216 by omega),U];rfl
theorem Zti {a:Axs} (h:AxOK a):P8 (Bl a)=some [B true]:=Ybh TF h λD=>Zhi TF h D
theorem Zkt (G:∀n lo D:Int,Z [I n,I lo,I D]=some [B (decide (lo<=n/\n<=D))]) {a:Axs} (h:AxOK a) (L:M (Bl a)=some [B true]):Qdm M Z (Bl a)=some [B true]:=by
 have N:=h.step;have hb:=h.bB;obtain⟨O,S,T,U,V,X,Y,l8⟩:=h.lim
 rw[Z89];simp only[G,af,CM,Dn];rw[aj (show 4<=a.step/\a.step<=4096 by omega),aj (show 1<=a.aS/\a.aS<=1048576 by omega),aj (show 2<=a.bD/\a.bD<=1048576 by omega),aj (show 4<=a.bE/\a.bE<=1048576 by omega),aj (show a.low>= -16777216 by omega),aj (show a.aY<=16777216 by omega),aj (show a.low<=a.aY by omega),aj (show 0<=a.bB/\a.bB<=64 by omega)];simp only[ag];rw[L];rfl
theorem Zfm {a:Axs} (h:AxOK a):Qr (Bl a)=some [B true]:=Zkt TF h (Zti h)
theorem Znr (G:∀n lo D:Int,M [I n,I lo,I D]=some [B (decide (lo<=n/\n<=D))]) {a:Axs} (h:AxOK a) {q:Int} (L:q.natAbs<=B24):Qiz M (Bl a++[I q])=some [B true]:=by
 obtain⟨-,-,-,-,-,-,N,O⟩:=h.lim;refine dh (Zhr M ..) ?_;rw[G,aj (show a.low<=q/\q<=a.aY by unfold B24 at L;omega)];rfl
theorem Zjz {a:Axs} (h:AxOK a) {q:Int} (D:q.natAbs<=B24):HC (Bl a++[I q])=some [B true]:=Znr TF h D
theorem Zhv {x:Ax3} (O:bd B24 p.aQ) (S:∀g∈p.aF,bd B24 g.to) (Y:p.aF.length<=1000000):
  Out (λo:Nat×List AC=>o.1=1/\∃D:List Pt,o.2= .vC kPt (D.map ptR)::AE x/\(∀q∈D,bd B24 q)/\D.length<=1000001) (Am (P7 M) (.vC kPt [ptR p.aQ]:: .vC Aj (p.aF.map Ay)::I (p.aF.map Ay).length::I 0::AE x)):=by
 refine C1 (λs:Nat×List Pt=> .vC kPt (s.2.map ptR):: .vC Aj (p.aF.map Ay)::I (p.aF.map Ay).length::I (s.1:Int)::AE x) (λs=>s.1<=p.aF.length/\(∀q∈s.2,bd B24 q)/\s.2.length=s.1+1) (λs=>p.aF.length-s.1) _ ?_ (0,[p.aQ]) ⟨by simp,by simpa using O,rfl⟩;rintro⟨i,D⟩ ⟨T,N,U⟩;dsimp only at T N U;refine Out.eqv (Zt8 M ..) ?_;have L:((p.aF.map Ay).length:Int)=p.aF.length:=by rw[ah]
 refine .cond (λk=> ?_) λ_=> .some (.inr ⟨by simp,rfl,D,rfl,N,by omega⟩);have k:(i:Int)<((p.aF.map Ay).length:Int):=BC k;rw[L]at k;refine .cond (λ_=> ?_) λe=>(inB (by omega) (by rw[L];exact k) e).elim;have V:nth [] (p.aF.map Ay) (i:Int).toNat=Ay p.aF[i]:=by
  rw[ak,FC [] _ i (by rw[ah];omega),iq]
 rw[V];have X:=S _ (cg (show i<p.aF.length by omega));refine .cond (λ_=> ?_) λe=>by rw[Cg (by simp;omega)]at e;cases e
 refine .some (.inl ⟨rfl,(i+1,D++[p.aF[i].to]),?_,⟨by dsimp only;omega,?_,by simp;omega⟩,by dsimp only;omega⟩)
 ·rw[Ae (x:=(i:Int)+1),bv];rfl
 ·intro q G;dsimp only at G;simp only[bn,du]at G;rcases G with G|rfl
  ·exact N q G
  ·exact X
theorem Zri (L:∀{a:Axs} {q:Int},AxOK a->q.natAbs<=B24->M (Bl a++[I q])=some [B true]) {x:Ax3} (O:Ax3M x) {D:List Pt} (S:∀q∈D,bd B24 q) (Y:D.length<=1000001):
  Out (λo:Nat×List AC=>o.1=2) (Am (Uy M N) (.vC kPt (D.map ptR)::I (D.map ptR).length::I 0::AE x)):=by
 refine C1 (λi:Nat=> .vC kPt (D.map ptR)::I (D.map ptR).length::I (i:Int)::AE x) (λi=>i<=D.length) (λi=>D.length-i) _ ?_ 0 (by simp);intro i h1;refine Out.eqv (Zxm M N ..) ?_;have G:((D.map ptR).length:Int)=D.length:=by rw[ah]
 refine .cond (λk=> ?_) λ_=> .some (.inr ⟨by simp,rfl⟩);have k:(i:Int)<((D.map ptR).length:Int):=BC k;rw[G]at k;refine .cond (λ_=> ?_) λe=>(inB (by omega) (by rw[G];exact k) e).elim;have T:nth [] (D.map ptR) (i:Int).toNat=ptR D[i]:=by
  rw[ak,FC [] _ i (by rw[ah];omega),iq]
 rw[T];obtain⟨U,V,X⟩:=S _ (cg (show i<D.length by omega));refine .bind (p:=λo=>o=[B true]) ⟨_,L O.a U,rfl⟩ λo e=> ?_;subst e;refine .cond (λe=>by cases e) λ_=> ?_;refine .bind (p:=λo=>o=[B true]) ⟨_,L O.b V,rfl⟩ λo e=> ?_;subst e;refine .cond (λe=>by cases e) λ_=> ?_;refine .bind (p:=λo=>o=[B true]) ⟨_,L O.c X,rfl⟩ λo e=> ?_;subst e;refine .cond (λe=>by cases e) λ_=> ?_;exact .some (.inl ⟨rfl,i+1,by rw[Ae (x:=(i:Int)+1)];rfl,by omega,by omega⟩)
theorem Zqz {N3 N8:Lp} {x:Ax3}
  (N:Out (λo:Nat×List AC=>o.1=1/\∃D:List Pt,o.2= .vC kPt (D.map ptR)::AE x/\(∀q∈D,bd B24 q)/\D.length<=1000001) (N3 (.vC kPt [ptR p.aQ]:: .vC Aj (p.aF.map Ay)::I (p.aF.map Ay).length::I 0::AE x)))
  (O:∀{D:List Pt},(∀q∈D,bd B24 q)->D.length<=1000001->Out (λo:Nat×List AC=>o.1=2) (N8 (.vC kPt (D.map ptR)::I (D.map ptR).length::I 0::AE x))):
  Out (λo=>o=[B true]) (Y7 M N3 N8 (AE x++Bu p)):=by
 refine Out.eqv (Zte M N3 N8 ..) ?_;refine .bind N λo q=> ?_;obtain⟨o1,o2⟩:=o;obtain⟨G,D,L,S,T⟩:=q;dsimp only at G L;subst G L;refine .cond (λ_=> ?_) λe=>by cases e
 refine .bind (O S T) λo q=> ?_;rw[q];exact .some rfl
theorem Zdv {x:Ax3} (D:Ax3M x) (G:bd B24 p.aQ) (I:∀g∈p.aF,bd B24 g.to) (L:p.aF.length<=1000000):PI (AE x++Bu p)=some [B true]:=by
 obtain⟨o,h,rfl⟩:=Zqz (M:=HC) (N3:=Am (P7 HC)) (N8:=Am (Uy HC (Am (P7 HC)))) (Zhv (x:=x) G I L) (λN O=>Zri (λS T=>Zjz S T) D N O);exact h
theorem Z8b:∃v:Int,EU [I 30000]=some [I v]/\60000<=v:=by
 have key:∀{M:Fn} {v:Int},M [I 30000,I 1048576,I 60000,I 2]=some [I v,B true]->Ti M [I 30000]=some [I v]:=λh=>by
  rw[Q2j,h];rfl
 refine⟨_,key (Tf (by unfold i64;omega) (by unfold i64;omega) (by omega) (by decide)),?_⟩;unfold Bi;omega
theorem Zm7 {x:Ax3} (D:Ax3M x) {pa pb pc bF lag:Int} (T:Plan3 pa pb pc) (G:1<=bF/\bF<=60000) (L:0<=lag/\lag<=40)
  (hV:∀{a:Axs},AxOK a->W (Bl a)=some [B true]) (N:Z [I pa,I pb,I pc]=some [B true]) (O:∃v:Int,M [I 30000]=some [I v]/\60000<=v):Out (λo=>o=[B true]) (V9 M Z W (AE x++[I pa,I pb,I pc,I bF,I lag])):=by
 refine Out.eqv (Zzw M Z W ..) ?_;refine .bind (p:=λo=>o=[B true]) ⟨_,hV D.a,rfl⟩ λo e=> ?_;subst e;refine .cond (λe=>by cases e) λ_=> .bind (p:=λo=>o=[B true]) ⟨_,hV D.b,rfl⟩ λo e=> ?_;subst e;refine .cond (λe=>by cases e) λ_=> .bind (p:=λo=>o=[B true]) ⟨_,hV D.c,rfl⟩ λo e=> ?_;subst e;refine .cond (λe=>by cases e) λ_=> .bind (p:=λo=>o=[B true]) ⟨_,N,rfl⟩ λo e=> ?_;subst e;obtain⟨v,S,U⟩:=O;refine .cond (λ_=> .cond (λ_=> ?_) λe=>absurd G.1 (BB e)) λe=>by cases e
 refine .bind (p:=λo=>o=[I v]) ⟨_,S,rfl⟩ λo e=> ?_;subst e;refine .cond (λ_=> .cond (λ_=> ?_) λe=>absurd L.1 (BB e)) λe=>absurd (show bF<=v by omega) (BB e);exact .some (by rw[aj (show lag<=1048576 by omega)])
theorem Zy2 {x:Ax3} (G:Ax3M x) {pa pb pc bF lag:Int} (D:Plan3 pa pb pc) (L:1<=bF/\bF<=60000) (M:0<=lag/\lag<=40):Q4 (AE x++[I pa,I pb,I pc,I bF,I lag])=some [B true]:=by
 have N:ES [I pa,I pb,I pc]=some [B true]:=by rw[S4,aj (show 1<=pa/\pa<=65536/\2<=pb/\pb<=65536/\1<=pc/\pc<=16777216 from⟨D.a.1,D.a.2,D.b.1,D.b.2,D.c.1,D.c.2⟩)]
 obtain⟨o,h,rfl⟩:=Zm7 G D L M Zfm N Z8b;exact h
theorem Z19 {x:Ax3} (O:Ax3M x) (D G L M N:Int):P1 (AE x++[I D,I G,I L,I M,I N])=some (AE x++[I D,I G,I L,I M,I N]):=by
 have S:=O.a.count;have hb:=O.b.count;have T:=O.c.count
 have key:Qal (AE x++[I D,I G,I L,I M,I N])=some (AE x++[I D,I G,I L,I M,I N]):=by
  refine dh (Zc2 ..) ?_;rw[Cg (by rw[ah];omega),Cg (by rw[ah];omega),Cg (by rw[ah];omega)];rfl
 exact key
abbrev Qzf (K:Kf):Kf:=⟨K.x,K.pa,K.pb,K.pc,K.bF,K.lag,[],false,⟨⟨0,0,0⟩,[],[]⟩,0,0,⟨[],0,0,⟨0,0,0⟩⟩⟩
abbrev XN (K:Kf):Kf:=⟨K.x,K.pa,K.pb,K.pc,K.bF,K.lag,K.aA,K.closed,K.p,K.len,K.set,⟨[],0,0,⟨0,0,0⟩⟩⟩
abbrev Bb:Cv:=⟨0,0,0,0,0,0,100,100,false,false,false,0,0,-1,1,0,0,0,0,0,0,0,0,false,0,false,0,false,0,-1,0,0,0,0,0,0,0,false,false,false⟩
noncomputable abbrev kfP (x:Ax3) (pa pb pc bF lag:Int) (aA:List Itm) (closed:Bool):Kf:=⟨x,pa,pb,pc,bF,lag,aA,closed,A_ aA,AX (A_ aA).aF,Ky aA,Ez (A_ aA) x ⟨1,1,1⟩ 0 (AX (A_ aA).aF)⟩
theorem Ztj (V:K.aA.length<=15) (i0:List Itm) (G:Bool) (L:Pth) (N s0:Int) (D:Trk) (c:Cv)
  (hB:T [.vC Ah (K.aA.map Ag)]=some (Bu K.p++[I 0])) (O:W (AE K.x++Bu K.p)=some [B true]) (S:Z (Bu K.p)=some [I K.len]) (U:M [.vC Ah (K.aA.map Ag)]=some [I K.set]):
  Qi M Z W T (.vC Ah (K.aA.map Ag)::B K.closed::Ad ⟨K.x,K.pa,K.pb,K.pc,K.bF,K.lag,i0,G,L,N,s0,D⟩ c)=some (I 0::Ad ⟨K.x,K.pa,K.pb,K.pc,K.bF,K.lag,K.aA,K.closed,K.p,K.len,K.set,D⟩ c):=by
 have key:Out (λo=>o=I 0::Ad ⟨K.x,K.pa,K.pb,K.pc,K.bF,K.lag,K.aA,K.closed,K.p,K.len,K.set,D⟩ c) (Qi M Z W T (.vC Ah (K.aA.map Ag)::B K.closed::Ad ⟨K.x,K.pa,K.pb,K.pc,K.bF,K.lag,i0,G,L,N,s0,D⟩ c)):=by
  refine Out.eqv (Zgn M Z W T _ _ ⟨K.x,K.pa,K.pb,K.pc,K.bF,K.lag,i0,G,L,N,s0,D⟩ c) ?_;refine .bind (p:=λo=>o=_) ⟨_,hB,rfl⟩ λo e=> ?_;subst e;refine .cond (λe=>by cases e) λ_=> ?_;refine .bind (p:=λo=>o=_) ⟨_,O,rfl⟩ λo e=> ?_;subst e;refine .cond (λe=>by cases e) λ_=> .cond (λ_=> ?_) λe=>by rw[Cg (by rw[ah];omega)]at e;cases e
  refine .bind (p:=λo=>o=_) ⟨_,S,rfl⟩ λo e=> ?_;subst e;refine .bind (p:=λo=>o=_) ⟨_,U,rfl⟩ λo e=> ?_;subst e;exact .some rfl
 obtain⟨o,h,rfl⟩:=key;exact h
theorem Zct (D:K.aA.length<=15) (c:Cv)
  (hB:T [.vC Ah (K.aA.map Ag)]=some (Bu K.p++[I 0])) (G:W (AE K.x++Bu K.p)=some [B true]) (L:Z (Bu K.p)=some [I K.len]) (N:M [.vC Ah (K.aA.map Ag)]=some [I K.set]):
  Qi M Z W T (.vC Ah (K.aA.map Ag)::B K.closed::Ad (Qzf K) c)=some (I 0::Ad (XN K) c):=
 Ztj D [] false ⟨⟨0,0,0⟩,[],[]⟩ 0 0 ⟨[],0,0,⟨0,0,0⟩⟩ c hB G L N
theorem Zs6
  (D:O (AE K.x++[I K.pa,I K.pb,I K.pc,I K.bF,I K.lag])=some [B true]) (G:P (AE K.x++[I K.pa,I K.pb,I K.pc,I K.bF,I K.lag])=some (AE K.x++[I K.pa,I K.pb,I K.pc,I K.bF,I K.lag]))
  (L:S []=some [I 100,I 100,B false,B false,B false]) (N:T []=some [I 0,I 0,I (-1)])
  (U:W (.vC Ah (K.aA.map Ag)::B K.closed::Ad (Qzf K) Bb)=some (I 0::Ad (XN K) Bb))
  (V:Z (Bu K.p++AE K.x++[I 1,I 1,I 1,I 0,I K.len])=some (Br K.t)) (X:M [I 0]=some [I 0,I 0,I 0,I 0,I 0,I 0]):
  SB M Z W T S P O (AE K.x++[I K.pa,I K.pb,I K.pc,I K.bF,I K.lag]++[.vC Ah (K.aA.map Ag),B K.closed])=some (I 0::Ad K Bb):=by
 have key:Out (λo=>o=I 0::Ad K Bb) (SB M Z W T S P O (AE K.x++[I K.pa,I K.pb,I K.pc,I K.bF,I K.lag]++[.vC Ah (K.aA.map Ag),B K.closed])):=by
  refine Out.eqv (Zdk M Z W T S P O ..) ?_;refine .bind (p:=λo=>o=_) ⟨_,D,rfl⟩ λo e=> ?_;subst e;refine .cond (λe=>by cases e) λ_=> ?_;refine .bind (p:=λo=>o=_) ⟨_,G,rfl⟩ λo e=> ?_;subst e;refine .bind (p:=λo=>o=_) ⟨_,L,rfl⟩ λo e=> ?_;subst e;refine .bind (p:=λo=>o=_) ⟨_,N,rfl⟩ λo e=> ?_;subst e;refine .bind (p:=λo=>o=I 0::Ad (XN K) Bb) ⟨_,U,rfl⟩ λo e=> ?_;subst e;refine .cond (λe=>by cases e) λ_=> ?_;refine .bind (p:=λo=>o=_) ⟨_,V,rfl⟩ λo e=> ?_;subst e;refine .bind (p:=λo=>o=_) ⟨_,X,rfl⟩ λo e=> ?_;subst e;exact .some (by kernel_rfl)
 obtain⟨o,h,rfl⟩:=key;exact h
structure MachOK (x : Ax3) (pa pb pc bF lag : Int) : Prop where
 x:Ax3M x
 plan:Plan3 pa pb pc
 bF:1<=bF/\bF<=60000
 lag:0<=lag/\lag<=40
theorem Z6l {x:Ax3} (D:MachOK x a k b v u) {aA:List Itm} (M:aA.length<=15) (N:CW aA=0) (S:∀j<aA.length,AB (vE aA j)->∀p∈Ch (vE aA j),bd B24 p) (T:∀it∈aA,it.aP=8->i64 it.aS) (closed:Bool):
  JP (AE x++[I a,I k,I b,I v,I u]++[.vC Ah (aA.map Ag),B closed])=some (I 0::Ad (kfP x a k b v u aA closed) Bb)/\KOK (kfP x a k b v u aA closed):=by
 have G:=Qrw M N;obtain⟨i1,V,X,i4⟩:=Zs5 M N S;have hs:=Qo0 (Qk5 G.aQ G.aF);have O:=G.count;refine⟨?_,?_⟩
 ·have hB:Ng [.vC Ah (aA.map Ag)]=some (Bu (A_ aA)++[I 0]):=by rw[Zsh M,ab N]
  have Y:Nj [.vC Ah (aA.map Ag)]=some [I (Ky aA)]:=by rw[Znv M,ab N]
  have hR:=Zdv D.x i1 (λg h=>(V g h).1) (by omega);have hT:=Z3s (d:=⟨1,1,1⟩) (from_:=0) (to:=AX (A_ aA).aF) G D.x.ok;have L:=Zct (K:=kfP x a k b v u aA closed) M Bb hB hR (Q7h G.ok) Y;have hO:PX []=some [I 100,I 100,B false,B false,B false]:=by show Qe5 []=_;rw[Z39]
  have hG:JQ []=some [I 0,I 0,I (-1)]:=by show RI []=_;rw[Qtr]
  have U:Je [I 0]=some [I 0,I 0,I 0,I 0,I 0,I 0]:=Qzk 0;exact Zs6 (K:=kfP x a k b v u aA closed) (Zy2 D.x D.plan D.bF D.lag) (Z19 D.x ..) hO hG L hT U
 ·refine⟨⟨G,D.x,Zm4 _ _ _ D.x.ok G⟩,D.plan,λg h=>(V g h).2,X,?_,?_,?_,Zof M N⟩
  ·show(A_ aA).aD.length<=1000000;omega
  ·exact T
  ·show i64 (AX (A_ aA).aF);unfold i64;omega
theorem Zaf {x:Ax3} (D:MachOK x a k b v u) {aA:List Itm} (M:aA.length<=15) {N:Pt} (G:Items 4084 N aA) (closed:Bool):
  JP (AE x++[I a,I k,I b,I v,I u]++[.vC Ah (aA.map Ag),B closed])=some (I 0::Ad (kfP x a k b v u aA closed) Bb)/\KOK (kfP x a k b v u aA closed):=
 Z6l D M (Zy0 (by omega) G (show aA.length <= 20000 by omega)) (λj O D => by
  rcases G.made _ (Zbw O)with⟨-,g2,-,S,-⟩|g
  ·exact Zwh g2 S
  ·exact absurd D (P2 g)) (λit L T=>by
  rcases G.made it L with⟨-,-,g,-⟩|g
  ·rw[g.2.2.2.1];unfold i64;omega
  ·have:=g.spin T;unfold i64;omega) closed
end Go.Bm
namespace Go.Bm
structure Evn where
 (cycle aP n:Int)
abbrev evR (e:Evn):List AC:=[I e.cycle,I e.aP,I e.n]
structure EvOK (e : Evn) : Prop where
 aP:1<=e.aP/\e.aP<=13
 n: -5<=e.n/\e.n<=1073741824
theorem Tx (E:List Evn) {i:Nat} (h:i<E.length):nth [] (E.map evR) (i:Int).toNat=evR E[i]:=by
 rw[ak,FC [] _ i (by rw[ah];exact h),iq]
theorem Zhy {α:Type} (P:α->Bool) (E:List α) {i:Nat} (h:i<E.length):(E.take (i+1)).filter P=(E.take i).filter P++(if P E[i]=true then [E[i]]else []):=by
 rw[i6,List.filter_append,al h];congr 1;by_cases c:P E[i]=true
 ·rw[ab c];simp[c]
 ·rw[aa c];simp[c]
theorem Qxb {P:Evn->Bool} {E:List Evn} (L:E.length<=1000000) {D:Lp} {enc:Rw->Nat->List AC}
  (G:∀(l:Rw) (i:Nat),i<=E.length->l.length<=i->D (enc l i)=if h:i<E.length then some (0,enc (l++(if P E[i]=true then [evR E[i]]else [])) (i+1))else some (1,[.vC kPt l])):
  Am D (enc [] 0)=some (1,[.vC kPt ((E.filter P).map evR)]):=by
 have key:Out (λo=>o=(1,[.vC kPt ((E.filter P).map evR)])) (Am D (enc [] 0)):=by
  refine C1 (λi:Nat=>enc (((E.take i).filter P).map evR) i) (λi=>i<=E.length) (λi=>E.length-i) _ ?_ 0 (by simp);intro i I;rw[G _ _ I (by rw[ah];exact bz (List.length_filter_le _ _) (by simp;omega))];by_cases h:i<E.length
  ·rw[jh h];refine .some (.inl ⟨rfl,i+1,?_,by omega,by omega⟩);rw[Zhy P E h];by_cases c:P E[i]=true
   ·rw[ab c,ab c,bv];rfl
   ·rw[aa c,aa c,fw,fw]
  ·rw[dif_neg h];refine .some (.inr ⟨by simp,?_⟩);rw[gv (by omega)]
 obtain⟨o,h,rfl⟩:=key;exact h
theorem Qyt {E:List Evn} (D:E.length<=1000000):Qe [.vC kPt (E.map evR)]=some [.vC kPt ((E.filter λe=>decide (e.aP<=6)).map evR)]:=by
 have G:Am Ty [.vC kPt [], .vC kPt (E.map evR),I E.length,I ((0:Nat):Int)]=some (1,[.vC kPt ((E.filter λe=>decide (e.aP<=6)).map evR)]):=by
  refine Qxb (P:=λe=>decide (e.aP<=6)) D (enc:=λl i=>[.vC kPt l, .vC kPt (E.map evR),I E.length,I (i:Int)]) λl i M L=> ?_;rw[Zxp];by_cases h:i<E.length
  ·rw[jh h,By (by simp;omega),By (by simp;omega),Tx E h,Ae (x:=(i:Int)+1)];by_cases c:decide (E[i].aP<=6)=true
   ·rw[By (show decide (gA (evR E[i]) 1<=6)=true from c),Cg (by simp;omega),ab c];rfl
   ·rw[Be (show decide (gA (evR E[i]) 1<=6)=false from Bool.eq_false_iff.2 c),aa c,fw];rfl
  ·rw[dif_neg h,Be (by simp;omega)]
 show XT (Am Ty) [.vC kPt (E.map evR)]=_;rw[Z6c,ah];rw[show(0:Int)=((0:Nat):Int)from rfl,G];rfl
structure Ord (E : List Evn) (p q : Int) : Prop where
 pw:E.Pairwise λa b=>a.cycle<=b.cycle
 rg:∀e∈E,p<=e.cycle/\e.cycle<=q
theorem Zmt:Ord [] a k:=⟨.nil,λe he=>by cases he⟩
theorem Ord.up {E:List Evn} (h:Ord E a k) (g:k<=r):Ord E a r:=⟨h.pw,λe he=>⟨(h.rg e he).1,jz (h.rg e he).2 g⟩⟩
theorem Zkw {E:List Evn} {p q:Int} {e:Evn} (h:Ord E p q) (I:p<=e.cycle) (G:q<=e.cycle/\e.cycle<=q):Ord (E++[e]) p q:=by
 refine⟨List.pairwise_append.2 ⟨h.pw,List.pairwise_singleton _ _,λa D b hb=> ?_⟩,λa D=> ?_⟩
 ·rw[du]at hb;subst hb;exact jz (h.rg a D).2 G.1
 ·rcases bn.1 D with q|q
  ·exact h.rg a q
  ·rw[du]at q;subst q;exact⟨I,G.2⟩
theorem Yaa (G:GH l M) (cycle:Int) (k:Nat):
  ∃(e:Evn) (k':Nat),XH M [I cycle, .vC Aa l,I k]=some (evR e++[.vC Aa l,I k'])/\EvOK e/\k<=k'/\e.cycle=cycle:=by
 obtain⟨v,D,U,X,v1,hk,-⟩:=G k (n:=15) (by omega);rw[Zls,U];simp only[af,Rc,gA,wA,bA,jA,CM,Ea,Dw,Bq];have all:∀(n:Nat),n<15->∃aP:Int,nth [] [[I 4],[I 1],[I 2],[I 3],[I 4],[I 5],[I 6],[I 7],[I 4],[I 8],[I 9],[I 11],[I 12],[I 13],[I 10]] n=[I aP]/\1<=aP/\aP<=13:=by
  intro n N
  match n,N with
  |0,_=>exact⟨4,rfl,by omega⟩
  |1,_=>exact⟨1,rfl,by omega⟩
  |2,_=>exact⟨2,rfl,by omega⟩
  |3,_=>exact⟨3,rfl,by omega⟩
  |4,_=>exact⟨4,rfl,by omega⟩
  |5,_=>exact⟨5,rfl,by omega⟩
  |6,_=>exact⟨6,rfl,by omega⟩
  |7,_=>exact⟨7,rfl,by omega⟩
  |8,_=>exact⟨4,rfl,by omega⟩
  |9,_=>exact⟨8,rfl,by omega⟩
  |10,_=>exact⟨9,rfl,by omega⟩
  |11,_=>exact⟨11,rfl,by omega⟩
  |12,_=>exact⟨12,rfl,by omega⟩
  |13,_=>exact⟨13,rfl,by omega⟩
  |14,_=>exact⟨10,rfl,by omega⟩
 obtain⟨aP,O,b1,b2⟩:=all v.toNat (by omega);have hlen:([[I 4],[I 1],[I 2],[I 3],[I 4],[I 5],[I 6],[I 7],[I 4],[I 8],[I 9],[I 11],[I 12],[I 13],[I 10]]:Rw).length=15:=rfl;clear all;generalize([[I 4],[I 1],[I 2],[I 3],[I 4],[I 5],[I 6],[I 7],[I 4],[I 8],[I 9],[I 11],[I 12],[I 13],[I 10]]:Rw)=T at*;have Y:v<(T.length:Int):=by omega
 simp only[X,Y,decide_true,Bool.and_self,ag,O,CM,Dw];have one:∀(n d:Int),0<n/\n<=1000->0<=d/\d<=5->∃(e:Evn) (k':Nat),((M [I n, .vC Aa l,I D]).bind λo=>some [I cycle,I aP,I (V (gA o 0-d)), .vC Aa (wA o 1),jA o 2])=some (evR e++[.vC Aa l,I k'])/\EvOK e/\k<=k'/\e.cycle=cycle:=λn d N hd=>by
  obtain⟨w,L,g1,w0,S,g2,-⟩:=G D (n:=n) (by omega);rw[g1];refine⟨⟨cycle,aP,w-d⟩,L,?_,⟨⟨b1,b2⟩,by simp only;omega⟩,by omega,rfl⟩;simp only[af,gA,wA,jA,CM,Ea,Dw,Bq];rw[Ae];rfl
 have two:∀(n:Int),0<n/\n<=1000->∃(e:Evn) (k':Nat),((M [I n, .vC Aa l,I D]).bind λo=>some [I cycle,I aP,jA o 0, .vC Aa (wA o 1),jA o 2])=some (evR e++[.vC Aa l,I k'])/\EvOK e/\k<=k'/\e.cycle=cycle:=λn N=>by
  obtain⟨w,L,g1,w0,S,g2,-⟩:=G D (n:=n) (by omega);rw[g1];exact⟨⟨cycle,aP,w⟩,L,rfl,⟨⟨b1,b2⟩,by simp only;omega⟩,by omega,rfl⟩
 cases c1:(aP==1)
 ·cases c2:(aP==2)
  ·cases c3:(aP==5)
   ·cases c4:(aP==6)
    ·cases c5:(aP==7)
     ·cases c6:(aP==8)
      ·cases c7:(aP==13)
       ·exact⟨⟨cycle,aP,0⟩,D,rfl,⟨⟨b1,b2⟩,by simp⟩,by omega,rfl⟩
       ·obtain⟨w,L,g1,w0,S,g2,-⟩:=G D (n:=4) (by omega);obtain⟨y,k3,g3,y0,y1,g4,-⟩:=G L (n:=60) (by omega);simp only[aq,ag];rw[g1];simp only[af,CM,Ea,Dw];rw[g3];refine⟨⟨cycle,aP,w*1048576+y⟩,k3,?_,⟨⟨b1,b2⟩,by simp only;omega⟩,by omega,rfl⟩;simp only[af,CM,Ea,Dw];rw[Ae (x:=w*1048576),Ae];rfl
      ·exact one 5 1 (by omega) (by omega)
     ·exact one 300 5 (by omega) (by omega)
    ·exact two 3 (by omega)
   ·exact two 3 (by omega)
  ·exact one 220 5 (by omega) (by omega)
 ·exact one 220 5 (by omega) (by omega)
theorem Zwe {ME M ML MF:Fn} (hl:l.length<=100000) (O:GH l M) (S:∀k:Nat,ML [.vC Aa l,I k]=some [B (decide (k<l.length)), .vC Aa l,I k])
  (T:∀(cycle:Int) (k:Nat),∃(e:Evn) (k':Nat),ME [I cycle, .vC Aa l,I k]=some (evR e++[.vC Aa l,I k'])/\EvOK e/\k<=k'/\e.cycle=cycle):
  Out (λo=>∃E:List Evn,o=(1,[.vC kPt (E.map evR)])/\E.length<=l.length/\(∀e∈E,EvOK e)/\Ord E 0 (40*l.length)) (Am (Qow ME M ML MF) [.vC kPt [],I 0, .vC Aa l,I 0]):=by
 refine C1 (λs:List Evn×Int×Nat=>[.vC kPt (s.1.map evR),I s.2.1, .vC Aa l,I (s.2.2:Int)]) (λs=>(∀e∈s.1,EvOK e)/\s.1.length<=s.2.2/\s.1.length<=l.length/\Ord s.1 0 s.2.1/\0<=s.2.1/\s.2.1<=40*s.1.length) (λs=>l.length-s.2.2) _ ?_ ([],0,0) ⟨by simp,by simp,by simp,Zmt,by simp,by simp⟩;rintro⟨E,cycle,k⟩ ⟨G,U,N,L,V,X⟩;dsimp only at G U N L V X;rw[Znx,S];simp only[af,gA,wA,bA,jA,CM,Ea,Dw,Bq,Dn];by_cases c:k<l.length
 ·rw[aj c];obtain⟨v,Y,g1,v0,v1,-,g2,-⟩:=O k (n:=40) (by omega);have g2:=g2 c;rw[ag,g1];simp only[af,CM,Ea,Dw];rw[Ae (x:=cycle+v)];obtain⟨e,k2,q1,q2,q3,q4⟩:=T (cycle+v) Y;rw[q1];simp only[af,az,bc,CM,Ea,Dw];rw[Cg (by simp;omega)];refine .some (.inl ⟨rfl,(E++[e],cycle+v,k2),?_,⟨?_,by simp;omega,by simp;omega,Zkw (q:=cycle+v) (L.up (by omega)) (by omega) (by omega),by dsimp only;omega,by simp;omega⟩,by dsimp only;omega⟩)
  ·rw[bv];rfl
  ·intro x D;dsimp only at D;rcases bn.1 D with D|D
   ·exact G x D
   ·rw[du]at D;subst D;exact q2
 ·rw[an c];exact .some (.inr ⟨by simp,E,rfl,N,G,L.up (by omega)⟩)
theorem Q9g (D:Src l) (M:l.length<=60):∃E:List Evn,Qd [.vC Aa l]=some [.vC kPt (E.map evR)]/\E.length<=60/\(∀e∈E,EvOK e)/\Ord E 0 2400:=by
 obtain⟨o,G,E,rfl,N,I,L⟩:=Zwe (ME:=LS) (MF:=Cu) (by omega) (Hg D) (Qt8 l) λcycle k=>Yaa (Hg D) cycle k;refine⟨E,?_,by omega,I,L.up (by omega)⟩;show Qej LS BE FW Cu (Am _) [.vC Aa l]=_;rw[Z77,Ql];simp only[af,gA,wA,bA,jA,CM,Ea,Dw,Bq];rw[G];rfl
theorem Zk6 {D MF:Fn} (G:GH l D) (N:MF [.vC Aa l]=some [.vC Aa l,I 0]):
  ∃a b c:Int,Vf D MF [.vC Aa l]=some [I a,I b,I c]/\(1<=a/\a<=900)/\(2<=b/\b<=201)/\(1<=c/\c<=16000):=by
 obtain⟨v,M,g1,T,U,-⟩:=G 0 (n:=900) (by omega);obtain⟨w,O,g2,w0,V,-⟩:=G M (n:=200) (by omega);obtain⟨y,X,S,y0,y1,-⟩:=G O (n:=16000) (by omega);have L:D [I 900, .vC Aa l,I 0]=some [I v, .vC Aa l,I M]:=g1;refine⟨1+v,2+w,1+y,?_,by omega,by omega,by omega⟩;rw[Zy7,N];simp only[af,gA,wA,bA,jA,CM,Ea,Dw,Bq];rw[L];simp only[af,CM,Ea,Dw];rw[g2];simp only[af,CM,Ea,Dw];rw[S];simp only[af,CM,Ea,Dw];rw[Ae (x:=1+v),Ae (x:=2+w),Ae (x:=1+y)]
theorem Zik {G MP L MF:Fn} {l m:Rw} (M:GH m G) (N:MF [.vC Aa m]=some [.vC Aa m,I 0]) {x:Ax3} (O:L [.vC Aa l]=some (AE x)) (S:Ax3M x) {a b c:Int} (T:MP [.vC Aa m]=some [I a,I b,I c]) (X:1<=a/\a<=900) (Y:2<=b/\b<=201) (h3:1<=c/\c<=16000) (U:m.length<=100000):
  ∃bF lag:Int,XP G MP L MF [.vC Aa l, .vC Aa m]=some (AE x++[I a,I b,I c,I bF,I lag])/\MachOK x a b c bF lag:=by
 obtain⟨k0,D⟩:∃k0:Nat,mn 3 (m.length:Int)=k0:=⟨(mn 3 (m.length:Int)).toNat,by unfold mn;split<;>omega⟩;obtain⟨v,V,g1,v0,v1,-⟩:=M k0 (n:=60000) (by omega);obtain⟨w,k2,g2,w0,w1,-⟩:=M V (n:=40) (by omega);refine⟨1+v,w,?_,⟨S,⟨by omega,by omega,by omega⟩,by omega,by omega⟩⟩;rw[Zyu,N,O,T];simp only[af,gA,wA,bA,jA,CM,Ea,Dw,Bq];rw[D,g1];simp only[af,CM,Ea,Dw];rw[g2];simp only[af,CM,Ea,Dw];rw[Ae (x:=1+v)];rfl
theorem Z4g (L:List (Rw)) (D:L.length<=1000):Out (λo=>o.1=1/\o.2=[B false]\/o.1=2/\∀l∈L,l.length<=60) (Am S5 [.vC [Kd.sl Aa] (L.map λl=>[.vC Aa l]),I L.length,I ((0:Nat):Int)]):=by
 refine C1 (λi:Nat=>[.vC [Kd.sl Aa] (L.map λl=>[.vC Aa l]),I L.length,I (i:Int)]) (λi=>i<=L.length/\∀l∈L.take i,l.length<=60) (λi=>L.length-i) _ ?_ 0 (by simp);rintro i ⟨N,G⟩;rw[Zzs];refine .cond (λc=> ?_) λc=> .some (.inr ⟨by simp, .inr ⟨rfl,?_⟩⟩)
 ·have c:(i:Int)<(L.length:Int):=BC c;have M:i<L.length:=by omega
  refine .cond (λ_=> ?_) λe=>(inB (by omega) (by rw[ah];exact c) e).elim;rw[ak,FC [] _ i (by rw[ah];exact M),iq];refine .cond (λ_=> .some (.inr ⟨by simp, .inl ⟨rfl,rfl⟩⟩)) λq=> ?_;have q: ¬(L[i].length:Int)>60:=BB q;rw[Ae (x:=(i:Int)+1)];refine .some (.inl ⟨rfl,i+1,rfl,⟨by omega,?_⟩,by omega⟩);intro l D;rw[i6,al M]at D;rcases bn.1 D with D|D
  ·exact G l D
  ·simp at D;subst D;omega
 ·have c: ¬(i:Int)<(L.length:Int):=BB c;rw[gv (by omega)]at G;exact G
theorem Z3w {L:List (Rw)} (I:L.length<=1000):∃b:Bool,Kz [.vC [Kd.sl Aa] (L.map λl=>[.vC Aa l])]=some [B b]/\(b=true->∀l∈L,l.length<=60):=by
 obtain⟨o,M,N⟩:=Z4g L I;have e:Kz [.vC [Kd.sl Aa] (L.map λl=>[.vC Aa l])]=VW (Am S5) [.vC [Kd.sl Aa] (L.map λl=>[.vC Aa l])]:=rfl;rw[e,Zyt,ah];rw[show(0:Int)=((0:Nat):Int)from rfl,M];obtain⟨o1,o2⟩:=o;rcases N with⟨D,G⟩|⟨D,G⟩
 ·dsimp only at D G;subst D G;exact⟨false,rfl,λh=>by cases h⟩
 ·dsimp only at D G;subst D;exact⟨true,rfl,λ_=>G⟩
abbrev Znc:Itm:=⟨0,0,⟨0,0,0⟩,⟨0,0,0⟩,0,⟨0,0,0⟩,0,false,0,false,0,0,0,0,0,false⟩
def itK (K:Kf) (i:Int):Itm:=K.aA.getD i.toNat Znc
def mkK (K:Kf) (i:Int):Mrk:=K.p.aD.getD i.toNat ⟨0,0,0⟩
theorem Jo (D:0<=a) (G:a<K.aA.length):nth [] (K.aA.map Ag) a.toNat=Ag (itK K a):=by
 have h:a.toNat<K.aA.length:=by omega
 rw[Qys K h];unfold itK;rw[List.getD,al h];rfl
theorem Nf (D:0<=a) (G:a<K.p.aD.length):nth [] (K.p.aD.map At) a.toNat=At (mkK K a):=by
 have h:a.toNat<K.p.aD.length:=by omega
 rw[Z38 K h];unfold mkK;rw[List.getD,al h];rfl
theorem Uu (h:KOK K) {i:Int} (G:0<=i) (I:i<K.p.aD.length):0<=(mkK K i).aU/\(mkK K i).aU<K.aA.length/\i64 (mkK K i).at_:=by
 have D:i.toNat<K.p.aD.length:=by omega
 unfold mkK;rw[List.getD,al D];exact h.aD _ (cg D)
theorem inR {n:Nat} (D:0<=a) (G:a<(n:Int)):(decide (0<=a)&&decide (a<(n:Int)))=true:=by
 rw[aj D,aj G];rfl
theorem inM {β:Type} {f:β->List AC} {i:Int} {l:List β} (D:0<=i) (G:i<(l.length:Int)):(decide (0<=i)&&decide (i<((l.map f).length:Int)))=true:=inR D (by rw[ah];exact G)
def E7 (K:Kf) (c:Cv):Option Sgm:=K.p.aF[(Bf K.p.aF (max (A4 K c) 0)).1]?
def vF (K:Kf) (c:Cv):Sgm:=(E7 K c).getD sg0
theorem Qr4 {c:Cv} (h:E7 K c=some g):g∈K.p.aF:=bj h
theorem Gx (h:KOK K) {c:Cv} (D:(vF K c).aX≠0):0<=(vF K c).aU/\(vF K c).aU<K.aA.length/\i64 (vF K c).aX:=by
 unfold vF at D⊢;cases e:E7 K c with
 |none=>rw[e]at D;exact absurd rfl D
 |some g=>exact h.aF g (Qr4 e)
theorem Z4b {c:Cv} (G:Z (Ad K c)=some [I (A4 K c)])
  (L:M (Bu K.p++[I (A4 K c)])=if K.p.aF=[]then some [I (-1),I 0]else some [I (Bf K.p.aF (max (A4 K c) 0)).1,I (Bf K.p.aF (max (A4 K c) 0)).2]):
  Qp4 M Z (Ad K c)=some (Ay (vF K c)++[B (E7 K c).isSome]):=by
 rw[Zi9];refine eB G (dh (il (λz=>Option.bind z _) (show M (Bu K.p++[I (A4 K c)])=_ from L)) ?_);by_cases e:K.p.aF=[]
 ·have e2:E7 K c=none:=by unfold E7;rw[e];rfl
  unfold vF;rw[ab e,e2];rfl
 ·have D:=Z_ K.p.aF (max (A4 K c) 0) e;have e2:E7 K c=some K.p.aF[(Bf K.p.aF (max (A4 K c) 0)).1]:=al D;unfold vF;rw[aa e,e2];refine eB rfl (eF (an (show¬((Bf K.p.aF (max (A4 K c) 0)).1:Int)<0 by omega)) (eT (inM (f:=Ay) (l:=K.p.aF) (i:=((Bf K.p.aF (max (A4 K c) 0)).1:Int)) (by omega) (by omega)) ?_));have N:nth [] (K.p.aF.map Ay) ((Bf K.p.aF (max (A4 K c) 0)).1:Int).toNat=Ay K.p.aF[(Bf K.p.aF (max (A4 K c) 0)).1]:=by
   rw[ak,FC [] _ _ (by rw[ah];exact D),iq]
  show some (AM Aj (nth [] (K.p.aF.map Ay) ((Bf K.p.aF (max (A4 K c) 0)).1:Int).toNat)++[B true])=_;rw[N];rfl
theorem Q88 (h:KOK K) (c:Cv):FB (Ad K c)=some (Ay (vF K c)++[B (E7 K c).isSome]):=
 Z4b (UD h c) (Vb h.f.p.ok (Qoz h.f _))
def IJ (K:Kf) (c:Cv):Bool:=(E7 K c).isSome&&((itK K (vF K c).aU).aP==6&&c.y0==(vF K c).aU)
theorem Zdg {c:Cv} (h:KOK K) (I:M (Ad K c)=some (Ay (vF K c)++[B (E7 K c).isSome])):U0 M (Ad K c)=some [B (IJ K c)]:=by
 rw[Zcy,I];unfold IJ vF;cases e:E7 K c with
 |none=>rfl
 |some g=>
  obtain⟨D,G,-⟩:=h.aF g (Qr4 e);refine eB rfl (eT rfl (eT (inM (f:=Ag) D G) ?_));show cond (gA (nth [] (K.aA.map Ag) g.aU.toNat) 0==6) (some [B (c.y0==g.aU)]) (some [B false])=some [B (true&&((itK K g.aU).aP==6&&c.y0==g.aU))];rw[Jo D G];show cond ((itK K g.aU).aP==6) (some [B (c.y0==g.aU)]) (some [B false])=_;cases((itK K g.aU).aP==6)<;>rfl
theorem Zyv (h:KOK K) (c:Cv):L3 (Ad K c)=some [B (IJ K c)]:=Zdg h (Q88 h c)
def spV (c:Cv) (bF:Int):Int:=if c.s1<c.s2 then mn (V (c.s1+bF)) c.s2 else mx (V (c.s1-bF)) c.s2
def spS (c:Cv) (bF:Int):Cv:={c with s1:=spV c bF,s3:=V (c.s3+V (c.s0*spV c bF))}
theorem Zz9 (c:Cv) (bF:Int):KX [I c.s0,I c.s1,I c.s2,I c.s3,I bF]=some [I (spS c bF).s0,I (spS c bF).s1,I (spS c bF).s2,I (spS c bF).s3]:=by
 show Xz _=_;rw[Zsg];show _=some [I c.s0,I (spV c bF),I c.s2,I (V (c.s3+V (c.s0*spV c bF)))];unfold spV;by_cases h:c.s1<c.s2
 ·rw[By (aj h),ab h]
 ·rw[Be (an h),aa h]
def EY (c:Cv):Bool:=c.m1==0&&(c.m2==0&&(c.m3==c.m0&&c.m4==c.m0))
theorem Zzt (c:Cv):K8 [I c.m0,I c.m1,I c.m2,I c.m3,I c.m4,I c.m5]=some [B (EY c)]:=by
 show Qba _=_;rw[Z0k];unfold EY;cases(c.m1==0)<;>cases(c.m2==0)<;>cases(c.m3==c.m0)<;>rfl
def Pk (b:Bool) (n:Int):Bool:=if n=0 then false else if n=1 then true else b
theorem Zcj (b:Bool) (n:Int):Py [B b,I n]=some [B (Pk b n)]:=by
 show Yk _=_;rw[Zhp];unfold Pk;by_cases h:n=0
 ·rw[ab h,By (by simpa using h)]
 ·rw[aa h,Be (by simpa using h)];by_cases h:n=1
  ·rw[ab h,By (by simpa using h)]
  ·rw[aa h,Be (by simpa using h)]
def Ho (k n:Int):Bool:=k==9||(k==8&&(decide (0<=n)&&decide (n<=2)))
def evC (c:Cv) (k n:Int):Cv:={c with
 o0:=if k=1/\0<=n/\n<=200 then n else c.o0
 o1:=if k=2/\0<=n/\n<=100 then n else c.o1
 o2:=if k=3\/k=11 then true else if k=4 then false else c.o2
 o3:=if k=5 then Pk c.o3 n else c.o3
 o4:=if k=6 then Pk c.o4 n else c.o4
 g0:=if k=10 then 2 else if k=11 then 0 else if Ho k n=true then(if c.g0=2 then 2 else 1)else c.g0
 g1:=if k=10 then 22 else if k=11 then 0 else if Ho k n=true/\c.g0≠2/\c.g1=0 then(if k=9 then 21 else 20)else c.g1
 g2:=if k=10 then-1 else if k=11 then-1 else if Ho k n=true/\c.g0≠2/\c.g1=0 then(if k=9 then-1 else n)else c.g2
 aJ:=if k=4 then true else c.aJ}
theorem Zea (T:∀(b:Bool) (n:Int),M [B b,I n]=some [B (Pk b n)]) (c:Cv) (x k n:Int) (U:k≠11):
  RS M [I c.o0,I c.o1,B c.o2,B c.o3,B c.o4,I x,I k,I n]=some [I (evC c k n).o0,I (evC c k n).o1,B (evC c k n).o2,B (evC c k n).o3,B (evC c k n).o4]:=by
 rw[Q0x];unfold evC;simp only[T];by_cases D:k=1
 ·subst D;by_cases a:0<=n<;>by_cases b:n<=200<;>simp[a,b]
 ·by_cases G:k=2
  ·subst G;by_cases a:0<=n<;>by_cases b:n<=100<;>simp[a,b]
  ·by_cases L:k=3
   ·subst L;simp
   ·by_cases N:k=4
    ·subst N;simp
    ·by_cases O:k=5
     ·subst O;simp[gA,bA,nth,Dn]
     ·by_cases S:k=6
      ·subst S;simp[gA,bA,nth,Dn]
      ·simp only[beF D,beF G,beF L,beF N,beF O,beF S,aq];simp[D,G,L,N,O,S,U]
theorem Z93 (c:Cv) (x n:Int):
  RS M [I c.o0,I c.o1,B c.o2,B c.o3,B c.o4,I x,I 11,I n]=some [I c.o0,I c.o1,B c.o2,B c.o3,B c.o4]:=by
 rw[Q0x];rfl
theorem Zwy (a b d e f:Int):Qn [I a,I b,I d,I e,I f]=some (if a=2 then [I a,I b,I d]else if b=0 then [I 1,I e,I f]else [I 1,I b,I d]):=by
 show XL _=_;rw[Zsw];by_cases h:a=2
 ·rw[ab h,By (by simpa using h)]
 ·rw[aa h,Be (by simpa using h)];by_cases h:b=0
  ·rw[ab h,By (by simpa using h)]
  ·rw[aa h,Be (by simpa using h)]
theorem Ze9 (O:M []=some [I 0,I 0,I (-1)]) (S:∀a b d e f:Int,Z [I a,I b,I d,I e,I f]=some (if a=2 then [I a,I b,I d]else if b=0 then [I 1,I e,I f]else [I 1,I b,I d])) (c:Cv) (x k n:Int):
  Qfi M Z [I c.g0,I c.g1,I c.g2,I x,I k,I n]=some [I (evC c k n).g0,I (evC c k n).g1,I (evC c k n).g2]:=by
 rw[Zhj];unfold evC;simp only[S,O];by_cases D:k=10
 ·subst D;rfl
 ·by_cases G:k=9
  ·subst G;by_cases a:c.g0=2<;>by_cases b:c.g1=0<;>simp[Ho,a,b,gA,jA,nth,Af]
  ·by_cases L:k=8
   ·subst L;by_cases u:0<=n<;>by_cases v:n<=2<;>by_cases a:c.g0=2<;>by_cases b:c.g1=0<;>simp[Ho,a,b,u,v,gA,jA,nth,Af]
   ·by_cases N:k=11
    ·subst N;rfl
    ·simp only[beF D,beF G,beF L,beF N,aq];simp[Ho,D,G,L,N]
theorem Zyp (c:Cv) (x:Int) {k:Int} (n:Int) (D:k≠7/\k≠12/\k≠13)
  (O:k≠11->S [I c.o0,I c.o1,B c.o2,B c.o3,B c.o4,I x,I k,I n]=some [I (evC c k n).o0,I (evC c k n).o1,B (evC c k n).o2,B (evC c k n).o3,B (evC c k n).o4])
  (G:k=11->S [I c.o0,I c.o1,B c.o2,B c.o3,B c.o4,I x,I k,I n]=some [I c.o0,I c.o1,B c.o2,B c.o3,B c.o4])
  (N:T [I c.g0,I c.g1,I c.g2,I x,I k,I n]=some [I (evC c k n).g0,I (evC c k n).g1,I (evC c k n).g2]):
  XQ M Z W T S (I x::I k::I n::Ad K c)=some (Ad K (evC c k n)):=by
 rw[Zln];by_cases h:k=11
 ·rw[G h,N];subst h;rfl
 ·rw[O h,N];simp only[af];rw[Be (by simpa using D.2.2),Be (by simpa using h),Be (by simpa using D.2.1),Be (by simpa using D.1)];by_cases L:k=4
  ·subst L;rfl
  ·rw[Be (by simpa using L)];have e:(evC c k n).aJ=c.aJ:=by unfold evC;simp[L]
   rw[<-e];rfl
theorem Zgu (c:Cv) (x:Int) {k:Int} (n:Int) (D:k≠7/\k≠12/\k≠13):Lq (I x::I k::I n::Ad K c)=some (Ad K (evC c k n)):=
 Zyp c x n D (λh=>Zea Zcj c x k n h) (λh=>by subst h;exact Z93 c x n) (Ze9 (by show RI []=_;rw[Qtr]) Zwy c x k n)
end Go.Bm
noncomputable section
namespace Go.Bm
def one (M:Fn) (l:List AC):Int:=gA ((M l).getD []) 0
theorem Qke {l:List AC} (h:M l=some [I v]):M l=some [I (one M l)]:=by
 unfold one;rw[h];rfl
def HI (k:Int) (c:Cv):Bool:=k==1||(k==3||(k==6||(k==4&&(c.o4||c.o3)||k==2&&c.o3)))
theorem Qvs (at_ k it:Int) (c:Cv):Ik [I at_,I k,I it,I c.o0,I c.o1,B c.o2,B c.o3,B c.o4]=some [B (HI k c)]:=by
 show Qlm _=_;rw[Z8n];unfold HI;by_cases D:k=1
 ·subst D;rfl
 by_cases G:k=3
 ·subst G;rfl
 by_cases L:k=6
 ·subst L;rfl
 by_cases M:k=4
 ·subst M;cases c.o4<;>cases c.o3<;>rfl
 by_cases N:k=2
 ·subst N;cases c.o3<;>rfl
 simp[beF D,beF G,beF L,beF M,beF N]
def GV (c:Cv) (known frm:Int):List Mrk->Nat->Int×Int
 |[],_=>(known,-1)
 |m::l,i=>if HI m.aP c=true/\frm<=m.at_/\m.at_<=known then(m.at_,i)else GV c known frm l (i+1)
def BS (K:Kf) (c:Cv) (known frm:Int):Int×Int:=GV c known frm (K.p.aD.drop (max c.next 0).toNat) (max c.next 0).toNat
theorem Zgv (U:K.p.aD.length<=1000000) (c:Cv) (V:∀at_ k it:Int,M [I at_,I k,I it,I c.o0,I c.o1,B c.o2,B c.o3,B c.o4]=some [B (HI k c)]) (known frm:Int):
  Qev M (Am (Rx M)) [.vC kPt (K.p.aD.map At),I c.next,I c.o0,I c.o1,B c.o2,B c.o3,B c.o4,I known,I frm]=some [I (BS K c known frm).1,I (BS K c known frm).2]:=by
 rw[Zgh];have N:mx c.next 0=max c.next 0:=by unfold mx;split<;>omega
 have key:Out (λo=>(if o.1=1 then o.2=[I (BS K c known frm).1,I (BS K c known frm).2]else o.1=2/\o.2=[I (BS K c known frm).1]/\(BS K c known frm).2= -1)) (Am (Rx M) [.vC kPt (K.p.aD.map At),I known,I frm,I (max c.next 0),I c.o0,I c.o1,B c.o2,B c.o3,B c.o4]):=by
  refine C1 (λs:Int=>[.vC kPt (K.p.aD.map At),I known,I frm,I s,I c.o0,I c.o1,B c.o2,B c.o3,B c.o4]) (λs=>0<=s/\BS K c known frm=GV c known frm (K.p.aD.drop s.toNat) s.toNat) (λs=>(K.p.aD.length-s).toNat) _ ?_ (max c.next 0) ⟨by omega,rfl⟩;rintro i ⟨g,D⟩;rw[Zne];refine .cond (λk=> ?_) λk=> ?_
  ·have k:i<((K.p.aD.map At).length:Int):=BC k;rw[ah]at k;have O:i.toNat<K.p.aD.length:=by omega
   rw[Ae (x:=i+1) (by have:=U;omega)];have em:mkK K i=K.p.aD[i.toNat]:=by unfold mkK;rw[List.getD,al O];rfl
   rw[ic O,<-em]at D;unfold GV at D;refine .cond (λ_=> ?_) λe=>(inB g (by rw[ah];exact k) e).elim;rw[Nf g k];refine .bind (p:=λo=>o=_) ⟨_,V _ _ _,rfl⟩ λo e=> ?_;subst e;have next:BS K c known frm=GV c known frm (K.p.aD.drop (i.toNat+1)) (i.toNat+1)->Out (λo:Nat×List AC=>(o.1=0/\∃G:Int,o.2=[.vC kPt (K.p.aD.map At),I known,I frm,I G,I c.o0,I c.o1,B c.o2,B c.o3,B c.o4]/\(0<=G/\BS K c known frm=GV c known frm (K.p.aD.drop G.toNat) G.toNat)/\(K.p.aD.length-G).toNat<(K.p.aD.length-i).toNat)\/(o.1≠0/\(if o.1=1 then o.2=[I (BS K c known frm).1,I (BS K c known frm).2]else o.1=2/\o.2=[I (BS K c known frm).1]/\(BS K c known frm).2= -1))) (some (0,[.vC kPt (K.p.aD.map At),I known,I frm,I (i+1),I c.o0,I c.o1,B c.o2,B c.o3,B c.o4])):=λe=>
    .some (.inl ⟨rfl,i+1,rfl,⟨by omega,by rw[e,show(i+1).toNat=i.toNat+1 by omega]⟩,by omega⟩)
   refine .cond (λa=> .cond (λb=> .cond (λd=> ?_) λd=> ?_) λb=> ?_) λa=> ?_
   ·have a:HI (mkK K i).aP c=true:=a;have b:frm<=(mkK K i).at_:=BC b;have d:(mkK K i).at_<=known:=BC d;rw[ab ⟨a,b,d⟩]at D;refine .some (.inr ⟨by simp,?_⟩);rw[ab rfl,D];show [I (mkK K i).at_,I i]=[I (mkK K i).at_,I (i.toNat:Int)];rw[Int.toNat_of_nonneg g]
   ·have d: ¬(mkK K i).at_<=known:=BB d;rw[aa (λh=>d h.2.2)]at D;exact next D
   ·have b: ¬frm<=(mkK K i).at_:=BB b;rw[aa (λh=>b h.2.1)]at D;exact next D
   ·have a:HI (mkK K i).aP c=false:=a;rw[aa (λh=>by rw[a]at h;cases h.1)]at D;exact next D
  ·have k: ¬i<((K.p.aD.map At).length:Int):=BB k;rw[ah]at k;rw[ff (by omega)]at D;refine .some (.inr ⟨by simp,?_⟩);rw[aa (by simp),D];exact⟨rfl,rfl,rfl⟩
 obtain⟨⟨o1,o2⟩,X,L⟩:=key;rw[N];refine eB X ?_;by_cases e:o1=1
 ·subst e;have L:o2=_:=L;subst L;rfl
 ·rw[aa e]at L;obtain⟨S,T,Y⟩:=L;dsimp only at S T;subst S T;rw[Y];rfl
theorem Z2y (h:KOK K) (c:Cv) (known frm:Int):PK [.vC kPt (K.p.aD.map At),I c.next,I c.o0,I c.o1,B c.o2,B c.o3,B c.o4,I known,I frm]=some [I (BS K c known frm).1,I (BS K c known frm).2]:=
 Zgv h.count c (λat_ k it=>Qvs at_ k it c) known frm
theorem Q2u {c:Cv} {known frm:Int} (D:i64 known):∀{l:List Mrk} {i:Nat},(∀m∈l,i64 m.at_)->i64 (GV c known frm l i).1
 |[],_,_=>D
 |m::l,i,h=>by
  unfold GV;split
  ·exact h m (by simp)
  ·exact Q2u D λq G=>h q (by simp[G])
theorem Q50 {c:Cv} {known frm:Int}:∀{l:List Mrk} {i:Nat},(GV c known frm l i).2= -1\/((i:Int)<=(GV c known frm l i).2/\(GV c known frm l i).2<(i+l.length:Nat))
 |[],_=> .inl rfl
 |m::l,i=>by
  unfold GV;split
  ·exact .inr ⟨dt _,by simp only[bm];omega⟩
  ·rcases Q50 (l:=l) (i:=i+1) (c:=c) (known:=known) (frm:=frm)with h|⟨D,G⟩
   ·exact .inl h
   ·exact .inr ⟨by omega,by simp only[bm];omega⟩
theorem Ztr {c:Cv} {known frm:Int}:(BS K c known frm).2= -1\/(0<=(BS K c known frm).2/\c.next<=(BS K c known frm).2/\(BS K c known frm).2<K.p.aD.length):=by
 unfold BS;rcases Q50 (c:=c) (known:=known) (frm:=frm) (l:=K.p.aD.drop (max c.next 0).toNat) (i:=(max c.next 0).toNat)with h|⟨G,D⟩
 ·exact .inl h
 ·rw[dg]at D;exact .inr ⟨by omega,by omega,by omega⟩
def Qu5 (K:Kf) (c:Cv):Int:=one GB [I K.pa,I K.pb,I K.pc,I c.m0,I c.m1,I c.m2,I c.m3,I c.m4,I c.m5]
def FD (K:Kf):Int:=if K.closed=true then K.len else K.set
def FN (r:Int):Int:=V ((V (V (r+256)-1)).tdiv 256)
def KZ (K:Kf) (r:Int):Int:=if I6 K.t (BK K.t (FN r))≠FN r then V (BK K.t (FN r)+1)else BK K.t (FN r)
def Bg (K:Kf) (c:Cv):Int×Int:=(I6 K.t (BS K c (FD K) (KZ K (Qu5 K c))).1,(BS K c (FD K) (KZ K (Qu5 K c))).2)
theorem Qt4 (K:Kf) (c:Cv):(Bg K c).2= -1\/(0<=(Bg K c).2/\c.next<=(Bg K c).2/\(Bg K c).2<K.p.aD.length):=Ztr
theorem Z41 (h:KOK K):i64 (FD K):=by unfold FD;split;exact h.len;exact h.set
theorem Qt9 (h:KOK K) {c:Cv} {frm:Int}:i64 (BS K c (FD K) frm).1:=by
 unfold BS;exact Q2u (Z41 h) λm D=>(h.aD m (dx D)).2.2
theorem Zgi {c:Cv} {b:Bool} (h:KOK K)
  (N:T [I K.pa,I K.pb,I K.pc,I c.m0,I c.m1,I c.m2,I c.m3,I c.m4,I c.m5]=some [I r,B b])
  (O:∀u,W (Br K.t++[I u])=some [I (BK K.t u)]) (G:∀{z:Int},i64 z->Z (Br K.t++[I z])=some [I (I6 K.t z)])
  (L:∀known frm,M [.vC kPt (K.p.aD.map At),I c.next,I c.o0,I c.o1,B c.o2,B c.o3,B c.o4,I known,I frm]=some [I (BS K c known frm).1,I (BS K c known frm).2]):
  Zm M Z W T (Ad K c)=some (I (I6 K.t (BS K c (FD K) (KZ K r)).1)::I (BS K c (FD K) (KZ K r)).2::Ad K c):=by
 have key:∀known:Int,known=FD K->T9 T K c W Z M (I known)=some (I (I6 K.t (BS K c (FD K) (KZ K r)).1)::I (BS K c (FD K) (KZ K r)).2::Ad K c):=λknown S=>by
  subst S;refine eB N (eB (O (FN r)) (eB (G (Qoz h.f _)) ?_));have e1:KZ K r=if I6 K.t (BK K.t (FN r))≠FN r then V (BK K.t (FN r)+1)else BK K.t (FN r):=rfl;by_cases D:I6 K.t (BK K.t (FN r))=FN r
  ·rw[aa (by simpa using D)]at e1;refine eF (bnF D) ?_;exact eB (L (FD K) (BK K.t (FN r))) (by rw[<-e1];exact eB (G (Qt9 h)) rfl)
  ·rw[ab D]at e1;refine eT (bnT D) ?_;exact eB (L (FD K) (V (BK K.t (FN r)+1))) (by rw[<-e1];exact eB (G (Qt9 h)) rfl)
 rw[Z94];refine eC (λe=>key _ ?_) λe=>key _ ?_
 ·unfold FD;rw[ab e]
 ·unfold FD;rw[aa (by rw[e];simp)]
theorem Z24 {l:List AC} (h:Out (λo=>(wA o 0).length<=4096) (M l)) {G L N D O S T U V:Int} (e:l=[I G,I L,I N,I D,I O,I S,I T,I U,I V]):∃(r:Int) (b:Bool),Po M l=some [I r,B b]:=by
 subst e;have key:Out (λo=>∃(r:Int) (b:Bool),o=[I r,B b]) (Po M [I G,I L,I N,I D,I O,I S,I T,I U,I V]):=by
  rw[Zae];refine .bind h λo g=> .cond (λ_=> .some ⟨0,false,rfl⟩) λ_=> ?_;generalize wA o 0=X at*;refine .cond (λ_=> .some ⟨D,true,rfl⟩) λc=> .cond (λ_=> .some ⟨_,true,rfl⟩) λd=> ?_;have c: ¬((X.length:Int)=0):=by simpa using c
  rw[Ae]at d;simp at d;omega
 obtain⟨o,Y,r,b,rfl⟩:=key;exact⟨r,b,Y⟩
theorem Zuv (D G L N O S T U V:Int):∃b:Bool,GB [I D,I G,I L,I N,I O,I S,I T,I U,I V]=some [I (one GB [I D,I G,I L,I N,I O,I S,I T,I U,I V]),B b]:=by
 obtain⟨r,b,h⟩:=Z24 (M:=FH) (Qpo D G L N O S T U V) rfl;have h:GB [I D,I G,I L,I N,I O,I S,I T,I U,I V]=some [I r,B b]:=h;refine⟨b,?_⟩;unfold one;rw[h];rfl
theorem Zu6 (h:KOK K) (c:Cv):QI (Ad K c)=some (I (Bg K c).1::I (Bg K c).2::Ad K c):=by
 obtain⟨b,hb⟩:=Zuv K.pa K.pb K.pc c.m0 c.m1 c.m2 c.m3 c.m4 c.m5;exact Zgi h hb (UU h.f.t.q) (λD=>Zg2 h.f.t.q D) (Z2y h c)
def T7 (c:Cv) (v:Int):Cv:={c with m0:=V (c.m0+v),m1:=v,m2:=V (v-c.m1),m3:=c.m0,m4:=c.m3,m5:=c.m4}
def EG (K:Kf) (c:Cv) (l:Int):Cv:=T7 c (nxV K c l)
theorem Qj1 {c:Cv} {n:Int} (h:KOK K) (g:Gd K n c) (l:Int):
  Fi (nxL K c l)=some (Eo c.m0 c.m1 c.m3 c.m4 (nxV K c l))/\((Bh K.pa K.pb (nxV K c l) (V (nxV K c l-c.m1))).2=true\/∃r:Int,nxV K c l=V (c.m1+r)/\r=AJ K.pa K.pb c.m1 c.m2):=by
 obtain⟨o,D,v,rfl,G⟩:=Q4h h g.mo l c.o2;have D:Fi (nxL K c l)=some (Eo c.m0 c.m1 c.m3 c.m4 v):=D;have e:nxV K c l=v:=by unfold nxV;rw[D];rfl
 rw[e];exact⟨D,G⟩
theorem Zcz {c:Cv} (h:M (nxL K c a)=some (Eo c.m0 c.m1 c.m3 c.m4 v)):Qqg M (I a::Ad K c)=some (Ad K (T7 c v)):=by
 rw[Zht];exact eB h rfl
theorem Qei {c:Cv} {n:Int} (h:KOK K) (g:Gd K n c) (l:Int):HF (I l::Ad K c)=some (Ad K (EG K c l)):=Zcz (Qj1 h g l).1
theorem Qwh {c:Cv} {n:Int} (h:KOK K) (g:Gd K n c) (D:0<=n/\n<=10000) (l:Int):Gd K (n+1) (EG K c l):=g.bC h D (Qj1 h g l).2
def Iq (c:Cv):Cv:={c with next:=V (c.idx+1),on:=false,idx:=0,aN:=false,cnt:=0}
def O9 (c:Cv) (n D:Int):List AC:=(KM [I c.s0,I c.s1,I c.s2,I c.s3,I n,I D]).getD []
def JC (c:Cv) (n D:Int):Cv:={c with s0:=gA (O9 c n D) 0,s1:=gA (O9 c n D) 1,s2:=gA (O9 c n D) 2,s3:=gA (O9 c n D) 3}
def Q9b (c:Cv) (n D:Int):Bool:=bA ((Ml [I c.s0,I c.s1,I c.s2,I c.s3,I n,I D]).getD []) 0
def IU (K:Kf) (c:Cv):Int×Cv:=
 if c.aN=true then(if c.cnt>1/\c.aJ=true then(3,Iq c)else(2,c))
 else if(mkK K c.idx).aP≠3 then(3,Iq c)
 else if(itK K (mkK K c.idx).aU).aP=7 then(if c.cnt<(itK K (mkK K c.idx).aU).n then(3,c)else(3,Iq c))
 else if(itK K (mkK K c.idx).aU).aP=8 then(if Q9b (JC c (itK K (mkK K c.idx).aU).n (itK K (mkK K c.idx).aU).aS) (itK K (mkK K c.idx).aU).n (itK K (mkK K c.idx).aU).aS=true then(3,Iq (JC c (itK K (mkK K c.idx).aU).n (itK K (mkK K c.idx).aU).aS))else(3,JC c (itK K (mkK K c.idx).aU).n (itK K (mkK K c.idx).aU).aS))
 else if(itK K (mkK K c.idx).aU).aP=14 then(7,{c with aI:=7})else(3,Iq c)
def CR (c:Cv):Cv:={c with cnt:=V (c.cnt+1)}
def B9 (K:Kf) (c:Cv):Int×Cv:=IU K (CR c)
theorem Z44 {c:Cv} (h:KOK K) (T:0<=c.idx) (U:c.idx<K.p.aD.length)
  (N:∀c:Cv,W (Ad K c)=some (I 3::Ad K (Iq c)))
  (V:∀(c:Cv) (O G:Int),i64 G->Z [I c.s0,I c.s1,I c.s2,I c.s3,I O,I G]=some (O9 c O G)) (X:∀(c:Cv) (O G:Int),i64 G->Out (λo=>bA o 0=Q9b c O G) (M [I c.s0,I c.s1,I c.s2,I c.s3,I O,I G])):
  VT M Z W (Ad K c)=some (I (B9 K c).1::Ad K (B9 K c).2):=by
 rw[Zs8];have L:=Uu h T U;unfold B9 IU;refine eC (λa=> ?_) λa=> ?_
 ·rw[ab (show(CR c).aN=true from a)];refine eC (λb=>eC (λe=> ?_) λe=> ?_) λb=> ?_
  ·rw[ab (show(CR c).cnt>1/\(CR c).aJ=true from⟨BC b,e⟩)];exact eB (N (CR c)) rfl
  ·rw[aa (show¬((CR c).cnt>1/\(CR c).aJ=true)from λq=>by have:=q.2;rw[show(CR c).aJ=false from e]at this;cases this)];rfl
  ·rw[aa (show¬((CR c).cnt>1/\(CR c).aJ=true)from λq=>BB b q.1)];rfl
 ·rw[aa (show¬(CR c).aN=true by rw[show(CR c).aN=false from a];simp)];refine eT (inM (f:=At) T U) ?_;rw[Nf T U];rw[show(CR c).idx=c.idx from rfl];refine eC (λb=> ?_) λb=> ?_
  ·have b:(mkK K c.idx).aP≠3:=by simpa [gA,nth,Af]using b
   rw[ab b];exact eB (N (CR c)) rfl
  ·have b:(mkK K c.idx).aP=3:=by simpa [gA,nth,Af]using b
   rw[aa (by rw[b];simp)];refine eT (inM (f:=Ag) (l:=K.aA) (i:=(mkK K c.idx).aU) L.1 L.2.1) ?_;have Y:nth [] (K.aA.map Ag) (gA (At (mkK K c.idx)) 2).toNat=Ag (itK K (mkK K c.idx).aU):=Jo L.1 L.2.1;rw[Y];have S:(itK K (mkK K c.idx).aU).aP=8->i64 (itK K (mkK K c.idx).aU).aS:=λD=>by
    have:=Zqr h (mkK K c.idx).aU.toNat;rw[Jo L.1 L.2.1]at this;exact this D
   generalize itK K (mkK K c.idx).aU=it at*;refine eC (λk=> ?_) λk=> ?_
   ·have k:it.aP=7:=eq_of_beq k;rw[ab k];refine eC (λq=> ?_) λq=> ?_
    ·rw[ab (show(CR c).cnt<it.n from BC q)];rfl
    ·rw[aa (show¬(CR c).cnt<it.n from BB q)];exact eB (N (CR c)) rfl
   ·have k:it.aP≠7:=by simpa [gA,nth,Af]using k
    rw[aa k];refine eC (λD=> ?_) λD=> ?_
    ·have D:it.aP=8:=eq_of_beq D;rw[ab D];refine eB (V (CR c) it.n it.aS (S D)) ?_;obtain⟨o,h5,h6⟩:=X (JC (CR c) it.n it.aS) it.n it.aS (S D);refine eB h5 ?_;rw[<-h6];refine eC (λq=> ?_) λq=> ?_
     ·rw[aa (show¬bA o 0=true by simpa using q)];rfl
     ·rw[ab (show bA o 0=true by simpa using q)];exact eB (N (JC (CR c) it.n it.aS)) rfl
    ·have D:it.aP≠8:=by simpa [gA,nth,Af]using D
     rw[aa D];refine eC (λk=> ?_) λk=> ?_
     ·rw[ab (show it.aP=14 from eq_of_beq k)];rfl
     ·rw[aa (show it.aP≠14 by simpa [gA,nth,Af]using k)];exact eB (N (CR c)) rfl
theorem Qe8 {l:Option (List AC)} (h:l.isSome=true):l=some (l.getD []):=by
 cases l with
 |none=>cases h
 |some o=>rfl
theorem Zmz (c:Cv) (G:Int) {D:Int} (h:i64 D):KM [I c.s0,I c.s1,I c.s2,I c.s3,I G,I D]=some (O9 c G D):=Qe8 (Zjd _ _ _ _ _ h)
theorem Zts (K:Kf) (c:Cv):Om (Ad K c)=some (I 3::Ad K (Iq c)):=Ztf K c
theorem Qxs {c:Cv} (h:KOK K) (G:0<=c.idx) (L:c.idx<K.p.aD.length):Kc (Ad K c)=some (I (B9 K c).1::Ad K (B9 K c).2):=
 Z44 h G L (Zts K) (λc D _ h=>Zmz c D h) λc D M h=>⟨_,Qe8 (Z7i _ _ _ _ _ h),rfl⟩
def F9 (K:Kf) (c:Cv) (i:Int):Bool:=
 if(mkK K i).aP=1\/(mkK K i).aP=2\/(mkK K i).aP=6 then c.o3 else if(mkK K i).aP=4 then true
 else if(mkK K i).aP=3 then((itK K (mkK K i).aU).aP==11||(itK K (mkK K i).aU).aP==12)else false
def Eh (K:Kf) (c:Cv) (i:Int):Int×Cv:=B9 K {c with on:=true,idx:=i,aN:=F9 K c i,cnt:=0}
theorem Z1b {c:Cv} (h:KOK K) (N:0<=a) (O:a<K.p.aD.length)
  (U:∀w:Bool,M (Ad K {c with on:=true,idx:=a,aN:=w,cnt:=0})=some (I (B9 K {c with on:=true,idx:=a,aN:=w,cnt:=0}).1::Ad K (B9 K {c with on:=true,idx:=a,aN:=w,cnt:=0}).2)):
  Qgc M (I a::Ad K c)=some (I (Eh K c a).1::Ad K (Eh K c a).2):=by
 rw[Z90];have G:=Uu h N O;unfold Eh;refine eT (inM (f:=At) N O) ?_;rw[Nf N O];have fin:∀{w:Bool} {f:List AC->List AC},w=F9 K c a->(∀(m:Int) (c:Cv),f (I m::Ad K c)=I m::Ad K c)->((M (Ad K {c with on:=true,idx:=a,aN:=w,cnt:=0})).bind λo=>some (f o))=some (I (B9 K {c with on:=true,idx:=a,aN:=F9 K c a,cnt:=0}).1::Ad K (B9 K {c with on:=true,idx:=a,aN:=F9 K c a,cnt:=0}).2):=λL hf=>by
  subst L;refine eB (U _) ?_;rw[hf]
 have ne:∀{n:Int},(gA (At (mkK K a)) 1==n)=false->(mkK K a).aP≠n:=λe=>by simpa [gA,nth,Af]using e
 have D:∀{n:Int},(gA (At (mkK K a)) 1==n)=true->(mkK K a).aP=n:=λe=>eq_of_beq e;refine eC (λe=>fin (by unfold F9;rw[ab (.inl (D e))]) λ_ _=>rfl) λV=> ?_;refine eC (λe=>fin (by unfold F9;rw[ab (.inr (.inl (D e)))]) λ_ _=>rfl) λX=> ?_;refine eC (λe=>fin (by unfold F9;rw[ab (.inr (.inr (D e)))]) λ_ _=>rfl) λY=> ?_;have S: ¬((mkK K a).aP=1\/(mkK K a).aP=2\/(mkK K a).aP=6):=by
  intro q;rcases q with q|q|q
  ·exact ne V q
  ·exact ne X q
  ·exact ne Y q
 refine eC (λe=>fin (by unfold F9;rw[aa S,ab (D e)]) λ_ _=>rfl) λT=> ?_;refine eC (λe=> ?_) λn3=>fin (by unfold F9;rw[aa S,aa (ne T),aa (ne n3)]) λ_ _=>rfl;refine eT (inM (f:=Ag) (l:=K.aA) (i:=(mkK K a).aU) G.1 G.2.1) ?_;have er:nth [] (K.aA.map Ag) (gA (At (mkK K a)) 2).toNat=Ag (itK K (mkK K a).aU):=Jo G.1 G.2.1;rw[er];have L:F9 K c a=((itK K (mkK K a).aU).aP==11||(itK K (mkK K a).aU).aP==12):=by unfold F9;rw[aa S,aa (ne T),ab (D e)]
 refine eC (λk=>fin (by rw[L,show((itK K (mkK K a).aU).aP==11)=true from k];rfl) λ_ _=>rfl) λk=>fin (by rw[L,show((itK K (mkK K a).aU).aP==11)=false from k];rfl) λ_ _=>rfl
theorem Zut {c:Cv} (h:KOK K) (D:0<=a) (G:a<K.p.aD.length):Pj (I a::Ad K c)=some (I (Eh K c a).1::Ad K (Eh K c a).2):=
 Z1b h D G λ_=>Qxs h D G
def DF (c:Cv):Cv:=if c.g0=0 then{c with o2:=true,g0:=1,g1:=18,g2:= -1}else c
theorem Wu (K:Kf) (c:Cv):GC (Ad K c)=some (Ad K (DF c)):=Zt9 K c
def No (c:Cv):Int:=one Ki [I c.before,I c.s0]
theorem Z6v (c:Cv):Ki [I c.before,I c.s0]=some [I (No c)]:=by
 have key:∃v,Ki [I c.before,I c.s0]=some [I v]:=by
  have e:Ki [I c.before,I c.s0]=Qh2 JO [I c.before,I c.s0]:=rfl;have h:∀a,(JO [I a,I 1048576]).isSome=true:=λa=>Zny (by omega);rw[e,Z1n];generalize JO=M at*;have G:∀a,∃o,M [I a,I 1048576]=some o:=λa=>Option.isSome_iff_exists.1 (h a);cases(c.s0== -1)
  ·obtain⟨o,D⟩:=G (V (0-c.before));exact⟨_,eB D rfl⟩
  ·obtain⟨o,D⟩:=G c.before;exact⟨_,eB D rfl⟩
 obtain⟨v,h⟩:=key;exact Qke h
def goC (K:Kf) (c:Cv) (g:Sgm):Cv:={c with y0:=g.aU,y1:=A4 K c,y2:=c.s3,e0:=1,e1:=c.m0,e2:=No c,e3:=0}
def Et (K:Kf) (c:Cv) (g:Sgm):Bool:=(itK K g.aU).aP==6||(c.s1 !=0&& !decide (V (V (c.s3-No c)*c.s0)<0))
theorem Zpn {c:Cv} {s:Sgm} (G:0<=s.aU) (L:s.aU<K.aA.length) (O:Z [I c.before,I c.s0]=some [I (No c)]) (N:M (Ad K c)=some [I (A4 K c)]):
  Qk6 M Z (I s.to.x::I s.to.y::I s.to.z::I s.len::I s.aU::I s.aZ::I s.aX::Ad K c)=some (B (Et K c s)::Ad K (if Et K c s=true then goC K c s else c)):=by
 rw[Zxi];refine eB O (eT (inM (f:=Ag) G L) ?_);rw[Jo G L];refine eC (λe=> ?_) λe=> ?_
 ·have e:(itK K s.aU).aP≠6:=by simpa [gA,nth,Af]using e
  refine eC (λa=> ?_) λa=>eC (λb=> ?_) λb=> ?_
  ·have D:Et K c s=false:=by unfold Et;rw[beF e,bnF (eq_of_beq a)];rfl
   rw[D];rfl
  ·have D:Et K c s=false:=by unfold Et;rw[beF e,show decide (V (V (c.s3-No c)*c.s0)<0)=true from b];simp
   rw[D];rfl
  ·have D:Et K c s=true:=by
    unfold Et;rw[show decide (V (V (c.s3-No c)*c.s0)<0)=false from b];simp only[bne,a];simp
   rw[D];exact eB N rfl
 ·have e:(itK K s.aU).aP=6:=by simpa [gA,nth,Af]using e
  have D:Et K c s=true:=by unfold Et;rw[beT e];rfl
  rw[D];exact eB N rfl
theorem Zxv {c:Cv} {s:Sgm} (h:KOK K) (D:0<=s.aU) (G:s.aU<K.aA.length):
  Qo (I s.to.x::I s.to.y::I s.to.z::I s.len::I s.aU::I s.aZ::I s.aX::Ad K c)=some (B (Et K c s)::Ad K (if Et K c s=true then goC K c s else c)):=
 Zpn D G (Z6v c) (UD h c)
def Qn1 (aX way:Int):Int:=one J6 [I aX,I way]
theorem Zj6 (D:i64 a) (hb:i64 b):J6 [I a,I b]=some [I (Qn1 a b)]:=by
 have key:∃v,J6 [I a,I b]=some [I v]:=by
  have e:J6 [I a,I b]=XG Bw [I a,I b]:=rfl;have h:=Qiw (show i64 4096 by unfold i64;omega) hb D 0;rw[e,Zid];generalize Bw=M at*;obtain⟨o,G⟩:=Option.isSome_iff_exists.1 h;exact⟨_,eB G rfl⟩
 obtain⟨v,h⟩:=key;exact Qke h
def Qvo (K:Kf) (d:Cv) (g:Sgm):Int:=V (d.y2+V (V ((if(itK K g.aU).n=3 then 1 else-1)*Qn1 g.aX (V (A4 K d-d.y1)))*256))
def QM (K:Kf) (c:Cv) (l:Int) (g:Sgm):Cv:={EG K c l with s3:=Qvo K (EG K c l) g}
theorem Zm8 {c:Cv} {s:Sgm} (D:0<=s.aU) (G:s.aU<K.aA.length)
  (L:∀v,i64 v->M [I s.aX,I v]=some [I (Qn1 s.aX v)]) (N:∀c,Z (Ad K c)=some [I (A4 K c)]) (O:W (I a::Ad K c)=some (Ad K (EG K c a))):
  Qok M Z W (I a::I s.to.x::I s.to.y::I s.to.z::I s.len::I s.aU::I s.aZ::I s.aX::Ad K c)=some (Ad K (QM K c a s)):=by
 rw[Zda];unfold QM;generalize EG K c a=d at*;refine eB O (eT (inM (f:=Ag) D G) ?_);show cond (gA (nth [] (K.aA.map Ag) s.aU.toNat) 19==3) _ _=_;rw[Jo D G];unfold Qvo;refine eC (λe=> ?_) λe=> ?_
 ·rw[ab (show(itK K s.aU).n=3 from eq_of_beq e)];exact eB (N d) (eB (L _ (Ut _)) rfl)
 ·rw[aa (show(itK K s.aU).n≠3 by simpa [gA,nth,Af]using e)];exact eB (N d) (eB (L _ (Ut _)) rfl)
theorem Qu9 {c:Cv} {n:Int} (h:KOK K) (g:Gd K n c) (L:0<=n/\n<=10000) (l:Int) {s:Sgm} (D:0<=s.aU/\s.aU<K.aA.length/\i64 s.aX):
  Qk (I l::I s.to.x::I s.to.y::I s.to.z::I s.len::I s.aU::I s.aZ::I s.aX::Ad K c)=some (Ad K (QM K c l s)):=
 Zm8 D.1 D.2.1 (λv G=>Zj6 D.2.2 G) (UD h) (Qei h g l)
def thL (K:Kf) (c:Cv) (l aX:Int):List AC:=pxt K.p K.x K.t [I K.pa,I K.pb,I K.pc,I c.o0,I c.o1,B c.o2,B c.o3,B c.o4,I c.m0,I c.m1,I c.m2,I c.m3,I c.m4,I c.m5,I l,I aX,I c.e0,I c.e1,I c.e2,I c.e3,I c.before,I c.s3]
def thO (K:Kf) (c:Cv) (l aX:Int):List AC:=(JK (thL K c l aX)).getD []
def JR (c:Cv) (o:List AC):Cv:={T7 c (gA o 1)with e0:=gA o 6,e1:=gA o 7,e2:=gA o 8,e3:=gA o 9}
def KI (K:Kf) (c:Cv) (l aX:Int):Cv:=
 if c.g0≠0 then{EG K c l with e0:=3}else if gA (thO K c l aX) 10≠0 then DF (JR c (thO K c l aX))else JR c (thO K c l aX)
theorem Qpd {c:Cv} {n:Int} (h:KOK K) (g:Gd K n c) (l:Int) {aX:Int} (G:i64 aX):
  JK (thL K c l aX)=some (thO K c l aX)/\∃v s b z y e:Int,thO K c l aX=Eo c.m0 c.m1 c.m3 c.m4 v++[I s,I b,I z,I y,I e]/\((Bh K.pa K.pb v (V (v-c.m1))).2=true\/∃r:Int,v=V (c.m1+r)/\r=AJ K.pa K.pb c.m1 c.m2):=by
 obtain⟨o,D,v,s,b,z,y,e,rfl,L⟩:=Zw0 h g.mo l G;have D:JK (thL K c l aX)=some (Eo c.m0 c.m1 c.m3 c.m4 v++[I s,I b,I z,I y,I e]):=D;have e2:thO K c l aX=Eo c.m0 c.m1 c.m3 c.m4 v++[I s,I b,I z,I y,I e]:=by unfold thO;rw[D];rfl
 rw[e2];exact⟨D,v,s,b,z,y,e,rfl,L⟩
theorem Zsd {c:Cv} {s:Sgm} (L:∀c,M (Ad K c)=some (Ad K (DF c)))
  (N:Z (thL K c a s.aX)=some (thO K c a s.aX)) (O:∃v D b z y e:Int,thO K c a s.aX=Eo c.m0 c.m1 c.m3 c.m4 v++[I D,I b,I z,I y,I e]) (S:W (I a::Ad K c)=some (Ad K (EG K c a))):
  Xs M Z W (I a::I s.to.x::I s.to.y::I s.to.z::I s.len::I s.aU::I s.aZ::I s.aX::Ad K c)=some (Ad K (KI K c a s.aX)):=by
 rw[Zm1];unfold KI;refine eC (λe=> ?_) λe=> ?_
 ·rw[ab (show c.g0≠0 by simpa using e)];generalize EG K c a=d at*;exact eB S rfl
 ·rw[aa (show¬c.g0≠0 by simpa using e)];obtain⟨v,D,b,z,y,G,T⟩:=O;generalize thO K c a s.aX=o at*;subst T;refine eB N ?_;refine eC (λq=> ?_) λq=> ?_
  ·rw[ab (show gA (Eo c.m0 c.m1 c.m3 c.m4 v++[I D,I b,I z,I y,I G]) 10≠0 by simpa using q)];refine dh (il (λz=>Option.bind z _) (L (JR c (Eo c.m0 c.m1 c.m3 c.m4 v++[I D,I b,I z,I y,I G])))) rfl
  ·rw[aa (show¬gA (Eo c.m0 c.m1 c.m3 c.m4 v++[I D,I b,I z,I y,I G]) 10≠0 by simpa using q)];rfl
theorem Qwo {c:Cv} {n:Int} (h:KOK K) (g:Gd K n c) (N:0<=n/\n<=10000) (l:Int) {s:Sgm} (D:i64 s.aX):
  Pp (I l::I s.to.x::I s.to.y::I s.to.z::I s.len::I s.aU::I s.aZ::I s.aX::Ad K c)=some (Ad K (KI K c l s.aX)):=by
 obtain⟨G,v,L,b,z,y,e,M,-⟩:=Qpd h g l D;exact Zsd (Wu K) G ⟨v,L,b,z,y,e,M⟩ (Qei h g l)
def Gf (K:Kf) (c:Cv) (l:Int) (g:Sgm):Cv:=if(itK K g.aU).aP=6 then QM K c l g else KI K c l g.aX
def FZ (K:Kf) (c:Cv) (l:Int):Cv:=
 if(vF K c).aX=0\/(c.o2=true/\c.y0≠(vF K c).aU)then EG K c l
 else if c.y0=(vF K c).aU then Gf K c l (vF K c)
 else if Et K c (vF K c)=true then Gf K (goC K c (vF K c)) l (vF K c)
 else if c.s1=0 then DF c else c
theorem Gd.go {n:Int} {c:Cv} (g:Gd K n c) (s:Sgm):Gd K n (goC K c s):=⟨g.way,g.pass,g.task,g.mo,g.m0⟩
theorem Zz6 {c:Cv} (G:(vF K c).aX≠0->0<=(vF K c).aU/\(vF K c).aU<K.aA.length)
  (hG:P (Ad K c)=some (Ay (vF K c)++[B (E7 K c).isSome])) (U:S (I v::Ad K c)=some (Ad K (EG K c v)))
  (L:(vF K c).aX≠0->T (I (vF K c).to.x::I (vF K c).to.y::I (vF K c).to.z::I (vF K c).len::I (vF K c).aU::I (vF K c).aZ::I (vF K c).aX::Ad K c)=some (B (Et K c (vF K c))::Ad K (if Et K c (vF K c)=true then goC K c (vF K c)else c)))
  (hF:W (Ad K c)=some (Ad K (DF c)))
  (N:(vF K c).aX≠0->∀d,d=c\/d=goC K c (vF K c)->Z (I v::I (vF K c).to.x::I (vF K c).to.y::I (vF K c).to.z::I (vF K c).len::I (vF K c).aU::I (vF K c).aZ::I (vF K c).aX::Ad K d)=some (Ad K (QM K d v (vF K c))))
  (O:(vF K c).aX≠0->∀d,d=c\/d=goC K c (vF K c)->M (I v::I (vF K c).to.x::I (vF K c).to.y::I (vF K c).to.z::I (vF K c).len::I (vF K c).aU::I (vF K c).aZ::I (vF K c).aX::Ad K d)=some (Ad K (KI K d v (vF K c).aX))):
  ZD M Z W T S P (I v::Ad K c)=some (Ad K (FZ K c v)):=by
 rw[Zgt];unfold FZ;generalize vF K c=s at*;refine eB hG ?_;refine eC (λe=> ?_) λe=> ?_
 ·rw[ab (.inl (show s.aX=0 from eq_of_beq e))];generalize EG K c v=d at*;exact eB U rfl
 ·have e:s.aX≠0:=by simpa [gA,nth,Af]using e
  obtain⟨V,X⟩:=G e;have L:=L e;have N:=N e;have O:=O e
  have D:∀{d:Cv} {f1 f2:List AC->List AC},d=c\/d=goC K c s->(∀c,f1 (Ad K c)=Ad K c)->(∀c,f2 (Ad K c)=Ad K c)->
    (bif decide (0<=s.aU)&&decide (s.aU<((K.aA.map Ag).length:Int))then(bif gA (nth [] (K.aA.map Ag) s.aU.toNat) 0==6 then(Z (I v::I s.to.x::I s.to.y::I s.to.z::I s.len::I s.aU::I s.aZ::I s.aX::Ad K d)).bind λo=>some (f1 o)else(M (I v::I s.to.x::I s.to.y::I s.to.z::I s.len::I s.aU::I s.aZ::I s.aX::Ad K d)).bind λo=>some (f2 o))else none)=some (Ad K (Gf K d v s)):=λY h1 h2=>by
   refine eT (inM (f:=Ag) V X) ?_;rw[Jo V X];unfold Gf;refine eC (λk=> ?_) λk=> ?_
   ·rw[ab (show(itK K s.aU).aP=6 from eq_of_beq k)];exact eB (N _ Y) (il some (h1 _))
   ·rw[aa (show(itK K s.aU).aP≠6 by simpa [gA,nth,Af]using k)];exact eB (O _ Y) (il some (h2 _))
  have hg:Tq c (Ay s++[B (E7 K c).isSome]) T K W Z v M=some (Ad K (if c.y0=s.aU then Gf K c v s else if Et K c s=true then Gf K (goC K c s) v s else if c.s1=0 then DF c else c)):=by
   refine eC (λy=> ?_) λy=> ?_
   ·have y:c.y0≠s.aU:=by simpa [gA,nth,Af]using y
    rw[aa y];refine eB L ?_;cases hm:Et K c s
    ·refine eT rfl ?_;rw[aa (by simp),aa (by simp)];refine eC (λz=> ?_) λz=> ?_
     ·rw[ab (show c.s1=0 from eq_of_beq z)];generalize DF c=d at*;exact eB hF rfl
     ·rw[aa (show c.s1≠0 by simpa [gA,nth,Af]using z)];rfl
    ·refine eF rfl ?_;rw[ab rfl,ab rfl];have h:=D (d:=goC K c s) (f1:=λo=>cR 0 o) (f2:=λo=>cR 0 o) (.inr rfl) (λ_=>rfl) (λ_=>rfl);generalize goC K c s=d at*;exact h
   ·have y:c.y0=s.aU:=by simpa [gA,nth,Af]using y
    rw[ab y];exact D (f1:=λo=>cR 0 o) (f2:=λo=>cR 0 o) (.inl rfl) (λ_=>rfl) (λ_=>rfl)
  refine eC (λa=>eC (λb=> ?_) λb=> ?_) λa=> ?_
  ·have b:c.y0≠s.aU:=by simpa [gA,nth,Af]using b
   rw[ab (.inr ⟨a,b⟩)];generalize EG K c v=d at*;exact eB U rfl
  ·have b:c.y0=s.aU:=by simpa [gA,nth,Af]using b
   rw[aa (λq=>by rcases q with q|q;exact e q;exact q.2 b)];exact hg
  ·rw[aa (λq=>by rcases q with q|q;exact e q;rw[a]at q;cases q.1)];exact hg
theorem Zig {c:Cv} {n:Int} (h:KOK K) (g:Gd K n c) (D:0<=n/\n<=10000) (l:Int):Pv (I l::Ad K c)=some (Ad K (FZ K c l)):=
 Zz6 (λe=>⟨(Gx h e).1,(Gx h e).2.1⟩) (Q88 h c) (Qei h g l) (λe=>Zxv h (Gx h e).1 (Gx h e).2.1) (Wu K c)
  (λe d G=>by rcases G with rfl|rfl;exact Qu9 h g D l (Gx h e);exact Qu9 h (g.go _) D l (Gx h e))
  (λe d G=>by rcases G with rfl|rfl;exact Qwo h g D l (Gx h e).2.2;exact Qwo h (g.go _) D l (Gx h e).2.2)
def Dv (K:Kf) (c:Cv):Int×Cv:=
 if c.aM=true/\c.m0=V ((Bg K c).1*256)then
  (if 0 <= (Bg K c).2 then
   (if(mkK K (Bg K c).2).aU=(Eh K c (Bg K c).2).2.y0/\(itK K (mkK K (Bg K c).2).aU).aP=5/\(Eh K c (Bg K c).2).2.e0=1 then((Eh K c (Bg K c).2).1,DF (Eh K c (Bg K c).2).2)else Eh K c (Bg K c).2)
  else if K.closed=true then(7,{c with aI:=7})else(1,c))
 else(if c.g0≠0/\c.aM=true then 6 else 1,FZ K c (Bg K c).1)
theorem Ybb {c:Cv} (h:KOK K) (N:(Bg K c).2= -1\/0<=(Bg K c).2/\c.next<=(Bg K c).2/\(Bg K c).2<K.p.aD.length)
  (hL:T (Ad K c)=some (I (Bg K c).1::I (Bg K c).2::Ad K c)) (hB:0<=(Bg K c).2->(Bg K c).2<K.p.aD.length->W (I (Bg K c).2::Ad K c)=some (I (Eh K c (Bg K c).2).1::Ad K (Eh K c (Bg K c).2).2))
  (hF:∀c,Z (Ad K c)=some (Ad K (DF c))) (O: ¬(c.aM=true/\c.m0=V ((Bg K c).1*256))->M (I (Bg K c).1::Ad K c)=some (Ad K (FZ K c (Bg K c).1))):
  Xx M Z W T (Ad K c)=some (I (Dv K c).1::Ad K (Dv K c).2):=by
 rw[Zzi];unfold Dv;generalize FZ K c (Bg K c).1=mv at*;have a0:=hB;generalize hb:Eh K c (Bg K c).2=G at*;clear hb;generalize Bg K c=D at*;refine eB hL ?_;have L:∀{a:Prop} [Decidable a],¬(c.aM=true/\c.m0=V (D.1*256))->∀{x:Option (List AC)},x=some (I (if c.g0≠0/\c.aM=true then 6 else 1)::Ad K mv)->
   x=some (I (if c.aM=true/\c.m0=V (D.1*256)then(if 0<=D.2 then(if(mkK K D.2).aU=G.2.y0/\(itK K (mkK K D.2).aU).aP=5/\G.2.e0=1 then(G.1,DF G.2)else G)else if K.closed=true then(7,{c with aI:=7})else(1,c))else(if c.g0≠0/\c.aM=true then 6 else 1,mv)).1::Ad K (if c.aM=true/\c.m0=V (D.1*256)then(if 0<=D.2 then(if(mkK K D.2).aU=G.2.y0/\(itK K (mkK K D.2).aU).aP=5/\G.2.e0=1 then(G.1,DF G.2)else G)else if K.closed=true then(7,{c with aI:=7})else(1,c))else(if c.g0≠0/\c.aM=true then 6 else 1,mv)).2):=λhn _ hx=>by
  rw[aa hn];exact hx
 refine eC (λs=>eC (λe=> ?_) λe=> ?_) λs=> ?_
 ·have s:c.aM=true:=s;have e:c.m0=V (D.1*256):=eq_of_beq e;rw[ab ⟨s,e⟩];refine eC (λk=> ?_) λk=> ?_
  ·have k:0<=D.2:=BC k;rw[ab k];have S:D.2<K.p.aD.length:=by
    rcases N with N|N
    ·omega
    ·exact N.2.2
   have U:=Uu h k S;refine eB (hB k S) (eT (inM (f:=At) k S) ?_);have X:nth [] (K.p.aD.map At) D.2.toNat=At (mkK K D.2):=Nf k S;have Y:nth [] (K.aA.map Ag) (mkK K D.2).aU.toNat=Ag (itK K (mkK K D.2).aU):=Jo U.1 U.2.1;refine eC (λy=> ?_) λy=> ?_
   ·have y:(mkK K D.2).aU=G.2.y0:=by
     have:=eq_of_beq (show(gA (nth [] (K.p.aD.map At) D.2.toNat) 2==G.2.y0)=true from y);rw[X]at this;exact this
    refine eT (show(decide (0<=gA (nth [] (K.p.aD.map At) D.2.toNat) 2)&&decide (gA (nth [] (K.p.aD.map At) D.2.toNat) 2<((K.aA.map Ag).length:Int)))=true by rw[X];exact inM (f:=Ag) (l:=K.aA) (i:=(mkK K D.2).aU) U.1 U.2.1) ?_;have ek:gA (nth [] (K.aA.map Ag) (gA (nth [] (K.p.aD.map At) D.2.toNat) 2).toNat) 0=(itK K (mkK K D.2).aU).aP:=by
     rw[X];show gA (nth [] (K.aA.map Ag) (mkK K D.2).aU.toNat) 0=_;rw[Y];rfl
    refine eC (λq=> ?_) λq=> ?_
    ·have q:(itK K (mkK K D.2).aU).aP=5:=by rw[<-ek];exact eq_of_beq q
     refine eC (λz=> ?_) λz=> ?_
     ·have z:G.2.e0=1:=eq_of_beq z;rw[ab ⟨y,q,z⟩];exact eB (hF G.2) rfl
     ·have z:G.2.e0≠1:=λe=>by have:(G.2.e0==1)=false:=z;rw[beT e]at this;cases this
      rw[aa (λw=>z w.2.2)];rfl
    ·have q:(itK K (mkK K D.2).aU).aP≠5:=λe=>by
      have:(gA (nth [] (K.aA.map Ag) (gA (nth [] (K.p.aD.map At) D.2.toNat) 2).toNat) 0==5)=false:=q;rw[ek,beT e]at this;cases this
     rw[aa (λw=>q w.2.1)];rfl
   ·have y:(mkK K D.2).aU≠G.2.y0:=λe=>by
     have:(gA (nth [] (K.p.aD.map At) D.2.toNat) 2==G.2.y0)=false:=y;rw[X]at this;rw[show(gA (At (mkK K D.2)) 2==G.2.y0)=true from beT e]at this;cases this
    rw[aa (λw=>y w.1)];rfl
  ·have k: ¬0<=D.2:=BB k;rw[aa k];refine eC (λq=> ?_) λq=> ?_
   ·rw[ab (show K.closed=true from q)];rfl
   ·rw[aa (show¬K.closed=true by rw[show K.closed=false from q];simp)];rfl
 ·have e:c.m0≠V (D.1*256):=λe'=>by
   have:(c.m0==V (D.1*256))=false:=e;rw[beT e']at this;cases this
  refine L (a:=True) (λw=>e w.2) ?_;refine eC (λq=> ?_) λq=> ?_
  ·have q:c.g0≠0:=λe=>by
    have:(c.g0 !=0)=true:=q;rw[bnF e]at this;cases this
   refine eB (O λw=>e w.2) (eT (show c.aM=true from s) ?_);rw[ab ⟨q,show c.aM=true from s⟩];rfl
  ·have q:c.g0=0:=j4 λe=>by
    have:(c.g0 !=0)=false:=q;rw[bnT e]at this;cases this
   refine eB (O λw=>e w.2) ?_;rw[aa (λw=>w.1 q)];rfl
 ·have s:c.aM=false:=s;refine L (a:=True) (λw=>by rw[s]at w;cases w.1) ?_;refine eC (λq=> ?_) λq=> ?_
  ·refine eB (O λw=>by rw[s]at w;cases w.1) (eF (show c.aM=false from s) ?_);rw[aa (λw=>by rw[s]at w;cases w.2)];rfl
  ·refine eB (O λw=>by rw[s]at w;cases w.1) ?_;rw[aa (λw=>by rw[s]at w;cases w.2)];rfl
theorem Z67 {c:Cv} {n:Int} (h:KOK K) (g:Gd K n c) (D:0<=n/\n<=10000):KT (Ad K c)=some (I (Dv K c).1::Ad K (Dv K c).2):=
 Ybb h (Qt4 K c) (Zu6 h c) (λG L=>Zut h G L) (Wu K) λ_=>Zig h g D _
def swI (s:Int) (it:Itm):Int:=one Km (I s::Ag it)
theorem Zw8 (s:Int) (it:Itm):Km (I s::Ag it)=some [I (swI s it)]:=by
 have key:∃v,Km (I s::Ag it)=some [I v]:=by
  show∃v,Qls (I s::Ag it)=some [I v];rw[Yae];by_cases D:it.aP=10
  ·rw[Be (bnF D)];by_cases G:it.n<0
   ·rw[By (aj G)];exact⟨_,rfl⟩
   ·rw[Be (an G)];by_cases L:it.n>=16
    ·rw[By (aj L)];exact⟨_,rfl⟩
    ·rw[Be (an L),Be (an (by simp[V,IntKind.wrap,IntKind.signed,IntKind.bits];omega))];cases it.on<;>exact⟨_,rfl⟩
  ·rw[By (bnT D)];exact⟨_,rfl⟩
 obtain⟨v,h⟩:=key;exact Qke h
def D_ (K:Kf) (s:Int):List Mrk->Cv->List Int×Cv
 |[],c=>([],c)
 |m::l,c=>if m.at_>s\/(m.at_=s/\c.next<=c.aK/\HI m.aP c=true)then([],c)
  else if m.aP=5 then(m.aU::(D_ K s l {c with outs:=swI c.outs (itK K m.aU),aK:=c.aK+1}).1,(D_ K s l {c with outs:=swI c.outs (itK K m.aU),aK:=c.aK+1}).2)
  else D_ K s l {c with aK:=c.aK+1}
def B2 (K:Kf) (c:Cv) (s:Int):List Int×Cv:=D_ K s (K.p.aD.drop c.aK.toNat) c
theorem Z53 {c:Cv} (h:KOK K) (U:0<=c.aK/\c.aK<=K.p.aD.length) (s:Int)
  (Y:∀(c:Cv) (at_ k it:Int),Z [I at_,I k,I it,I c.o0,I c.o1,B c.o2,B c.o3,B c.o4]=some [B (HI k c)]) (hS:∀(s:Int) (it:Itm),M (I s::Ag it)=some [I (swI s it)]):
  Qpb M Z (Am (RJ M Z)) (I s::Ad K c)=some (.vC Aa ((B2 K c s).1.map Aq)::Ad K (B2 K c s).2):=by
 rw[Ya7];have key:Out (λo=>o=(1, .vC Aa ((B2 K c s).1.map Aq)::Ad K (B2 K c s).2)) (Am (RJ M Z) (.vC Aa (([]:List Int).map Aq)::I s::Ad K c)):=by
  have hc:=h.count;refine C1 (λz:List Int×Cv=> .vC Aa (z.1.map Aq)::I s::Ad K z.2)
   (λz=>0<=z.2.aK/\z.2.aK<=K.p.aD.length/\(z.1.length:Int)<=z.2.aK/\(B2 K c s).1=z.1++(D_ K s (K.p.aD.drop z.2.aK.toNat) z.2).1/\(B2 K c s).2=(D_ K s (K.p.aD.drop z.2.aK.toNat) z.2).2)
   (λz=>(K.p.aD.length-z.2.aK).toNat) _ ?_ ([],c) ⟨U.1,U.2,by simp;omega,rfl,rfl⟩
  rintro⟨l,d⟩ ⟨g1,g2,g3,G,L⟩;dsimp only at g1 g2 g3 G L;refine Out.eqv (Zot M Z _ _ K d) ?_;refine .cond (λk=> ?_) λk=> ?_
  ·have k:d.aK<((K.p.aD.map At).length:Int):=BC k;rw[ah]at k;have X:d.aK.toNat<K.p.aD.length:=by omega
   have em:mkK K d.aK=K.p.aD[d.aK.toNat]:=by unfold mkK;rw[List.getD,al X];rfl
   have N:=Uu h g1 k;rw[ic X,<-em]at G L;unfold D_ at G L;refine .cond (λ_=> ?_) λe=>(inB g1 (by rw[ah];exact k) e).elim;rw[Nf g1 k];generalize S:mkK K d.aK=m at*;have wp:V (d.aK+1)=d.aK+1:=Ae;have O:(d.aK+1).toNat=d.aK.toNat+1:=by omega
   have stop:(m.at_>s\/(m.at_=s/\d.next<=d.aK/\HI m.aP d=true))->∀{x:List AC},x= .vC Aa (l.map Aq)::Ad K d->Out (λo:Nat×List AC=>(o.1=0/\∃D:List Int×Cv,o.2= .vC Aa (D.1.map Aq)::I s::Ad K D.2/\(0<=D.2.aK/\D.2.aK<=K.p.aD.length/\(D.1.length:Int)<=D.2.aK/\(B2 K c s).1=D.1++(D_ K s (K.p.aD.drop D.2.aK.toNat) D.2).1/\(B2 K c s).2=(D_ K s (K.p.aD.drop D.2.aK.toNat) D.2).2)/\(K.p.aD.length-D.2.aK).toNat<(K.p.aD.length-d.aK).toNat)\/(o.1≠0/\o=(1, .vC Aa ((B2 K c s).1.map Aq)::Ad K (B2 K c s).2))) (some (1,x)):=λT _ hx=>by
    rw[ab T]at G L;subst hx;refine .some (.inr ⟨by simp,?_⟩);rw[G,L,fw]
   have go: ¬(m.at_>s\/(m.at_=s/\d.next<=d.aK/\HI m.aP d=true))->Out (λo:Nat×List AC=>(o.1=0/\∃D:List Int×Cv,o.2= .vC Aa (D.1.map Aq)::I s::Ad K D.2/\(0<=D.2.aK/\D.2.aK<=K.p.aD.length/\(D.1.length:Int)<=D.2.aK/\(B2 K c s).1=D.1++(D_ K s (K.p.aD.drop D.2.aK.toNat) D.2).1/\(B2 K c s).2=(D_ K s (K.p.aD.drop D.2.aK.toNat) D.2).2)/\(K.p.aD.length-D.2.aK).toNat<(K.p.aD.length-d.aK).toNat)\/(o.1≠0/\o=(1, .vC Aa ((B2 K c s).1.map Aq)::Ad K (B2 K c s).2))) (OZ K d (l.map Aq) M s):=λT=>by
    rw[aa T]at G L;unfold OZ;rw[Nf g1 k,S,wp];refine .cond (λq=> ?_) λq=> ?_
    ·have q:m.aP=5:=eq_of_beq q;rw[ab q]at G L;refine .cond (λ_=> ?_) λe=>by rw[Cg (by simp;omega)]at e;cases e
     refine .cond (λ_=> ?_) λe=>(inB (show 0<=gA (At m) 2 from N.1) (show gA (At m) 2<((K.aA.map Ag).length:Int) by rw[ah];exact N.2.1) e).elim;rw[show nth [] (K.aA.map Ag) (gA (At m) 2).toNat=Ag (itK K m.aU)from Jo N.1 N.2.1];refine .bind (p:=λo=>o=_) ⟨_,hS d.outs (itK K m.aU),rfl⟩ λo e=> ?_;subst e;refine .some (.inl ⟨rfl,(l++[m.aU],{d with outs:=swI d.outs (itK K m.aU),aK:=d.aK+1}),?_,⟨by dsimp only;omega,by dsimp only;omega,by simp;omega,?_,?_⟩,by dsimp only;omega⟩)
     ·rw[bv];rfl
     ·dsimp only;rw[G,O];simp
     ·dsimp only;rw[L,O]
    ·have q:m.aP≠5:=by simpa [gA,nth,Af]using q
     rw[aa q]at G L;refine .some (.inl ⟨rfl,(l,{d with aK:=d.aK+1}),rfl,⟨by dsimp only;omega,by dsimp only;omega,by dsimp only;omega,?_,?_⟩,by dsimp only;omega⟩)
     ·dsimp only;rw[G,O]
     ·dsimp only;rw[L,O]
   refine .cond (λa=>stop (.inl (BC a)) rfl) λa=> ?_;have a: ¬m.at_>s:=BB a;refine .cond (λb=> .cond (λe=> ?_) λe=>go λw=> ?_) λb=>go λw=> ?_
   ·refine .bind (p:=λo=>o=_) ⟨_,Y d _ _ _,rfl⟩ λo q=> ?_;subst q;refine .cond (λq=>stop (.inr ⟨eq_of_beq b,BC e,q⟩) rfl) λq=>go λw=> ?_;have q:HI m.aP d=false:=q;rcases w with w|w
    ·exact a w
    ·rw[q]at w;cases w.2.2
   ·rcases w with w|w
    ·exact a w
    ·exact BB e w.2.1
   ·rcases w with w|w
    ·exact a w
    ·have:(m.at_==s)=false:=b;rw[beT w.1]at this;cases this
  ·have k: ¬d.aK<((K.p.aD.map At).length:Int):=BB k;rw[ah]at k;rw[ff (by omega)]at G L;refine .some (.inr ⟨by simp,?_⟩);rw[G,L];simp[D_]
 obtain⟨o,h1,rfl⟩:=key;exact eB h1 rfl
theorem Zmm {c:Cv} (h:KOK K) (D:0<=c.aK/\c.aK<=K.p.aD.length) (s:Int):Px (I s::Ad K c)=some (.vC Aa ((B2 K c s).1.map Aq)::Ad K (B2 K c s).2):=
 Z53 h D s (λc at_ k it=>Qvs at_ k it c) Zw8
def BJ (K:Kf) (c:Cv):Int×Cv:=
 if c.g0=2 then(6,stand c)else if c.aI≠0 then(c.aI,c)
 else if c.aH=true/\c.aM=true then(8,{c with aI:=8})else if c.on=true then B9 K c else(0,c)
theorem Zn (K:Kf) (c:Cv):(IU K c).1≠0:=by
 unfold IU
 (repeat' split)<;>simp
theorem Z5a (K:Kf) (c:Cv):(B9 K c).1≠0:=Zn K (CR c)
abbrev FT (K:Kf) (frm i:Int) (c:Cv):List AC:=I frm::I 5::I i::(Ep++(Ep++Ad K c))
abbrev Yc (K:Kf) (frm mode:Int) (c:Cv):List AC:=I frm::(Ep++([.vC kPt [], .vC Aa [],I mode,I 0,I 0,I 0,I 0,I 0,I 0]++Ad K c))
theorem Yaw {O S D G L M MU MS T U X Y:Fn} {c:Cv} (frm:Int)
  (hU:MU (Ad K c)=some (if c.g0=2 then I 6::B true::Ad K (stand c)else I 0::B false::Ad K c))
  (hO:M (Ad K c)=some (I c.aI::B (c.aI !=0)::Ad K c))
  (hP:L (Ad K c)=some (if c.aH=true/\c.aM=true then I 8::B true::Ad K {c with aI:=8}else I 0::B false::Ad K c))
  (hB:G (Ad K c)=some (if c.on=true then I (B9 K c).1::B true::Ad K (B9 K c).2 else I 0::B false::Ad K c))
  (hG:D (Ad K c)=some (I 0::B false::Ad K c)):
  Am (IQ O S D G L M MU MS T U X Y N) (FT K frm 0 c)=some (1,Yc K frm (BJ K c).1 (BJ K c).2):=by
 have w:∀i:Int,0<=i->i<5->V (i+1)=i+1:=λi _ _=>Ae;have e:=λi=>Z0r O S D G L M MU MS T U X Y N frm 5 i [] [] 0 0 0 0 0 0 0 [] [] 0 0 0 0 0 0 0 K c;have s0:c.g0≠2->IQ O S D G L M MU MS T U X Y N (FT K frm 0 c)=some (0,FT K frm 1 c):=λh=>by
  refine dh (e 0) (eT rfl (eT rfl (eB hU ?_)));rw[aa h];rfl
 have s1:c.aI=0->IQ O S D G L M MU MS T U X Y N (FT K frm 1 c)=some (0,FT K frm 2 c):=λh=>by
  refine dh (e 1) (eT rfl (eF rfl (eT rfl (eB hO ?_))));rw[h];rfl
 have s2: ¬(c.aH=true/\c.aM=true)->IQ O S D G L M MU MS T U X Y N (FT K frm 2 c)=some (0,FT K frm 3 c):=λh=>by
  refine dh (e 2) (eT rfl (eF rfl (eF rfl (eT rfl (eB hP ?_)))));rw[aa h];rfl
 have s3:c.on=false->IQ O S D G L M MU MS T U X Y N (FT K frm 3 c)=some (0,FT K frm 4 c):=λh=>by
  refine dh (e 3) (eT rfl (eF rfl (eF rfl (eF rfl (eT rfl (eB hB ?_))))));rw[aa (by rw[h];simp)];rfl
 have s4:IQ O S D G L M MU MS T U X Y N (FT K frm 4 c)=some (0,FT K frm 5 c):=by
  refine dh (e 4) (eT rfl (eF rfl (eF rfl (eF rfl (eF rfl (eT rfl (eB hG ?_)))))));rfl
 have s5:IQ O S D G L M MU MS T U X Y N (FT K frm 5 c)=some (1,Yc K frm 0 c):=by
  exact dh (e 5) (eF rfl rfl)
 unfold BJ;by_cases h:c.g0=2
 ·rw[ab h];refine A1 (dh (e 0) (eT rfl (eT rfl (eB hU ?_)))) (by simp);rw[ab h];rfl
 rw[aa h,Bc (s0 h)];by_cases h:c.aI=0
 ·rw[aa (by simpa using h),Bc (s1 h)];by_cases h:c.aH=true/\c.aM=true
  ·rw[ab h];refine A1 (dh (e 2) (eT rfl (eF rfl (eF rfl (eT rfl (eB hP ?_)))))) (by simp);rw[ab h];rfl
  ·rw[aa h,Bc (s2 h)];cases h:c.on
   ·rw[aa (by simp),Bc (s3 h),Bc s4];exact A1 s5 (by simp)
   ·rw[ab rfl];refine A1 (dh (e 3) (eT rfl (eF rfl (eF rfl (eF rfl (eT rfl (eB hB ?_))))))) (by simp);rw[ab h];generalize B9 K c=wk;rfl
 ·rw[ab h];refine A1 (dh (e 1) (eT rfl (eF rfl (eT rfl (eB hO ?_))))) (by simp);rw[bnT h];rfl
theorem Z34 {c:Cv} (h:KOK K) (t:c.on=true->0<=c.idx/\c.idx<K.p.aD.length):Kg (Ad K c)=some (if c.on=true then I (B9 K c).1::B true::Ad K (B9 K c).2 else I 0::B false::Ad K c):=by
 have key:∀{M:Fn},(c.on=true->M (Ad K c)=some (I (B9 K c).1::Ad K (B9 K c).2))->Qns M (Ad K c)=some (if c.on=true then I (B9 K c).1::B true::Ad K (B9 K c).2 else I 0::B false::Ad K c):=by
  intro M D;rw[Zrs];cases e:c.on
  ·rw[aa (by simp)];rfl
  ·rw[ab rfl];have D:=D e;generalize B9 K c=G at*;exact eB D rfl
 exact key λe=>Qxs h (t e).1 (t e).2
theorem Z7s {c:Cv} {n:Int} (h:KOK K) (g:Gd K n c):Kg (Ad K c)=some (if c.on=true then I (B9 K c).1::B true::Ad K (B9 K c).2 else I 0::B false::Ad K c):=Z34 h g.task
abbrev HE (c:Cv):Cv:={c with aJ:=false,aL:=false}
def BZ (c:Cv) (E:List Evn):Cv:=E.foldl (λc e=>evC c e.aP e.n) (HE c)
def IV (E:List Evn):Prop:=E.length<=1000000/\∀e∈E,e.aP≠7/\e.aP≠12/\e.aP≠13
theorem Zdt {M N D O S T MU MS U V X G:Fn} {c:Cv} {E:List Evn} (Y:IV E)
  (hV:∀(c:Cv) (x:Int) {k:Int} (n:Int),k≠7/\k≠12/\k≠13->G (I x::I k::I n::Ad K c)=some (Ad K (evC c k n))):
  Am (RA M N D O S T MU MS U V X G) (.vC kPt (E.map evR)::I (E.map evR).length::I 0::(Ep++Ad K (HE c)))=some (1,Ep++Ad K (BZ c E)):=by
 have key:Out (λo=>o=(1,Ep++Ad K (BZ c E))) (Am (RA M N D O S T MU MS U V X G) (.vC kPt (E.map evR)::I (E.map evR).length::I ((0:Nat):Int)::(Ep++Ad K (BZ c (E.take 0))))):=by
  refine C1 (λi:Nat=> .vC kPt (E.map evR)::I (E.map evR).length::I (i:Int)::(Ep++Ad K (BZ c (E.take i)))) (λi=>i<=E.length) (λi=>E.length-i) _ ?_ 0 (by simp);intro i L;have hl:=Y.1;refine Out.eqv (Zpt M N D O S T MU MS U V X G (E.map evR) (E.map evR).length i [] [] 0 0 0 0 0 0 0 K (BZ c (E.take i))) ?_;refine .cond (λk=> ?_) λk=> ?_
  ·have k:(i:Int)<((E.map evR).length:Int):=BC k;have L:i<E.length:=by rw[ah]at k;omega
   refine .cond (λ_=> ?_) λe=>(inB (by omega) k e).elim;rw[Tx E L];refine .bind (p:=λo=>o=_) ⟨_,hV (BZ c (E.take i)) E[i].cycle E[i].n (Y.2 _ (cg L)),rfl⟩ λo e=> ?_;subst e;have e1:BZ c (E.take (i+1))=evC (BZ c (E.take i)) E[i].aP E[i].n:=by
    unfold BZ;rw[i6,al L,List.foldl_append];rfl
   rw[Ae (x:=(i:Int)+1)];refine .some (.inl ⟨rfl,i+1,?_,by omega,by omega⟩);rw[e1];have st:∀d:Cv,Ep++cR 0 (Ad K d)=Ep++Ad K d:=λ_=>rfl;exact il (λz=>AC.vC kPt (E.map evR)::I (E.map evR).length::I ((i:Int)+1)::z) (st (evC (BZ c (E.take i)) E[i].aP E[i].n))
  ·have k: ¬(i:Int)<((E.map evR).length:Int):=BB k;rw[ah]at k;rw[gv (by omega)];generalize BZ c E=d;exact .some (.inr ⟨by simp,rfl⟩)
 obtain⟨o,h1,rfl⟩:=key;exact h1
def Jl (K:Kf) (frm u:Int):Rw:=wA ((JL (pxt K.p K.x K.t [I frm,I u])).getD []) 0
theorem Z1j (h:KOK K) (frm u:Int) (D:u-frm<=1000000000000):Out (λo=>wA o 0=Jl K frm u) (JL (pxt K.p K.x K.t [I frm,I u])):=
 ⟨_,Qe8 (Z9x h.f frm u D),rfl⟩
abbrev Ld (K:Kf) (c:Cv):Pt:=FI K.p K.x K.t (AI c)
theorem Yai {c:Cv} (G:c.way=0) (L:c.aL=false) {frm mode:Int}
  (N:S (Ad K c)=some [I (AI c)]) (O:T (Ad K c)=some [I (A4 K c)]) (hB:Out (λo=>wA o 0=Jl K frm (AI c)) (W (pxt K.p K.x K.t [I frm,I (AI c)])))
  (D:∀s,Z (I s::Ad K c)=some (.vC Aa ((B2 K c s).1.map Aq)::Ad K (B2 K c s).2)) (U:∀s,∃n q:Int,(B2 K c s).2={c with aK:=n,outs:=q}) (V:∀u,M (pxt K.p K.x K.t [I u])=some (ptR (FI K.p K.x K.t u))):
  VY M Z W T S (I frm::(Ad K c++[.vC kPt [], .vC Aa [],I mode,I 0,I 0,I 0,I 0,I 0,I 0]))=
   some (Ad K (B2 K c (A4 K c)).2++Ne (Jl K frm (AI c)) ((B2 K c (A4 K c)).1.map Aq) mode (A4 K c) (Ld K c) c.s3 c.g1):=by
 refine dh (Zyn M Z W T S frm [] [] mode 0 0 0 0 0 0 K c) ?_;obtain⟨o,hB,X⟩:=hB;rw[<-X];refine eB N (eB O (eT (show(!c.aL)=true by rw[L];rfl) (eB hB (eT (show(c.way==0)=true from beT G) ?_))));have D:=D (A4 K c);obtain⟨n,q,Y⟩:=U (A4 K c);generalize B2 K c (A4 K c)=ps at*;refine eB D ?_;rw[Y];refine eB (V (AI c)) ?_;rw[show Ld K c=FI K.p K.x K.t (AI c)from rfl];generalize FI K.p K.x K.t (AI c)=mt;rfl
theorem Qgv (K:Kf) (s:Int):∀(l:List Mrk) (c:Cv),∃n q:Int,(D_ K s l c).2={c with aK:=n,outs:=q}
 |[],c=>⟨c.aK,c.outs,rfl⟩
 |m::l,c=>by
  unfold D_;split
  ·exact⟨c.aK,c.outs,rfl⟩
  ·split
   ·obtain⟨n,q,h⟩:=Qgv K s l {c with outs:=swI c.outs (itK K m.aU),aK:=c.aK+1};exact⟨n,q,h⟩
   ·obtain⟨n,q,h⟩:=Qgv K s l {c with aK:=c.aK+1};exact⟨n,q,h⟩
theorem Uo (K:Kf) (c:Cv) (s:Int):∃n q:Int,(B2 K c s).2={c with aK:=n,outs:=q}:=Qgv K s _ c
theorem Zlo {c:Cv} {n:Int} (h:KOK K) (g:Gd K n c) (D:0<=n/\n<=10010) (G:c.aL=false) {frm mode:Int} (hf: -300000000000<=frm/\frm<=300000000000):
  L_ (I frm::(Ad K c++[.vC kPt [], .vC Aa [],I mode,I 0,I 0,I 0,I 0,I 0,I 0]))=
   some (Ad K (B2 K c (A4 K c)).2++Ne (Jl K frm (AI c)) ((B2 K c (A4 K c)).1.map Aq) mode (A4 K c) (Ld K c) c.s3 c.g1):=
 Yai g.way G (RT K c) (UD h c) (Z1j h frm (AI c) (by have:=Sb g D;omega)) (λs=>Zmm h g.pass s) (Uo K c) (Sp h.f)
def EE (c:Cv):Cv:=if c.aH=true\/c.g0≠0 then{c with o2:=true}else c
def Cp (c:Cv):Cv:={c with before:=c.s3}
def EQ (K:Kf) (c:Cv):Cv:=if IJ K c=true then c else spS c K.bF
def Kj (c:Cv):Cv:={c with aM:=EY c}
def BN (K:Kf) (c:Cv) (E:List Evn):Cv:=Kj (EQ K (Cp (EE (BZ c E))))
def stC (K:Kf) (c:Cv) (E:List Evn):Int×Cv:=if(BJ K (BN K c E)).1=0 then Dv K (BJ K (BN K c E)).2 else BJ K (BN K c E)
def C9 (K:Kf) (c:Cv) (E:List Evn):Cv:=(B2 K (stC K c E).2 (A4 K (stC K c E).2)).2
def Q5u (K:Kf) (c:Cv) (E:List Evn):List Int:=(B2 K (stC K c E).2 (A4 K (stC K c E).2)).1
def tkC (K:Kf) (c:Cv) (E:List Evn):List AC:=
 Ne (Jl K (AI (BZ c E)) (AI (stC K c E).2)) ((Q5u K c E).map Aq) (stC K c E).1 (A4 K (stC K c E).2) (Ld K (stC K c E).2) (stC K c E).2.s3 (stC K c E).2.g1
theorem Z14 {d:Cv} {o:Nat×List AC} (G:∃e,o.2=Ep++Ad K e)
  (O:N (FT K a 0 d)=some (1,Yc K a (BJ K d).1 (BJ K d).2))
  (V:(BJ K d).1=0->M (Ad K (BJ K d).2)=some (I (Dv K (BJ K d).2).1::Ad K (Dv K (BJ K d).2).2))
  {s:Int×Cv} (L:s=if(BJ K d).1=0 then Dv K (BJ K d).2 else BJ K d)
  {D outs:Rw} {pos S T:Int} {mt:Pt} {q:Cv}
  (U:Z (I a::(Ad K s.2++[.vC kPt [], .vC Aa [],I s.1,I 0,I 0,I 0,I 0,I 0,I 0]))=some (Ad K q++Ne D outs s.1 pos mt S T)):
  Jz N o M Z (I a) (Ad K d)=some (Ne D outs s.1 pos mt S T++Ad K q):=by
 obtain⟨o1,o2⟩:=o;obtain⟨e,G⟩:=G;dsimp only at G;subst G;refine eB O (eT rfl ?_);generalize BJ K d=r at*;generalize Dv K r.2=w at*;by_cases h:r.1=0
 ·rw[ab h]at L;subst L;refine eT (show(r.1==0)=true from beT h) (eB (V h) (eB U rfl))
 ·rw[aa h]at L;subst L;exact eF (show(s.1==0)=false from beF h) (eB U rfl)
theorem Ya6 {L M N Y MP MO MU MS O S T MV:Fn} {U D:Lp} {c:Cv} {E:List Evn} {V:List AC} {X:Cv}
  (h3:U (.vC kPt (E.map evR)::I (E.map evR).length::I 0::(Ep++Ad K (HE c)))=some (1,Ep++Ad K (BZ c E)))
  (hT:∀c,T (Ad K c)=some [B (IJ K c)]) (hX:∀(c:Cv) (bF:Int),S [I c.s0,I c.s1,I c.s2,I c.s3,I bF]=some [I (spS c bF).s0,I (spS c bF).s1,I (spS c bF).s2,I (spS c bF).s3])
  (hN:∀c,O (Ad K c)=some [I (AI c)]) (hS:∀c:Cv,MS [I c.m0,I c.m1,I c.m2,I c.m3,I c.m4,I c.m5]=some [B (EY c)])
  (G:∀o:Nat×List AC,(∃e,o.2=Ep++Ad K e)->Jz D o M L (I (AI (BZ c E))) (Ad K (BN K c E))=some (V++Ad K X)):
  Qmo L M N Y MP MO MU MS O S T MV U D (.vC kPt (E.map evR)::Ad K c)=some (V++Ad K X):=by
 refine dh (Zqt L M N Y MP MO MU MS O S T MV U D (E.map evR) K c) ?_;refine eB h3 (eT rfl ?_);unfold BN at G;generalize BZ c E=d at*
 have rest:∀b:Cv,EE d=b->AI b=AI d->EY b=EY d->
   ((T (Ad K (Cp b))).bind λo => bif !bA o 0 then (S [I b.s0, I b.s1, I b.s2, I b.s3, I K.bF]).bind λo2 => (O (Ad K { Cp b with s0 := gA o2 0, s1 := gA o2 1, s2 := gA o2 2, s3 := gA o2 3 })).bind λo3 => (MS [I d.m0, I d.m1, I d.m2, I d.m3, I d.m4, I d.m5]).bind λo4 => Jz D (1, Ep ++ Ad K d) M L (jA o3 0) (Ad K { Cp b with s0 := gA o2 0, s1 := gA o2 1, s2 := gA o2 2, s3 := gA o2 3, aM := bA o4 0 })
    else(O (Ad K (Cp b))).bind λo3=>(MS [I d.m0,I d.m1,I d.m2,I d.m3,I d.m4,I d.m5]).bind λo4=>Jz D (1,Ep++Ad K d) M L (jA o3 0) (Ad K {Cp b with aM:=bA o4 0}))=some (V++Ad K X):=λb hb hu hs=>by
  have G:=G (1,Ep++Ad K d) ⟨d,rfl⟩;rw[hb]at G;refine eB (hT (Cp b)) ?_;cases ht:IJ K (Cp b)
  ·have e1:EQ K (Cp b)=spS (Cp b) K.bF:=by unfold EQ;rw[aa (by rw[ht];simp)]
   rw[e1]at G;refine eT rfl (eB (hX b K.bF) ?_);refine dh (il (λz=>Option.bind z _) (hN (spS (Cp b) K.bF))) (eB rfl (eB (hS d) ?_));have e2:AI (spS (Cp b) K.bF)=AI d:=hu;have e3:({spS (Cp b) K.bF with aM:=EY d}:Cv)=Kj (spS (Cp b) K.bF):=by
    unfold Kj;rw[show EY (spS (Cp b) K.bF)=EY b from rfl,hs]
   rw[<-e3,<-e2]at G;exact G
  ·have e1:EQ K (Cp b)=Cp b:=by unfold EQ;rw[ab ht]
   rw[e1]at G;refine eF rfl ?_;refine dh (il (λz=>Option.bind z _) (hN (Cp b))) (eB rfl (eB (hS d) ?_));have e2:AI (Cp b)=AI d:=hu;have e3:({Cp b with aM:=EY d}:Cv)=Kj (Cp b):=by
    unfold Kj;rw[show EY (Cp b)=EY b from rfl,hs]
   rw[<-e3,<-e2]at G;exact G
 refine eC (λt=> ?_) λt=>eC (λq=> ?_) λq=> ?_
 ·have t:d.aH=true:=t;exact rest {d with o2:=true} (by unfold EE;rw[ab (.inl t)]) rfl rfl
 ·have q:d.g0≠0:=λe=>by
   have:(d.g0 !=0)=true:=q;rw[bnF e]at this;cases this
  exact rest {d with o2:=true} (by unfold EE;rw[ab (.inr q)]) rfl rfl
 ·have t:d.aH=false:=t;have q:d.g0=0:=j4 λe=>by
   have:(d.g0 !=0)=false:=q;rw[bnT e]at this;cases this
  exact rest d (by unfold EE;rw[aa (λw=>by rcases w with w|w;rw[t]at w;cases w;exact w q)]) rfl rfl
structure Kp (c d : Cv) : Prop where
 way:d.way=c.way
 aL:d.aL=c.aL
 aK:d.aK=c.aK
 outs:d.outs=c.outs
theorem Kp.rfl {c:Cv}:Kp c c:=⟨Eq.refl _,Eq.refl _,Eq.refl _,Eq.refl _⟩
theorem Kp.trans {a b c:Cv} (h:Kp a b) (g:Kp b c):Kp a c:=⟨g.way.trans h.way,g.aL.trans h.aL,g.aK.trans h.aK,g.outs.trans h.outs⟩
structure Sm (c d : Cv) : Prop where
 kp:Kp c d
 m0:d.m0=c.m0
 m1:d.m1=c.m1
 m2:d.m2=c.m2
 m3:d.m3=c.m3
 m4:d.m4=c.m4
 on:d.on=c.on
 idx:d.idx=c.idx
 aI:d.aI=c.aI
 aH:d.aH=c.aH
 next:d.next=c.next
theorem Sm.trans {a b c:Cv} (h:Sm a b) (g:Sm b c):Sm a c:=
 ⟨h.kp.trans g.kp,g.m0.trans h.m0,g.m1.trans h.m1,g.m2.trans h.m2,g.m3.trans h.m3,g.m4.trans h.m4,g.on.trans h.on,g.idx.trans h.idx,g.aI.trans h.aI,g.aH.trans h.aH,g.next.trans h.next⟩
theorem Sm.rfl {c:Cv}:Sm c c:=⟨Kp.rfl,Eq.refl _,Eq.refl _,Eq.refl _,Eq.refl _,Eq.refl _,Eq.refl _,Eq.refl _,Eq.refl _,Eq.refl _,Eq.refl _⟩
theorem Gd.sm {n:Int} {c d:Cv} (g:Gd K n c) (h:Sm c d):Gd K n d:=g.same h.kp.way h.kp.aK h.on h.idx h.m0 h.m1 h.m2
theorem Zpv (c:Cv) (k n:Int):Sm c (evC c k n):=⟨⟨Eq.refl _,Eq.refl _,Eq.refl _,Eq.refl _⟩,Eq.refl _,Eq.refl _,Eq.refl _,Eq.refl _,Eq.refl _,Eq.refl _,Eq.refl _,Eq.refl _,Eq.refl _,Eq.refl _⟩
theorem Qyc:∀(E:List Evn) (c:Cv),Sm c (E.foldl (λc e=>evC c e.aP e.n) c)
 |[],_=>Sm.rfl
 |e::E,c=>(Zpv c e.aP e.n).trans (Qyc E _)
theorem Qqy (c:Cv) (E:List Evn):Sm (HE c) (BZ c E):=Qyc E _
theorem Zwg (c:Cv):Sm c (EE c):=by
 unfold EE;split
 ·exact⟨⟨rfl,rfl,rfl,rfl⟩,rfl,rfl,rfl,rfl,rfl,rfl,rfl,rfl,rfl,rfl⟩
 ·exact Sm.rfl
theorem Z8c (K:Kf) (c:Cv):Sm c (EQ K c):=by
 unfold EQ;split
 ·exact Sm.rfl
 ·exact⟨⟨rfl,rfl,rfl,rfl⟩,rfl,rfl,rfl,rfl,rfl,rfl,rfl,rfl,rfl,rfl⟩
theorem SI (K:Kf) (c:Cv) (E:List Evn):Sm (HE c) (BN K c E):=
 (Qqy c E).trans ((Zwg _).trans (Sm.trans (b:=Cp (EE (BZ c E))) ⟨⟨rfl,rfl,rfl,rfl⟩,rfl,rfl,rfl,rfl,rfl,rfl,rfl,rfl,rfl,rfl⟩ ((Z8c K _).trans ⟨⟨rfl,rfl,rfl,rfl⟩,rfl,rfl,rfl,rfl,rfl,rfl,rfl,rfl,rfl,rfl⟩)))
theorem Gd.clear {n:Int} {c:Cv} (g:Gd K n c):Gd K n (HE c):=⟨g.way,g.pass,g.task,g.mo,g.m0⟩
theorem T0 {n:Int} {c:Cv} (g:Gd K n c) (E:List Evn):Gd K n (BN K c E):=g.clear.sm (SI K c E)
theorem Zfb {n:Int} {c:Cv} (g:Gd K n c):Gd K n (IU K c).2/\Kp c (IU K c).2:=by
 have done:∀d:Cv,Gd K n d->Kp c d->Gd K n (Iq d)/\Kp c (Iq d):=λd g k=>⟨⟨g.way,g.pass,λh=>(by cases h),g.mo,g.m0⟩,k.trans ⟨rfl,rfl,rfl,rfl⟩⟩;have cmd:∀D G:Int,Gd K n (JC c D G)/\Kp c (JC c D G):=λD G=>⟨⟨g.way,g.pass,g.task,g.mo,g.m0⟩,⟨rfl,rfl,rfl,rfl⟩⟩;unfold IU;split
 ·split
  ·exact done c g Kp.rfl
  ·exact⟨g,Kp.rfl⟩
 ·split
  ·exact done c g Kp.rfl
  ·split
   ·split
    ·exact⟨g,Kp.rfl⟩
    ·exact done c g Kp.rfl
   ·split
    ·split
     ·exact done _ (cmd _ _).1 (cmd _ _).2
     ·exact cmd _ _
    ·split
     ·exact⟨⟨g.way,g.pass,g.task,g.mo,g.m0⟩,⟨rfl,rfl,rfl,rfl⟩⟩
     ·exact done c g Kp.rfl
theorem Q87 {n:Int} {c:Cv} (g:Gd K n c):Gd K n (B9 K c).2/\Kp c (B9 K c).2:=by
 have h:=Zfb (K:=K) (c:=CR c) ⟨g.way,g.pass,g.task,g.mo,g.m0⟩;exact⟨h.1,h.2.way,h.2.aL,h.2.aK,h.2.outs⟩
theorem Zr8 {n:Int} {c:Cv} (g:Gd K n c) {i:Int} (D:0<=i) (G:i<K.p.aD.length):Gd K n (Eh K c i).2/\Kp c (Eh K c i).2:=by
 have h:=Q87 (K:=K) (c:={c with on:=true,idx:=i,aN:=F9 K c i,cnt:=0}) ⟨g.way,g.pass,λ_=>⟨D,G⟩,g.mo,g.m0⟩;exact⟨h.1,⟨h.2.way,h.2.aL,h.2.aK,h.2.outs⟩⟩
theorem Nr {n:Int} {c:Cv} (g:Gd K n c):Gd K n (DF c)/\Kp c (DF c):=by
 unfold DF;split
 ·exact⟨⟨g.way,g.pass,g.task,g.mo,g.m0⟩,⟨rfl,rfl,rfl,rfl⟩⟩
 ·exact⟨g,Kp.rfl⟩
theorem Z5q (K:Kf) (c:Cv) (l:Int):Kp c (EG K c l):=⟨rfl,rfl,rfl,rfl⟩
theorem Gd.e0 {n:Int} {c:Cv} (g:Gd K n c) (x:Int):Gd K n {c with e0:=x}:=⟨g.way,g.pass,g.task,g.mo,g.m0⟩
theorem Gd.s3 {n:Int} {c:Cv} (g:Gd K n c) (x:Int):Gd K n {c with s3:=x}:=⟨g.way,g.pass,g.task,g.mo,g.m0⟩
theorem Q47 {n:Int} {c:Cv} (h:KOK K) (g:Gd K n c) (G:0<=n/\n<=10000) (l:Int) {s:Sgm} (L:i64 s.aX):Gd K (n+1) (Gf K c l s)/\Kp c (Gf K c l s):=by
 have I:=Qwh h g G l;unfold Gf;split
 ·exact⟨I.s3 _,⟨rfl,rfl,rfl,rfl⟩⟩
 ·obtain⟨-,v,O,b,z,y,e,M,N⟩:=Qpd h g l L;have D:Gd K (n+1) (JR c (thO K c l s.aX)):=by
   have e1:gA (thO K c l s.aX) 1=v:=by rw[M];rfl
   have:=g.bC h G N;unfold JR T7;rw[e1];generalize thO K c l s.aX=o;exact this.same rfl rfl rfl rfl rfl rfl rfl
  unfold KI;split
  ·exact⟨I.e0 3,⟨rfl,rfl,rfl,rfl⟩⟩
  ·split
   ·exact⟨(Nr D).1,Kp.trans (b:=JR c (thO K c l s.aX)) ⟨rfl,rfl,rfl,rfl⟩ (Nr D).2⟩
   ·exact⟨D,⟨rfl,rfl,rfl,rfl⟩⟩
theorem Zra {n:Int} {c:Cv} (h:KOK K) (g:Gd K n c) (D:0<=n/\n<=10000) (l:Int):Gd K (n+1) (FZ K c l)/\Kp c (FZ K c l):=by
 unfold FZ;split
 ·exact⟨Qwh h g D l,Z5q K c l⟩
 ·rename_i I;have G:(vF K c).aX≠0:=λe=>I (.inl e);split
  ·exact Q47 h g D l (Gx h G).2.2
  ·split
   ·have:=Q47 h (g.go (vF K c)) D l (Gx h G).2.2;exact⟨this.1,Kp.trans (b:=goC K c (vF K c)) ⟨rfl,rfl,rfl,rfl⟩ this.2⟩
   ·split
    ·exact⟨(Nr (g.up D.1)).1,(Nr g).2⟩
    ·exact⟨g.up D.1,Kp.rfl⟩
theorem Zvv {n:Int} {c:Cv} (h:KOK K) (g:Gd K n c) (D:0<=n/\n<=10000):Gd K (n+1) (Dv K c).2/\Kp c (Dv K c).2:=by
 have G:=Qt4 K c;unfold Dv;split
 ·split
  ·rename_i k;have L:(Bg K c).2<K.p.aD.length:=by
    rcases G with G|G
    ·omega
    ·exact G.2.2
   have I:=Zr8 (g.up D.1) k L;split
   ·exact⟨(Nr I.1).1,I.2.trans (Nr I.1).2⟩
   ·exact I
  ·split
   ·exact⟨⟨g.way,g.pass,g.task,(g.up D.1).mo,(g.up D.1).m0⟩,⟨rfl,rfl,rfl,rfl⟩⟩
   ·exact⟨g.up D.1,Kp.rfl⟩
 ·exact Zra h g D _
theorem Qyy {n:Int} {c:Cv} (h:KOK K) (g:Gd K n c) (D:0<=n/\n<=10000):Gd K n (BJ K c).2/\Kp c (BJ K c).2:=by
 unfold BJ;split
 ·exact⟨(g.stand h D).1,⟨rfl,rfl,rfl,rfl⟩⟩
 ·split
  ·exact⟨g,Kp.rfl⟩
  ·split
   ·exact⟨⟨g.way,g.pass,g.task,g.mo,g.m0⟩,⟨rfl,rfl,rfl,rfl⟩⟩
   ·split
    ·exact Q87 g
    ·exact⟨g,Kp.rfl⟩
theorem R3 {n:Int} {c:Cv} (h:KOK K) (g:Gd K n c) (D:0<=n/\n<=10000) (E:List Evn):Gd K (n+1) (stC K c E).2/\Kp (HE c) (stC K c E).2:=by
 have G:=Qyy h (T0 g E) D;have kp:=(SI K c E).kp.trans G.2;unfold stC;split
 ·have:=Zvv h G.1 D;exact⟨this.1,kp.trans this.2⟩
 ·exact⟨G.1.up D.1,kp⟩
theorem Zh (K:Kf) (s:Int):∀(l:List Mrk) (c:Cv),c.aK<=(D_ K s l c).2.aK/\(D_ K s l c).2.aK<=c.aK+l.length
 |[],c=>by simp[D_]
 |m::l,c=>by
  unfold D_;split
  ·simp only[bm];omega
  ·split
   ·have:=Zh K s l {c with outs:=swI c.outs (itK K m.aU),aK:=c.aK+1};simp only[bm]at this⊢;omega
   ·have:=Zh K s l {c with aK:=c.aK+1};simp only[bm]at this⊢;omega
theorem Qcx {n:Int} {c:Cv} (h:KOK K) (g:Gd K n c) (G:0<=n/\n<=10000) (E:List Evn):Gd K (n+1) (C9 K c E):=by
 have D:=(R3 h g G E).1;unfold C9;generalize(stC K c E).2=d at*;obtain⟨I,q,e⟩:=Uo K d (A4 K d);have hb:=Zh K (A4 K d) (K.p.aD.drop d.aK.toNat) d;rw[dg]at hb;have hb:d.aK<=(B2 K d (A4 K d)).2.aK/\(B2 K d (A4 K d)).2.aK<=d.aK+((K.p.aD.length-d.aK.toNat:Nat):Int):=hb;rw[e]at hb⊢;have L:=D.pass;exact⟨D.way,by dsimp only at hb⊢;omega,D.task,D.mo,D.m0⟩
theorem Z2d {c:Cv} {n:Int} (h:KOK K) (g:Gd K n c) (D:0<=n/\n<=10000) {E:List Evn} (L:IV E):
  JT (.vC kPt (E.map evR)::Ad K c)=some (tkC K c E++Ad K (C9 K c E)):=by
 have G:=T0 g E;have M:=Qyy h G D;have I:=R3 h g D E;have hf: -300000000000<=AI (BZ c E)/\AI (BZ c E)<=300000000000:=Sb (g.clear.sm (Qqy c E)) (by omega);refine Ya6 (Zdt L Zgu) (Zyv h) Zz9 (RT K) Zzt λo N=> ?_;refine Z14 (s:=stC K c E) N (Yaw _ (Zs3 K _) (Zhu K _) (Zpu K _) (Z7s h G) (Zsv G.way)) (λ_=>Z67 h M.1 D) rfl ?_;exact Zlo h I.1 (by omega) I.2.aL hf
abbrev UI:Axs:=⟨8,10,10,10,-16777216,16777216,0,0,0,[]⟩
theorem Qib:AxOK UI:=⟨by decide,by decide,by decide,λh=>absurd rfl h,⟨λx h=>(by cases h),λi h=>(by simp at h)⟩,by decide,by decide⟩
abbrev PP:Ax3:=⟨UI,UI,UI⟩
theorem machX:MachOK PP 9 3 100 1 0:=⟨⟨Qib,Qib,Qib⟩,⟨by decide,by decide,by decide⟩,by decide,by decide⟩
theorem Zu4:Items 4084 ⟨0,0,0⟩ []:=⟨trivial,λit h=>by cases h⟩
abbrev kX (l:List Itm):Kf:=kfP PP 9 3 100 1 0 l true
theorem Zd2 {l:List Itm} (h:(A_ l).aF=[]) (c:Cv):IJ (kX l) c=false:=by
 unfold IJ E7;rw[h];rfl
theorem gd0 (l:List Itm):Gd (kX l) 0 Bb:=⟨rfl,⟨by decide,by simp⟩,λh=>(by cases h),Qn3 machX.plan,by decide⟩
theorem V1:A_ []=⟨⟨0,0,0⟩,[],[]⟩:=rfl
theorem Zom (h:p.aF=[]):Ez p PP ⟨1,1,1⟩ 0 (AX p.aF)=⟨[],0,0,⟨1,1,1⟩⟩:=by
 unfold Ez;rw[h];rfl
theorem kX0:kX []=⟨PP,9,3,100,1,0,[],true,⟨⟨0,0,0⟩,[],[]⟩,0,Ky [],⟨[],0,0,⟨1,1,1⟩⟩⟩:=by
 show Kf.mk _ _ _ _ _ _ _ _ _ _ _ _=_;rw[Zom (p:=A_ []) (by rw[V1]),V1];rfl
abbrev Uj:Cv:={Bb with aM:=true}
theorem Zuj (D:∀c,IJ K c=false) (G:K.bF=1):BN K Bb []=Uj:=by
 show Kj (EQ K (Cp (EE Bb)))=_;unfold EQ;rw[aa (by rw[D];simp),G];rfl
theorem Qtb:(stC (kX []) Bb []).1=7:=by
 have e:=Zuj (Zd2 (l:=[]) (by rw[V1])) rfl;have D:BJ (kX []) Uj=(0,Uj):=rfl;unfold stC;rw[e,D,ab rfl];have G:Bg (kX []) Uj=(0,-1):=by
  rw[kX0];unfold Bg BS;rfl
 unfold Dv;rw[G];rfl
theorem Qn2:IV []:=⟨by simp,λe h=>by cases h⟩
theorem Zn9 (K:Kf) (c:Cv) (E:List Evn):A4 K (C9 K c E)=A4 K (stC K c E).2/\Ld K (C9 K c E)=Ld K (stC K c E).2/\(C9 K c E).g0=(stC K c E).2.g0/\(C9 K c E).g1=(stC K c E).2.g1/\(C9 K c E).m0=(stC K c E).2.m0:=by
 unfold C9;obtain⟨n,q,e⟩:=Uo K (stC K c E).2 (A4 K (stC K c E).2);rw[e];exact⟨rfl,rfl,rfl,rfl,rfl⟩
theorem Z80 {c d:Cv} (h:Sm c d):AI d=AI c:=by
 show V (d.m0.tdiv 256)=V (c.m0.tdiv 256);rw[h.m0]
abbrev atE (E:List Evn) (k:Int):List Evn:=E.filter λe=>e.cycle==k
theorem Qww {E:List Evn} {e:Evn} (h:e∈atE E k):e∈E:=(List.mem_filter.1 h).1
theorem Q4y (E:List Evn) (k:Int):(atE E k).length<=E.length:=List.length_filter_le _ _
def Zbk (K:Kf) (E:List Evn):Nat->Cv
 |0=>Bb
 |k+1=>C9 K (Zbk K E k) (atE E k)
theorem gdK (h:KOK K):Gd K 0 Bb:=⟨rfl,⟨by decide,by simp⟩,λh=>(by cases h),Qn3 h.plan,by decide⟩
theorem Qwg {K:Kf} (h:KOK K) (E:List Evn):∀k:Nat,k<=10000->Gd K k (Zbk K E k)
 |0,_=>gdK h
 |k+1,D=>Qcx h (Qwg h E k (by omega)) (by omega) _
structure Cm (c : Cv) : Prop where
 on:c.on=true->c.m1=0
 aI:c.aI≠0->c.m1=0
 aH:c.aH=false
structure Mt (c d : Cv) : Prop where
 m0:d.m0=c.m0
 m1:d.m1=c.m1
 m2:d.m2=c.m2
 aH:d.aH=c.aH
 g0:d.g0=c.g0
 g1:d.g1=c.g1
 g2:d.g2=c.g2
 o2:d.o2=c.o2
theorem Mt.rfl {c:Cv}:Mt c c:=⟨Eq.refl _,Eq.refl _,Eq.refl _,Eq.refl _,Eq.refl _,Eq.refl _,Eq.refl _,Eq.refl _⟩
theorem Mt.trans {a b c:Cv} (h:Mt a b) (g:Mt b c):Mt a c:=
 ⟨g.m0.trans h.m0,g.m1.trans h.m1,g.m2.trans h.m2,g.aH.trans h.aH,g.g0.trans h.g0,g.g1.trans h.g1,g.g2.trans h.g2,g.o2.trans h.o2⟩
theorem Mt.cm {c d:Cv} (h:Mt c d) (D:c.m1=0) (G:c.aH=false):Cm d:=
 ⟨λ_=>h.m1.trans D,λ_=>h.m1.trans D,h.aH.trans G⟩
theorem Zuu (K:Kf) (c:Cv):Mt c (IU K c).2:=by
 have done:∀d:Cv,Mt c d->Mt c (Iq d):=λd k=>k.trans ⟨rfl,rfl,rfl,rfl,rfl,rfl,rfl,rfl⟩;have cmd:∀D G:Int,Mt c (JC c D G):=λD G=>⟨rfl,rfl,rfl,rfl,rfl,rfl,rfl,rfl⟩;unfold IU;split
 ·split
  ·exact done c Mt.rfl
  ·exact Mt.rfl
 ·split
  ·exact done c Mt.rfl
  ·split
   ·split
    ·exact Mt.rfl
    ·exact done c Mt.rfl
   ·split
    ·split
     ·exact done _ (cmd _ _)
     ·exact cmd _ _
    ·split
     ·exact⟨rfl,rfl,rfl,rfl,rfl,rfl,rfl,rfl⟩
     ·exact done c Mt.rfl
theorem Ub (K:Kf) (c:Cv):Mt c (B9 K c).2:=Mt.trans (b:=CR c) ⟨rfl,rfl,rfl,rfl,rfl,rfl,rfl,rfl⟩ (Zuu K _)
theorem Qnw (K:Kf) (c:Cv) (i:Int):Mt c (Eh K c i).2:=Mt.trans (b:={c with on:=true,idx:=i,aN:=F9 K c i,cnt:=0}) ⟨rfl,rfl,rfl,rfl,rfl,rfl,rfl,rfl⟩ (Ub K _)
structure Os (c d : Cv) : Prop where
 on:d.on=c.on
 aI:d.aI=c.aI
 aH:d.aH=c.aH
 gu:(d.g0=c.g0/\d.g1=c.g1/\d.g2=c.g2)\/(c.g0=0/\d.g0=1/\d.g1=18)
theorem Os.trans {a b c:Cv} (h:Os a b) (g:Os b c):Os a c:=by
 refine⟨g.on.trans h.on,g.aI.trans h.aI,g.aH.trans h.aH,?_⟩;rcases h.gu with⟨D,I,L⟩|⟨D,I,L⟩<;>rcases g.gu with⟨k0,G,M⟩|⟨k0,G,M⟩
 ·exact .inl ⟨k0.trans D,G.trans I,M.trans L⟩
 ·exact .inr ⟨D.symm.trans k0,G,M⟩
 ·exact .inr ⟨D,k0.trans I,G.trans L⟩
 ·omega
theorem Qj5 (c:Cv):Os c (DF c):=by
 unfold DF;split
 ·rename_i h;exact⟨rfl,rfl,rfl, .inr ⟨h,rfl,rfl⟩⟩
 ·exact⟨rfl,rfl,rfl, .inl ⟨rfl,rfl,rfl⟩⟩
theorem Qmk (K:Kf) (c:Cv) (l:Int):Os c (EG K c l):=⟨rfl,rfl,rfl, .inl ⟨rfl,rfl,rfl⟩⟩
theorem Q1o (c:Cv) (o:List AC):Os c (JR c o):=⟨rfl,rfl,rfl, .inl ⟨rfl,rfl,rfl⟩⟩
theorem Qrp (K:Kf) (c:Cv) (l:Int) (s:Sgm):Os c (Gf K c l s):=by
 unfold Gf;split
 ·exact(Qmk K c l).trans ⟨rfl,rfl,rfl, .inl ⟨rfl,rfl,rfl⟩⟩
 ·unfold KI;split
  ·exact(Qmk K c l).trans ⟨rfl,rfl,rfl, .inl ⟨rfl,rfl,rfl⟩⟩
  ·split
   ·exact(Q1o c _).trans (Qj5 _)
   ·exact Q1o c _
theorem Zm3 (K:Kf) (c:Cv) (l:Int):Os c (FZ K c l):=by
 unfold FZ;split
 ·exact Qmk K c l
 ·split
  ·exact Qrp K c l _
  ·split
   ·exact Os.trans (b:=goC K c (vF K c)) ⟨rfl,rfl,rfl, .inl ⟨rfl,rfl,rfl⟩⟩ (Qrp K _ l _)
   ·split
    ·exact Qj5 c
    ·exact⟨rfl,rfl,rfl, .inl ⟨rfl,rfl,rfl⟩⟩
def Gg (c:Cv):Prop:=(c.g0=0/\c.g1=0/\c.g2= -1)\/(c.g0=1/\c.g1=18)
theorem Os.gg {c d:Cv} (h:Os c d) (g:Gg c):Gg d:=by
 rcases h.gu with⟨I,D,G⟩|⟨I,D,G⟩
 ·unfold Gg;rw[I,D,G];exact g
 ·exact .inr ⟨D,G⟩
theorem Mt.gg {c d:Cv} (h:Mt c d) (g:Gg c):Gg d:=by unfold Gg;rw[h.g0,h.g1,h.g2];exact g
theorem Os.cm {c d:Cv} (h:Os c d) (D:c.on=false) (G:c.aI=0) (I:c.aH=false):Cm d:=
 ⟨λe=>(by rw[h.on,D]at e;cases e),λe=>absurd (h.aI.trans G) e,h.aH.trans I⟩
theorem Zei (K:Kf) {c:Cv} (G:c.aM=true->c.m1=0) (I:c.on=false) (L:c.aI=0) (D:c.aH=false):Cm (Dv K c).2/\(Gg c->Gg (Dv K c).2):=by
 unfold Dv;split
 ·rename_i h;have m:=G h.1;split
  ·split
   ·have b:=Qnw K c (Bg K c).2;have f:=Qj5 (Eh K c (Bg K c).2).2;refine⟨?_,λg=>f.gg (b.gg g)⟩;have e:(DF (Eh K c (Bg K c).2).2).m1=0:=by
     unfold DF;split
     ·exact b.m1.trans m
     ·exact b.m1.trans m
    exact⟨λ_=>e,λ_=>e,f.aH.trans (b.aH.trans D)⟩
   ·have b:=Qnw K c (Bg K c).2;exact⟨b.cm m D,b.gg⟩
  ·split
   ·exact⟨⟨λ_=>m,λ_=>m,D⟩,id⟩
   ·exact⟨⟨λ_=>m,λ_=>m,D⟩,id⟩
 ·have o:=Zm3 K c (Bg K c).1;exact⟨o.cm I L D,o.gg⟩
theorem Zz2 (K:Kf) (c:Cv) (E:List Evn):(BN K c E).aM=true->(BN K c E).m1=0:=by
 unfold BN Kj;generalize EQ K (Cp (EE (BZ c E)))=d;intro h;have h:EY d=true:=h;unfold EY at h;rw[ai]at h;exact eq_of_beq h.1
theorem Zcx {c:Cv} (h:Cm c) (E:List Evn):Cm (BN K c E):=by
 have s:=SI K c E;exact⟨λe=>s.m1.trans (h.on (s.on.symm.trans e)),λe=>s.m1.trans (h.aI λq=>e (s.aI.trans q)),s.aH.trans h.aH⟩
theorem Zzn {c:Cv} (h:Cm c) (E:List Evn):Cm (stC K c E).2/\(Gg (BN K c E)->Gg (stC K c E).2):=by
 have D:=Zcx (K:=K) h E;have M:=Zz2 K c E;unfold stC;generalize BN K c E=d at*;unfold BJ;by_cases L:d.g0=2
 ·rw[ab L,aa (by simp)];exact⟨⟨λ_=>rfl,λ_=>rfl,D.aH⟩,id⟩
 ·rw[aa L];by_cases G:d.aI≠0
  ·rw[ab G,aa G];exact⟨D,id⟩
  ·rw[aa G,aa (show¬(d.aH=true/\d.aM=true)from λw=>by have:=w.1;rw[D.aH]at this;cases this)];by_cases I:d.on=true
   ·rw[ab I,aa (show¬(B9 K d).1=0 from Zn K _)];exact⟨(Ub K d).cm (D.on I) D.aH,(Ub K d).gg⟩
   ·rw[aa I,ab rfl];exact Zei K M (by simpa using I) (Decidable.not_not.1 G) D.aH
theorem Zdz {c:Cv} (h:Cm c) (E:List Evn):Cm (C9 K c E)/\(Gg (BN K c E)->Gg (C9 K c E)):=by
 have D:=Zzn (K:=K) h E;unfold C9;generalize(stC K c E).2=d at*;obtain⟨n,q,e⟩:=Uo K d (A4 K d);rw[e];exact⟨⟨D.1.on,D.1.aI,D.1.aH⟩,D.2⟩
theorem Ztx {c:Cv} {k n:Int} (G:k<=6):(evC c k n).g0=c.g0/\(evC c k n).g1=c.g1/\(evC c k n).g2=c.g2:=by
 have D:Ho k n=false:=by
  unfold Ho;rw[beF (show k≠9 by omega),beF (show k≠8 by omega)];rfl
 refine⟨?_,?_,?_⟩
 ·show(if k=10 then 2 else if k=11 then 0 else if Ho k n=true then(if c.g0=2 then 2 else 1)else c.g0)=_;rw[aa,aa,aa (by rw[D];simp)]
 ·show(if k=10 then 22 else if k=11 then 0 else if Ho k n=true/\c.g0≠2/\c.g1=0 then(if k=9 then 21 else 20)else c.g1)=_;rw[aa,aa,aa (by rw[D];simp)]
 ·show(if k=10 then-1 else if k=11 then-1 else if Ho k n=true/\c.g0≠2/\c.g1=0 then(if k=9 then-1 else n)else c.g2)=_;rw[aa,aa,aa (by rw[D];simp)]
theorem Q5x:∀(E:List Evn) (c:Cv),(∀e∈E,e.aP<=6)->(E.foldl (λc e=>evC c e.aP e.n) c).g0=c.g0/\(E.foldl (λc e=>evC c e.aP e.n) c).g1=c.g1/\(E.foldl (λc e=>evC c e.aP e.n) c).g2=c.g2
 |[],c,_=>⟨rfl,rfl,rfl⟩
 |e::E,c,D=>by
  have h:=Q5x E (evC c e.aP e.n) λx G=>D x (by simp[G]);have g:=Ztx (c:=c) (k:=e.aP) (n:=e.n) (D e (by simp));exact⟨h.1.trans g.1,h.2.1.trans g.2.1,h.2.2.trans g.2.2⟩
theorem Z76 (K:Kf) (c:Cv) (E:List Evn):(BN K c E).g0=(BZ c E).g0/\(BN K c E).g1=(BZ c E).g1/\(BN K c E).g2=(BZ c E).g2/\((BZ c E).g0≠0->(BN K c E).o2=true):=by
 unfold BN;generalize BZ c E=d;have D:(EE d).g0=d.g0/\(EE d).g1=d.g1/\(EE d).g2=d.g2/\(d.g0≠0->(EE d).o2=true):=by
  unfold EE;split
  ·exact⟨rfl,rfl,rfl,λ_=>rfl⟩
  ·rename_i h;exact⟨rfl,rfl,rfl,λe=>absurd (.inr e) h⟩
 have I:∀d:Cv,(EQ K d).g0=d.g0/\(EQ K d).g1=d.g1/\(EQ K d).g2=d.g2/\(EQ K d).o2=d.o2:=λd=>by
  unfold EQ;split
  ·exact⟨rfl,rfl,rfl,rfl⟩
  ·exact⟨rfl,rfl,rfl,rfl⟩
 have G:=I (Cp (EE d));exact⟨G.1.trans D.1,G.2.1.trans D.2.1,G.2.2.1.trans D.2.2.1,λe=>G.2.2.2.trans (D.2.2.2 e)⟩
theorem Q7j {c:Cv} {E:List Evn} (D:∀e∈E,e.aP<=6) (h:Gg c):Gg (BN K c E):=by
 have g:=Z76 K c E;have f:=Q5x E (HE c) D;unfold Gg;rw[g.1,g.2.1,g.2.2.1];unfold BZ;rw[f.1,f.2.1,f.2.2];exact h
theorem cm0:Cm Bb:=⟨λh=>(by cases h),λ_=>rfl,rfl⟩
def ok1 (r:Nat) (a b t:Int):Bool:=bif decide (0<=a)then decide (a*r+b<=t)else bif Nat.beq r 1 then decide (a+5*max (b-t) 0<=0)else decide (a*(r-1)+b<=t)
end Go.Bm
namespace Go.Bm
open Classical
def sT (K:Kf) (t:Trk):Kf:=⟨K.x,K.pa,K.pb,K.pc,K.bF,K.lag,K.aA,K.closed,K.p,K.len,K.set,t⟩
def Qx7:List Pce->Int->Pt->Pt
 |[],_,d=>d
 |c::l,u,d=>if u>c.at_+c.aR then Qx7 l u d else if c.bC≠0\/u=c.at_+c.aR then c.aT else c.was
def Z31 (t:Trk) (u:Int):Pt:=Qx7 t.aE (clT t u) t.aT
def Qr6 (K:Kf) (c:Cv):Bool:=EY c&& !decide (Zdf K.t (AI c))
def Qv0 (K:Kf) (c:Cv) (to:Int):Trk:=Ez K.p K.x (Z31 K.t (AI c)) (A4 K c) to
def zM (c:Cv):Cv:={c with m0:=0,m1:=0,m2:=0,m3:=0,m4:=0,m5:=0}
def Zzv (K:Kf) (c:Cv) (n:Int):Cv:={c with g0:=gA ((Lu (I n::Ad K c)).getD []) 61,g1:=gA ((Lu (I n::Ad K c)).getD []) 62,g2:=gA ((Lu (I n::Ad K c)).getD []) 63}
def Z35 (K:Kf) (c:Cv):Cv:={c with aH:=bA ((Q3 (Ad K c)).getD []) 77}
def Zx5 (K:Kf) (c:Cv) (s:Int):Int:=gA ((Zwc (I s::Ad K c)).getD []) 0
end Go.Bm
namespace Go.Bm
def Z6x (K:Kf) (c:Cv) (n:Int):Bool:=(E7 K c).isSome&&decide (0<n)&&decide (c.way=0)&& !c.on&&decide (c.aI=0)&&c.o2&&decide ((vF K c).aX=0)&&Qr6 K c
def Zgy (K:Kf) (c:Cv) (n:Int):Int:=mx (mx 0 (V (A4 K c-n))) (Zx5 K c (A4 K c))
def Z55 (K:Kf) (c:Cv) (n:Int):Kf×Cv:=if Z6x K c n=true then(sT K (Qv0 K c (Zgy K c n)),{zM c with o2:=false,way:=1,home:=A4 K c})else(K,c)
def evA (s:Kf×Cv) (k n:Int):Kf×Cv:=
 if k=13 then(s.1,Zzv s.1 (evC s.2 k n) n)else if k=12 then(s.1,Z35 s.1 (evC s.2 k n))else if k=7 then Z55 s.1 (evC s.2 k n) n else(s.1,evC s.2 k n)
end Go.Bm
namespace Go.Bm
open Classical
def QD (K:Kf) (c:Cv) (E:List Evn):Kf×Cv:=E.foldl (λs e=>evA s e.aP e.n) (K,HE c)
def tdC (c:Cv):Cv:={zM c with aL:=true,way:=if c.way=1 then 2 else 0,o2:=if c.way=1 then c.o2 else true}
def toC (K:Kf) (c:Cv):Int:=if c.way=2 then K.len else c.home
def Znj (K:Kf) (c:Cv):Kf×Cv:=
 if c.aM=true/\c.m0=V (K.t.length*256)then(if Qr6 K c=true then(sT K (Qv0 K c (toC K c)),tdC c)else(K,c))else(K,EG K c K.t.length)
def Zv1 (c:Cv):Int:=if c.way=2 then 5 else 4
def Mr (K:Kf) (c:Cv):Int×Kf×Cv:=if(BJ K c).1≠0 then((BJ K c).1,K,(BJ K c).2)else if c.way≠0 then(Zv1 c,Znj K c)else(0,K,c)
def Qgs (K:Kf) (c:Cv) (s:Int):List Int×Cv:=if c.way=0 then B2 K c s else([],c)
def Qy9 (K:Kf) (c:Cv) (frm:Int):Rw:=if c.aL=true then []else Jl K frm (AI c)
def FP (K:Kf) (c:Cv) (E:List Evn):Kf×Cv:=((QD K c E).1,Kj (EQ (QD K c E).1 (Cp (EE (QD K c E).2))))
def stA (K:Kf) (c:Cv) (E:List Evn):Int×Kf×Cv:=
 if(Mr (FP K c E).1 (FP K c E).2).1=0 then((Dv (FP K c E).1 (Mr (FP K c E).1 (FP K c E).2).2.2).1,(FP K c E).1,(Dv (FP K c E).1 (Mr (FP K c E).1 (FP K c E).2).2.2).2)else Mr (FP K c E).1 (FP K c E).2
def G3 (K:Kf) (c:Cv) (E:List Evn):Kf×Cv:=((stA K c E).2.1,(Qgs (stA K c E).2.1 (stA K c E).2.2 (A4 (stA K c E).2.1 (stA K c E).2.2)).2)
def tkA (K:Kf) (c:Cv) (E:List Evn):List AC:=
 Ne (Qy9 (stA K c E).2.1 (stA K c E).2.2 (AI (QD K c E).2)) ((Qgs (stA K c E).2.1 (stA K c E).2.2 (A4 (stA K c E).2.1 (stA K c E).2.2)).1.map Aq) (stA K c E).1 (A4 (stA K c E).2.1 (stA K c E).2.2) (Ld (stA K c E).2.1 (stA K c E).2.2) (stA K c E).2.2.s3 (stA K c E).2.2.g1
end Go.Bm
namespace Go.Bm
end Go.Bm
namespace Go.Bm
open Classical
end Go.Bm
namespace Go.Bm
end Go.Bm
namespace Go.Bm
open Classical
end Go.Bm
namespace Go.Bm
def O0 (w v:Pt) (u:Int):Rw:=
 (bif v.x !=w.x then [[I u,I 0,I (V (v.x-w.x))]]else [])++((bif v.y !=w.y then [[I u,I 1,I (V (v.y-w.y))]]else [])++(bif v.z !=w.z then [[I u,I 2,I (V (v.z-w.z))]]else []))
def Dr (M:Int->Pt) (f:Int):Nat->Rw
 |0=>[]
 |n+1=>Dr M f n++O0 (M (f+n)) (M (f+n+1)) (f+n+1)
theorem Zzx (w v:Pt) (u:Int):(O0 w v u).length<=3:=by
 unfold O0;cases(v.x !=w.x)<;>cases(v.y !=w.y)<;>cases(v.z !=w.z)<;>simp
theorem Z1 (M:Int->Pt) (f:Int):∀n:Nat,(Dr M f n).length<=3*n
 |0=>by simp[Dr]
 |n+1=>by
  have D:=Z1 M f n;have G:=Zzx (M (f+n)) (M (f+n+1)) (f+n+1);simp only[Dr,ap];omega
theorem Q4v (M:Int->Pt) (f:Int) (n:Nat):∀m:Nat,Dr M f (n+m)=Dr M f n++Dr M (f+n) m
 |0=>by simp[Dr]
 |m+1=>by
  have e:f+((n+m:Nat):Int)=f+n+m:=by omega
  show Dr M f (n+m)++O0 (M (f+((n+m:Nat):Int))) (M (f+((n+m:Nat):Int)+1)) (f+((n+m:Nat):Int)+1)=_;rw[Q4v M f n m,e];simp only[Dr,fa]
def clp (t:Trk) (u:Int):Int:=mx 0 (mn u t.length)
theorem Qxi (D:0<=t.length) (u:Int):0<=clp t u/\clp t u<=t.length:=by
 unfold clp mx mn
 (repeat' split)<;>omega
theorem QK (D:0<=t.length) {u v:Int} (h:u<=v):clp t u<=clp t v/\clp t v-clp t u<=v-u:=by
 unfold clp mx mn
 (repeat' split)<;>omega
def EZ (M:Int->Pt) (t:Trk) (a b:Int):Rw:=Dr M (clp t a) (clp t b-clp t a).toNat
theorem Qcm {M:Int->Pt} (D:0<=t.length) {a b c:Int} (G:a<=b) (I:b<=c):EZ M t a c=EZ M t a b++EZ M t b c:=by
 have m1:=QK D G;have m2:=QK D I;unfold EZ;have e:(clp t c-clp t a).toNat=(clp t b-clp t a).toNat+(clp t c-clp t b).toNat:=by omega
 rw[e,Q4v];have e2:clp t a+((clp t b-clp t a).toNat:Int)=clp t b:=by omega
 rw[e2]
theorem Zl0 {M:Int->Pt} (D:0<=t.length) {a b:Int} (h:a<=b):((EZ M t a b).length:Int)<=3*(b-a):=by
 have m:=QK D h;have l:=Z1 M (clp t a) (clp t b-clp t a).toNat;unfold EZ;omega
theorem Z3t {P:Int->Pt} {x:Ax3} (U:∀u,M (pxt p x t [I u])=some (ptR (P u))) (T:0<=t.length/\t.length<=900000000000000) (a b:Int) (Y:b-a<=1000000000000):
  R7 M (Am (Rb M)) (pxt p x t [I a,I b])=some [.vC kPt (EZ P t a b)]:=by
 rw[Qzy];have hf:=Qxi T.1 a;have he:=Qxi T.1 b;have Y:clp t b-clp t a<=1000000000000:=by
  by_cases h:a<=b
  ·have:=QK T.1 h;omega
  ·have:=QK (u:=b) (v:=a) T.1 (by omega);omega
 unfold EZ;unfold clp at*;generalize mx 0 (mn a t.length)=f at*;generalize mx 0 (mn b t.length)=e at*;refine eB (U f) ?_;have key:Out (λo=>o=(1,[.vC kPt (Dr P f (e-f).toNat)])) (Am (Rb M) (.vC kPt (Dr P f 0)::I e::I (f+((0:Nat):Int))::pxt p x t [I (P (f+((0:Nat):Int))).x,I (P (f+((0:Nat):Int))).y,I (P (f+((0:Nat):Int))).z])):=by
  refine C1 (λn:Nat=> .vC kPt (Dr P f n)::I e::I (f+n)::pxt p x t [I (P (f+n)).x,I (P (f+n)).y,I (P (f+n)).z]) (λn=>n<=(e-f).toNat) (λn=>(e-f).toNat-n) _ ?_ 0 (by omega);intro n hn;rw[Zbh];try dsimp only[LO]
  refine .cond (λc=> ?_) (λc=> ?_)
  ·have c:=BC c;rw[Ae (x:=f+(n:Int)+1)];refine .bind (p:=λo=>o=_) ⟨_,U (f+(n:Int)+1),rfl⟩ λo e=> ?_;subst e;have e1:V (0+1)=1:=Ae;have e2:V (1+1)=2:=Ae;rw[e1,e2];have hl:=Z1 P f n;have N:Dr P f (n+1)=Dr P f n++O0 (P (f+n)) (P (f+n+1)) (f+n+1):=rfl;have hu:f+((n+1:Nat):Int)=f+n+1:=by omega
   unfold O0 at N;show Out _ (bif(P (f+(n:Int)+1)).x !=(P (f+n)).x then _ else _);generalize Dr P f n=v at*;have fin:∀{y:List AC},y= .vC kPt (Dr P f (n+1))::I e::I (f+n+1)::pxt p x t [I (P (f+n+1)).x,I (P (f+n+1)).y,I (P (f+n+1)).z]->Out (λo:Nat×List AC=>(o.1=0/\∃S:Nat,o.2= .vC kPt (Dr P f S)::I e::I (f+S)::pxt p x t [I (P (f+S)).x,I (P (f+S)).y,I (P (f+S)).z]/\S<=(e-f).toNat/\(e-f).toNat-S<(e-f).toNat-n)\/(o.1≠0/\o=(1,[.vC kPt (Dr P f (e-f).toNat)]))) (some (0,y)):=λhy=>by
    subst hy;exact .some (.inl ⟨rfl,n+1,by rw[hu],by omega,by omega⟩)
   have L:∀{y:Rw},y.length<=v.length+3->(y.length*24).ble 140737488355328=true:=λh=>Cg (by omega);generalize Dr P f (n+1)=z at*;generalize P (f+(n:Int)+1)=q at*;generalize P (f+(n:Int))=w at*;refine .cond (λO=> ?_) λO=> ?_
   ·refine .cond (λ_=> ?_) λc=>by rw[L (by simp)]at c;cases c
    refine .cond (λG=> ?_) λG=> ?_
    ·have G:(q.y !=w.y)=true:=G;refine .cond (λ_=> ?_) λc=>by rw[L (by simp)]at c;cases c
     refine .cond (λD=> ?_) λD=> ?_
     ·have D:(q.z !=w.z)=true:=D;refine .cond (λ_=>fin ?_) λc=>by rw[L (by simp)]at c;cases c
      rw[N,O,G,D];simp[ptR,gA,nth,Af]
     ·have D:(q.z !=w.z)=false:=D;refine fin ?_;rw[N,O,G,D];simp[ptR,gA,nth,Af]
    ·have G:(q.y !=w.y)=false:=G;refine .cond (λD=> ?_) λD=> ?_
     ·have D:(q.z !=w.z)=true:=D;refine .cond (λ_=>fin ?_) λc=>by rw[L (by simp)]at c;cases c
      rw[N,O,G,D];simp[ptR,gA,nth,Af]
     ·have D:(q.z !=w.z)=false:=D;refine fin ?_;rw[N,O,G,D];simp[ptR,gA,nth,Af]
   ·refine .cond (λG=> ?_) λG=> ?_
    ·have G:(q.y !=w.y)=true:=G;refine .cond (λ_=> ?_) λc=>by rw[L (by simp)]at c;cases c
     refine .cond (λD=> ?_) λD=> ?_
     ·have D:(q.z !=w.z)=true:=D;refine .cond (λ_=>fin ?_) λc=>by rw[L (by simp)]at c;cases c
      rw[N,O,G,D];simp[ptR,gA,nth,Af]
     ·have D:(q.z !=w.z)=false:=D;refine fin ?_;rw[N,O,G,D];simp[ptR,gA,nth,Af]
    ·have G:(q.y !=w.y)=false:=G;refine .cond (λD=> ?_) λD=> ?_
     ·have D:(q.z !=w.z)=true:=D;refine .cond (λ_=>fin ?_) λc=>by rw[L (by simp)]at c;cases c
      rw[N,O,G,D];simp[ptR,gA,nth,Af]
     ·have D:(q.z !=w.z)=false:=D;refine fin ?_;rw[N,O,G,D];simp[ptR,gA,nth,Af]
  ·have c:=BB c;have e1:n=(e-f).toNat:=by omega
   rw[<-e1];exact .some (.inr ⟨by simp,rfl⟩)
 obtain⟨o,X,rfl⟩:=key;rw[show f+((0:Nat):Int)=f by omega]at X;exact eB X rfl
theorem Z8a {x:Ax3} (h:Fix p x t) (a b:Int) (D:b-a<=1000000000000):JL (pxt p x t [I a,I b])=some [.vC kPt (EZ (FI p x t) t a b)]:=
 Z3t (Sp h) h.t.q.len a b D
theorem Z30 (h:KOK K) {a b:Int} (D:b-a<=1000000000000):Jl K a b=EZ (FI K.p K.x K.t) K.t a b:=by
 unfold Jl;rw[Z8a h.f a b D];rfl
end Go.Bm
