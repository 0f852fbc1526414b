/- laid together -/
import Derived.Test.YtnnpdlgenmnekaaGreatDoorPrPe
import Derived.Test.YtnnpdlgenmnekaaGreatDoorPrLa
import Derived.Test.YtnnpdlgenmnekaaGreatDoorPrPf
import Derived.Test.YtnnpdlgenmnekaaGreatDoorMx3
import Derived.Test.YtnnpdlgenmnekaaGreatDoorMy1
set_option linter.unusedVariables false
set_option linter.unusedSimpArgs false
set_option maxRecDepth 100000
open Go.IntKind (wrap)
variable {K:Go.Bm.Kf} {i L:Nat} {a k b v u r d:Int} {p:Go.Bm.Pth} {t:Go.Bm.Trk} {M Z W S P O H:Go.Bm.Fn} {l T:Go.Bm.Rw} {q:Go.Bm.Pt} {N:Go.Bm.Lp} {g:Go.Bm.Sgm} {o:List Go.Bm.AC}
namespace Go.Bm
open Classical
theorem Qdt {MK U V MS S T:Fn} {aA:List Itm} (X:∀k:Int,S [I k]=some [B (decide (1<=k/\k<=6))]) (Y:∀it,T (Ah it)=some [I (if Ce it then 1 else 0)]) (hl:aA.length<=1000000):
  ∀(k i:Nat) (last:Int),i+k=aA.length->(last= -1\/(0<=last/\last<i))->
  (Am (Qx MK U V MS S T) [.vC Ag [], .vC AD [], .vC Ai (aA.map Ah),I last, .vC Ai (aA.map Ah),I aA.length,I i,I 0,I 0,I 0,B false,I 0,I 0,I 0]=some (1,[.vC Ag [], .vC AD [],I (Gy aA k i last),I 0,I 0,I 0,B false,I 0,I 0,I 0])/\Gy aA k i last≠0)\/
  (Am (Qx MK U V MS S T) [.vC Ag [], .vC AD [], .vC Ai (aA.map Ah),I last, .vC Ai (aA.map Ah),I aA.length,I i,I 0,I 0,I 0,B false,I 0,I 0,I 0]=some (2,[.vC Ag [], .vC AD [], .vC Ai (aA.map Ah),I 0,I 0,I 0,B false,I 0,I 0,I 0])/\Gy aA k i last=0)
 |0,i,last,hi,_=>by
  right;refine⟨AQ ?_ (by simp),rfl⟩;rw[Q6n,A1 (by omega)]
 |k+1,i,last,hi,a0=>by
  have a1:i<aA.length:=by omega
  have hr:=E_ a1;have hw:=Y (vE aA i);have hm:=X (vE aA i).aP;have a2:(0:Int)<=(i:Int)/\(i:Int)<(aA.length:Int):=by omega
  have D:Qx MK U V MS S T [.vC Ag [], .vC AD [], .vC Ai (aA.map Ah),I last, .vC Ai (aA.map Ah),I aA.length,I i,I 0,I 0,I 0,B false,I 0,I 0,I 0]=
    if Ce (vE aA i)then some (1,[.vC Ag [], .vC AD [],I 1,I 0,I 0,I 0,B false,I 0,I 0,I 0])else if AF (vE aA i)then(if 0<=last/\(vE aA last.toNat).to≠(vE aA i).fr then some (1,[.vC Ag [], .vC AD [],I 13,I 0,I 0,I 0,B false,I 0,I 0,I 0])else some (0,[.vC Ag [], .vC AD [], .vC Ai (aA.map Ah),I i, .vC Ai (aA.map Ah),I aA.length,I (i+1:Nat),I 0,I 0,I 0,B false,I 0,I 0,I 0]))
    else some (0,[.vC Ag [], .vC AD [], .vC Ai (aA.map Ah),I last, .vC Ai (aA.map Ah),I aA.length,I (i+1:Nat),I 0,I 0,I 0,B false,I 0,I 0,I 0]):=by
   rw[Q6n];simp only[Ah]at hw;simp only[go_sem,ag,al,hr,hw,hm,aa a2];rw[aa,Ae];by_cases N:Ce (vE aA i)
   ·simp only[aa N];rw[aa]
   simp only[ab N];rw[ab (by simp)];by_cases G:AF (vE aA i)
   ·rw[ab (λh=>h G),aa G];rcases a0 with rfl|⟨h1,h2⟩
    ·rw[ab (show¬(-1:Int)>=0 by omega),ab (λh=>by omega)];rfl
    ·obtain⟨L,rfl⟩:=bn h1;have hL:L<aA.length:=by omega
     have O:(0:Int)<=(L:Int)/\(L:Int)<(aA.length:Int):=by omega
     have a3:=E_ hL;simp only[al,a3,go_sem,aa O];rw[aa];by_cases M:(vE aA L).to=(vE aA i).fr
     ·have c4:=D0.1 M;rw[ab (λh=>h ⟨c4.1,c4.2.1,c4.2.2,trivial⟩),ab (λh=>h.2 M)];rfl
     ·rw[aa (λh=>M (D0.2 ⟨h.1,h.2.1,h.2.2.1⟩)),aa ⟨h1,M⟩]
   ·rw[aa (show¬(1<=(vE aA i).aP/\(vE aA i).aP<=6)from G),ab G];rfl
  unfold Gy;by_cases N:Ce (vE aA i)
  ·rw[aa N]at D⊢;exact .inl ⟨AQ D (by simp),by simp⟩
  ·rw[ab N]at D⊢;by_cases G:AF (vE aA i)
   ·rw[aa G]at D⊢;by_cases M:0<=last/\(vE aA last.toNat).to≠(vE aA i).fr
    ·rw[aa M]at D⊢;exact .inl ⟨AQ D (by simp),by simp⟩
    ·rw[ab M]at D⊢;rw[A5 D];exact Qdt X Y hl k (i+1) i (by omega) (.inr (by omega))
   ·rw[ab G]at D⊢;rw[A5 D];exact Qdt X Y hl k (i+1) last (by omega) (by omega)
noncomputable def Ge (aA:List Itm):Nat->Int
 |0=> -1
 |i+1=>if AF (vE aA i)then i else Ge aA i
theorem Qwi (aA:List Itm):∀i,Ge aA i= -1\/∃L:Nat,Ge aA i=L/\L<i/\AF (vE aA L)/\∀j,L<j->j<i-> ¬AF (vE aA j)
 |0=> .inl rfl
 |i+1=>by
  unfold Ge;by_cases c:AF (vE aA i)
  ·rw[aa c];exact .inr ⟨i,rfl,by omega,c,λj D G=>by omega⟩
  ·rw[ab c];rcases Qwi aA i with h|⟨L,D,G,I,M⟩
   ·exact .inl h
   ·refine .inr ⟨L,D,by omega,I,λj g1 g2=> ?_⟩;by_cases e:j=i
    ·rw[e];exact c
    ·exact M j g1 (by omega)
theorem Qv9 (aA:List Itm):∀i,(Ay aA i).frm=if 0<=Ge aA i/\0<=B4 aA (Ge aA i).toNat then Ge aA i else-1
 |0=>by rw[Ay,Ge,ab]
 |i+1=>by
  rw[Ay,Ge];unfold F1;by_cases c:AF (vE aA i)
  ·rw[aa c,aa c];simp only[al];by_cases D:0<=B4 aA i
   ·rw[aa D,aa ⟨by omega,D⟩]
   ·rw[ab D,ab (λh=>D h.2)]
  ·rw[ab c,ab c];exact Qv9 aA i
theorem Zqo {aA:List Itm} (I:L<i) (U:i<aA.length) (M:AF (vE aA i)) (D:∀j,L<j->j<i-> ¬AF (vE aA j)) (N:0<=B4 aA L):C7 aA L=i:=by
 have V:=T7 N;rcases ZO aA L with h|⟨-,-,k,X,O,Y,G,S⟩
 ·omega
 ·have T:C7 aA L=k:=by omega
  rw[T];rcases Nat.lt_trichotomy k i with h|h|h
  ·exact absurd ⟨by have:=G.1;omega,by have:=G.1;omega⟩ (D k O h)
  ·exact h
  ·have:=S i I h;have:=M.2;omega
noncomputable def CT (aA:List Itm):Nat->Int
 |0=>0
 |i+1=>if AF (vE aA i)then(Fh aA i (Ay aA i) (CT aA i)).2 else CT aA i
theorem Quo (aA:List Itm):∀i,(Ay aA i).bK=false->(Ay aA i).frm= -1
 |0,_=>by rw[Ay]
 |i+1,h=>by
  rw[Ay]at h⊢;unfold F1 at h⊢;by_cases c:AF (vE aA i)
  ·rw[aa c]at h;cases h
  ·rw[ab c]at h⊢;exact Quo aA i h
noncomputable abbrev pbR (aA:List Itm) (i:Nat):List AC:=
 [.vC Ag ((Ay aA i).aF.map Aw), .vC AD ((Ay aA i).aD.map At), .vC Ai (aA.map Ah),I (Ge aA i), .vC Ai (aA.map Ah),I aA.length,I i,I (Ay aA i).aQ.x,I (Ay aA i).aQ.y,I (Ay aA i).aQ.z,B (Ay aA i).bK,I (Ay aA i).len,I (Ay aA i).aS,I (CT aA i)]
theorem Zgm {aA:List Itm} (hi:i<aA.length) (hlen:aA.length<=15) (a3:(Ay aA i).aD.length=i)
  (hM:∀k:Int,P [I k]=some [B (decide (1<=k/\k<=6))]) (hS:∀L:Nat,L<aA.length->S [.vC Ai (aA.map Ah),I L]=some [B (decide (0<=B4 aA L))]) (hN:∀L:Nat,L<aA.length->W [.vC Ai (aA.map Ah),I L]=some [I (C7 aA L)])
  (hV : AF (vE aA i) -> Z [.vC Ag ((Ay aA i).aF.map Aw), .vC AD ((Ay aA i).aD.map At), .vC Ai (aA.map Ah), I i, I (Ay aA i).frm, I (Ay aA i).aQ.x, I (Ay aA i).aQ.y, I (Ay aA i).aQ.z, B (Ay aA i).bK, I (Ay aA i).len, I (Ay aA i).aS, I (CT aA i)] =
   some [.vC Ag ((Fh aA i (Ay aA i) (CT aA i)).1.1.map Aw), .vC AD ((Ay aA i).aD.map At),B true,I (if(Ay aA i).bK=true then(Ay aA i).aQ else Ax (vE aA i).fr).x,I (if(Ay aA i).bK=true then(Ay aA i).aQ else Ax (vE aA i).fr).y,I (if(Ay aA i).bK=true then(Ay aA i).aQ else Ax (vE aA i).fr).z,B true,
    I (Fh aA i (Ay aA i) (CT aA i)).1.2.1,I (Ay aA i).aS,I (Fh aA i (Ay aA i) (CT aA i)).2])
  (hK : ∀ {aF : Rw} {st : Pt} {b : Bool} {len sp T : Int}, M [.vC Ag aF, .vC AD ((Ay aA i).aD.map At), .vC Ai (aA.map Ah), I i, I st.x, I st.y, I st.z, B b, I len, I sp, I T] =
   some [.vC Ag aF, .vC AD (((Ay aA i).aD++[(⟨len,JU aA i,i⟩:Mrk)]).map At),I st.x,I st.y,I st.z,B b,I len,I sp,I T]):
  P0 M Z W S P O N (pbR aA i)=some (0,pbR aA (i+1)):=by
 have hr:=E_ hi;have a0:(0:Int)<=(i:Int)/\(i:Int)<(aA.length:Int):=by omega
 have hw:V ((i:Int)+1)=((i+1:Nat):Int):=by rw[Ae];omega
 have hf:=Qv9 aA i;have X:=Qwi aA i;have a1:=Zc6 aA i (Ay aA i) (CT aA i);have e1:Ge aA (i+1)=if AF (vE aA i)then(i:Int)else Ge aA i:=rfl;have e2:CT aA (i+1)=if AF (vE aA i)then(Fh aA i (Ay aA i) (CT aA i)).2 else CT aA i:=rfl;have e3:Ay aA (i+1)=F1 aA i (Ay aA i):=rfl;unfold pbR;rw[e1,e2,e3];generalize Ay aA i=s at*;generalize Ge aA i=last at*;generalize a4:CT aA i=T at*;unfold F1;rw[Q9z];by_cases G:AF (vE aA i)
 ·have h8: ¬(vE aA i).aP=8:=λh=>by have:=G.2;omega
  have hV:=hV G;have D:JU aA i=U5 aA i:=aa G;rw[aa G,aa G,aa G];rw[a1]at hV;have Y:P [I (vE aA i).aP]=some [B true]:=by rw[hM,ai (show 1<=(vE aA i).aP/\(vE aA i).aP<=6 from G)]
  simp only[go_sem,ag,al,hr,aa a0,Y];rw[aa,ab h8];have U:∀{x:Option (Nat×List AC)} {frm:Int},s.frm=frm->(Z [.vC Ag (s.aF.map Aw), .vC AD (s.aD.map At), .vC Ai (aA.map Ah),I i,I frm,I s.aQ.x,I s.aQ.y,I s.aQ.z,B s.bK,I s.len,I s.aS,I T])=
    some [.vC Ag ((FC aA i s).1.map Aw), .vC AD (s.aD.map At),B true,I (if s.bK=true then s.aQ else Ax (vE aA i).fr).x,I (if s.bK=true then s.aQ else Ax (vE aA i).fr).y,I (if s.bK=true then s.aQ else Ax (vE aA i).fr).z,B true,I (FC aA i s).2.1,I s.aS,I (Fh aA i s T).2]:=by
   intro x frm h;rw[<-h];exact hV
  rcases X with X|⟨L,h1,h2,h3,h4⟩
  ·rw[X];rw[X,ab]at hf;rw[ab (show¬(-1:Int)>=0 by omega)];have hv:=U (x:=none) hf;simp only[hv,go_sem,hK,hw,D];simp
  ·rw[h1]at hf⊢;rw[al]at hf;have hs:=hS L (by omega);have hn:=hN L (by omega);rw[aa (show(L:Int)>=0 by omega)];by_cases c:0<=B4 aA L
   ·have a2:=Zqo h2 hi G h4 c;rw[aa ⟨by omega,c⟩]at hf;rw[a2]at hn;rw[ai c]at hs;have hv:=U (x:=none) hf;simp only[hs,hn,go_sem];simp only[hv,go_sem,hK,hw,D];simp
   ·rw[ab (λh=>c h.2)]at hf;rw[aj c]at hs;have hv:=U (x:=none) hf;simp only[hs,go_sem];simp only[hv,go_sem,hK,hw,D];simp
 ·have D:JU aA i=Tx (vE aA i):=ab G;rw[ab G,ab G,ab G];have Y:P [I (vE aA i).aP]=some [B false]:=by rw[hM,aj (show¬(1<=(vE aA i).aP/\(vE aA i).aP<=6)from G)]
  unfold Rh;simp only[go_sem,ag,al,hr,aa a0,Y,hK,hw,D];rw[aa];by_cases h8:(vE aA i).aP=8
  ·by_cases h3:(vE aA i).n=3
   ·simp[h8,h3]
   ·by_cases h4:(vE aA i).n=4
    ·simp[h8,h4]
    ·simp[h8,h3,h4]
  ·simp[h8]
theorem Zgb {it:Itm} (hf:it.aP=1\/1<=it.aZ/\it.aZ<=60000000) (G:0<=a/\a<=30000):JX (Ah it++[I a])=some [I (H0 it a)]:=by
 by_cases D:it.aP=1
 ·unfold JX H0;generalize Bt=M;have h:=Qzr (AH:=M) it.aP it.block it.fr.x it.fr.y it.fr.z it.to.x it.to.y it.to.z it.aG it.ce.x it.ce.y it.ce.z it.dir it.bI it.aZ it.perRev it.side it.radius it.bJ it.n it.aS it.on a;rw[aa D];refine db h ?_;rw[BG (by simp[D])]
 ·exact Zhg (by omega) G
theorem Z7r {aF:List Sgm} {q g D at_:Pt} (G:Fb D aF=at_) (L:bd 67108864 at_) (M:bd 67108864 q) (N:aF.length+1<=1048577) (hlen:0<=u/\u<=4000000000000000000):
  Px [.vC Ag (aF.map Aw), .vC AD l,I q.x,I q.y,I q.z,I g.x,I g.y,I g.z,I a,I k,I b,I v,I D.x,I D.y,I D.z,B true,I u,I r,I d]=
   some [.vC Ag ((Ba k b v (aF,u,at_) q).1.map Aw), .vC AD l,I D.x,I D.y,I D.z,B true,I (Ba k b v (aF,u,at_) q).2.1,I r,I d]:=
 Zk3 G (Qd2 L M) (Im L M) N hlen
theorem Zep {aA:List Itm} (hlen:aA.length<=15) (D:∀j<aA.length,¬Ce (vE aA j)) {i:Nat} (M:i<aA.length):
  P0 Jg Kz Fa Hk Dz Jo Rj (pbR aA i)=some (0,pbR aA (i+1)):=by
 have hb:=Oo D i (by omega);have S:=Tg D i (by omega);have G:∀k<aA.length,AF (vE aA k)->drawn (vE aA k):=λk V N=>(LC (D k V) N).1;have I:=LC (D i M);refine Zgm M hlen hb.aD Rv (λL T=>Qs6 (by omega) T) (λL T=>Qdb (by omega) T) (λN=> ?_) (Zu6 (by omega) M (by have:=hb.aD;omega));have O:=(I N).1;exact Ycd M hlen O.1 hb S (W5 O hb.frm G) (λX=>by have U:=(I N).2;rcases X with h|h<;>omega) (Quo aA i) (UN _) (Tw O.1.2.1 O.1.2.2.1) (Qxa _) (Zgb (I N).2 hb.aS)
  (Z17 (by omega) M O hb.frm G) (λY U h3 h4 h5=>Z7r Y U h3 h4 h5) Ztr
theorem Zd8 {aA:List Itm} (hlen:aA.length<=15) (D:∀j<aA.length,¬Ce (vE aA j)):∀(k i:Nat),i+k=aA.length->
  Am (P0 Jg Kz Fa Hk Dz Jo Rj) (pbR aA i)=
   some (2,[.vC Ag ((Bb aA).aF.map Aw), .vC AD ((Bb aA).aD.map At),I (Bb aA).aQ.x,I (Bb aA).aQ.y,I (Bb aA).aQ.z,B (Ay aA aA.length).bK,I (Ay aA aA.length).len,I (Ay aA aA.length).aS,I (CT aA aA.length)])
 |0,i,G=>by
  obtain rfl:i=aA.length:=by omega
  refine AQ ?_ (by simp);unfold pbR Bb;rw[Q9z,A1 (by omega)]
 |k+1,i,G=>by
  rw[A5 (Zep hlen D (by omega))];exact Zd8 hlen D k (i+1) (by omega)
def J2 (aA:List Itm) (o:List AC):Prop:=
 if C1 aA=0 then o=[.vC Ag ((Bb aA).aF.map Aw), .vC AD ((Bb aA).aD.map At),I 0,I (Bb aA).aQ.x,I (Bb aA).aQ.y,I (Bb aA).aQ.z,B (Ay aA aA.length).bK,I (Ay aA aA.length).len,I (Ay aA aA.length).aS,I (CT aA aA.length)]
 else o=[.vC Ag [], .vC AD [],I (C1 aA),I 0,I 0,I 0,B false,I 0,I 0,I 0]
theorem Zva {N D:Lp} {aA:List Itm} (hlen:aA.length<=15)
  (U : (N [.vC Ag [], .vC AD [], .vC Ai (aA.map Ah), I (-1), .vC Ai (aA.map Ah), I aA.length, I 0, I 0, I 0, I 0, B false, I 0, I 0, I 0] = some (1, [.vC Ag [], .vC AD [], I (C1 aA), I 0, I 0, I 0, B false, I 0, I 0, I 0]) /\ C1 aA ≠ 0) \/
   (N [.vC Ag [], .vC AD [], .vC Ai (aA.map Ah),I (-1), .vC Ai (aA.map Ah),I aA.length,I 0,I 0,I 0,I 0,B false,I 0,I 0,I 0]=some (2,[.vC Ag [], .vC AD [], .vC Ai (aA.map Ah),I 0,I 0,I 0,B false,I 0,I 0,I 0])/\C1 aA=0))
  (T : C1 aA = 0 -> D [.vC Ag [], .vC AD [], .vC Ai (aA.map Ah), I (-1), .vC Ai (aA.map Ah), I aA.length, I 0, I 0, I 0, I 0, B false, I 0, I 0, I 0] =
   some (2,[.vC Ag ((Bb aA).aF.map Aw), .vC AD ((Bb aA).aD.map At),I (Bb aA).aQ.x,I (Bb aA).aQ.y,I (Bb aA).aQ.z,B (Ay aA aA.length).bK,I (Ay aA aA.length).len,I (Ay aA aA.length).aS,I (CT aA aA.length)])):
  ∃o,Qlh M Z W S P O N D [.vC Ai (aA.map Ah)]=some o/\J2 aA o:=by
 rw[Zup];have G: ¬((aA.length:Int)>20000):=by omega
 rcases U with⟨h,L⟩|⟨h,L⟩
 ·simp only[go_sem,ag,h,ab G];exact⟨_,rfl,by unfold J2;rw[ab L]⟩
 ·have g:=T L;simp only[go_sem,ag,h,ab G,g];rw[ab (by decide),ab (by decide)];exact⟨_,rfl,by unfold J2;rw[aa L]⟩
theorem Zee {aA:List Itm} (hlen:aA.length<=15):∃o,I3 [.vC Ai (aA.map Ah)]=some o/\J2 aA o:=by
 have D:C1 aA=Gy aA aA.length 0 (-1):=by unfold C1;rw[ab]
 refine Zva hlen ?_ λhe=>Zd8 hlen (PF he).2 aA.length 0 (by omega);rw[D];exact Qdt Rv Ybj (by omega) aA.length 0 (-1) (by omega) (.inl rfl)
theorem Zil {aA:List Itm} (h:∃o,M [.vC Ai (aA.map Ah)]=some o/\J2 aA o):
  Qis M [.vC Ai (aA.map Ah)]=if C1 aA=0 then some (Bk (Bb aA)++[I 0])else some [I 0,I 0,I 0, .vC Ag [], .vC AD [],I (C1 aA)]:=by
 obtain⟨o,G,D⟩:=h;rw[Zxn,G];unfold J2 at D;by_cases c:C1 aA=0
 ·rw[aa c]at D⊢;subst D;simp only[go_sem];rw[ab (by simp)];try rfl
 ·rw[ab c]at D⊢;subst D;simp only[go_sem];rw[aa c]
theorem Zu3 {aA:List Itm} (hlen:aA.length<=15):Ny [.vC Ai (aA.map Ah)]=if C1 aA=0 then some (Bk (Bb aA)++[I 0])else some [I 0,I 0,I 0, .vC Ag [], .vC AD [],I (C1 aA)]:=
 Zil (Zee hlen)
def KL (aA:List Itm):Nat->Option Nat
 |0=>none
 |i+1=>if(vE aA i).aP=10 then KL aA i else some i
noncomputable def KT (aA:List Itm):Int:=
 match KL aA aA.length with
 |some i=>if smI (vE aA i)/\(vE aA i).bJ≠0 then AW (Bb aA).aF-AB (A9 (vE aA i)) (Ax (vE aA i).to)else AW (Bb aA).aF
 |none=>AW (Bb aA).aF
theorem ZV {aA:List Itm} {i:Nat}:∀{n:Nat},KL aA n=some i->i<n/\(vE aA i).aP≠10/\∀j,i<j->j<n->(vE aA j).aP=10
 |0,h=>by cases h
 |n+1,h=>by
  unfold KL at h;split at h
  ·rename_i c;obtain⟨I,D,G⟩:=ZV h;refine⟨by omega,D,λj g1 g2=> ?_⟩;by_cases e:j=n
   ·rw[e];exact c
   ·exact G j g1 (by omega)
  ·rename_i c;cases h
   exact⟨by omega,c,λj g1 g2=>by omega⟩
theorem Zur {aA:List Itm} (h:(vE aA i).aP=10):(Ay aA (i+1)).len=(Ay aA i).len/\CT aA (i+1)=CT aA i:=by
 have D: ¬AF (vE aA i):=λg=>by have:=g.2;omega
 constructor
 ·rw[Ay];unfold F1;rw[ab D]
 ·rw[CT,ab D]
theorem Q21 {aA:List Itm} {i:Nat}:∀(k:Nat),(∀j,i<=j->j<i+k->(vE aA j).aP=10)->(Ay aA (i+k)).len=(Ay aA i).len/\CT aA (i+k)=CT aA i
 |0,_=>⟨rfl,rfl⟩
 |k+1,h=>by
  obtain⟨D,G⟩:=Q21 k λj g1 g2=>h j g1 (by omega);obtain⟨I,L⟩:=Zur (h (i+k) (by omega) (by omega));exact⟨I.trans D,L.trans G⟩
theorem Zm6 {aA:List Itm} (D:∀j<aA.length,¬Ce (vE aA j)):AW (Bb aA).aF=(Ay aA aA.length).len:=by
 have h:=Tg D aA.length (cm _);unfold Bb;by_cases hb:(Ay aA aA.length).bK=true
 ·exact(h.bK hb).2.2.2
 ·obtain⟨g1,g2,-⟩:=h.empty (by simpa using hb);simp only[g1,g2];rfl
theorem Zqg {it:Itm} (h:it.fr≠it.to):Ax it.to≠A9 it:=by
 intro g;unfold Ax A9 at g;injection g with g1 g2 D;exact h (D0.2 ⟨by omega,by omega,by omega⟩)
theorem Zou (it:Itm) (h:smI it) (aU aZ aX:Int) (s:(List Sgm×Int×Pt)×Int):
  (DU it aU aZ aX (DU it aU aZ aX s (A9 it)) (Ax it.to)).2=(DU it aU aZ aX (DU it aU aZ aX s (A9 it)) (Ax it.to)).1.2.1-AB (A9 it) (Ax it.to):=by
 have D:=Zqg h.2;have I:(DU it aU aZ aX s (A9 it)).2=(Ba aU aZ aX s.1 (A9 it)).2.1:=aa ⟨h,rfl⟩;have G:(Ba aU aZ aX s.1 (A9 it)).2.2=A9 it:=by
  unfold Ba;split
  ·rename_i c;exact c.symm
  ·rfl
 have L:(DU it aU aZ aX s (A9 it)).1=Ba aU aZ aX s.1 (A9 it):=rfl;generalize DU it aU aZ aX s (A9 it)=t at*;have M:(DU it aU aZ aX t (Ax it.to)).2=t.2:=ab λg=>D g.2;have N:(DU it aU aZ aX t (Ax it.to)).1=Ba aU aZ aX t.1 (Ax it.to):=rfl;rw[M,N,I,L];rw[<-G]at D⊢;rw[G];generalize Ba aU aZ aX s.1 (A9 it)=u at*;have O:Ba aU aZ aX u (Ax it.to)=(u.1++[⟨Ax it.to,AB u.2.2 (Ax it.to),aU,aZ,aX⟩],u.2.1+AB u.2.2 (Ax it.to),Ax it.to):=ab D;rw[O,G];simp only;omega
theorem Z6h {aA:List Itm} (M:KL aA aA.length=some i) (G:smI (vE aA i)):CT aA aA.length=(Ay aA aA.length).len-AB (A9 (vE aA i)) (Ax (vE aA i).to):=by
 obtain⟨O,-,I⟩:=ZV M;obtain⟨k,N⟩:∃k,aA.length=i+1+k:=⟨aA.length-(i+1),by omega⟩;have L:AF (vE aA i):=⟨by have:=G.1;omega,by have:=G.1;omega⟩;obtain⟨g1,g2⟩:=Q21 (aA:=aA) (i:=i+1) k λj e1 e2=>I j (by omega) (by omega);have D: ¬0<=B4 aA i:=by
  intro c;have S:=T7 c;rcases ZO aA i with h|⟨-,-,m,m1,m2,m3,m4,m5⟩
  ·omega
  ·have:=I m m2 m3;have:=m4.1;omega
 rw[N,g1,g2];have e1:CT aA (i+1)=(Fh aA i (Ay aA i) (CT aA i)).2:=aa L;have e2:(Ay aA (i+1)).len=(Fh aA i (Ay aA i) (CT aA i)).1.2.1:=by
  rw[Zc6,Ay];unfold F1;rw[aa L]
 rw[e1,e2];unfold Fh;have e3:CG aA i (Ay aA i).frm=Jl aA i (Ay aA i).frm++[A9 (vE aA i)]++[Ax (vE aA i).to]:=by
  unfold CG;rw[aa G];unfold Mq;rw[ab D];unfold Cj;rw[ab (by have:=G.1;omega)];rfl
 rw[e3,List.foldl_append,List.foldl_append,fc,List.foldl_nil,fc,List.foldl_nil];exact Zou _ G _ _ _ _
theorem Q5x {MS V:Fn} {aA:List Itm} {aF aD:Rw} {G:Pt} {b:Bool} {len N D:Int} (hl:aA.length<=1000) (X:∀it,MS (Ah it)=some [B (decide (smI it))]):
  ∀n:Nat,n<=aA.length->∃o:Nat×List AC,Am (PA MS V) [.vC Ag aF, .vC AD aD, .vC Ai (aA.map Ah),I ((n:Int)-1),I G.x,I G.y,I G.z,B b,I len,I N,I D]=some o/\
   match KL aA n with
   |some i=>o=(1,[I (if smI (vE aA i)/\(vE aA i).bJ≠0 then D else len)])
   |none=>o=(2,[.vC Ag aF, .vC AD aD,I G.x,I G.y,I G.z,B b,I len,I N,I D])
 |0,_=>by
  refine⟨_,AQ (o:=(2,_)) ?_ (by simp),rfl⟩;rw[Q9x,A1 (by omega)]
 |n+1,hn=>by
  have T:n<aA.length:=by omega
  have hr:=E_ T;have Y:=X (vE aA n);simp only[Ah]at Y;have U:(0:Int)<=(n:Int)/\(n:Int)<(aA.length:Int):=by omega
  have e:((n+1:Nat):Int)-1=n:=by omega
  have L:PA MS V [.vC Ag aF, .vC AD aD, .vC Ai (aA.map Ah),I n,I G.x,I G.y,I G.z,B b,I len,I N,I D]=
    if(vE aA n).aP=10 then some (0,[.vC Ag aF, .vC AD aD, .vC Ai (aA.map Ah),I ((n:Int)-1),I G.x,I G.y,I G.z,B b,I len,I N,I D])
    else some (1,[I (if smI (vE aA n)/\(vE aA n).bJ≠0 then D else len)]):=by
   rw[Q9x];simp only[go_sem,ag,al,hr,Y,aa U];rw[aa,Ae];by_cases M:(vE aA n).aP=10
   ·rw[aa M,aa M]
   ·rw[ab M,ab M];by_cases O:smI (vE aA n)
    ·rw[aa O];by_cases S:(vE aA n).bJ≠0
     ·rw[aa S,aa ⟨O,S⟩]
     ·rw[ab S,ab (λg=>S g.2)]
    ·rw[ab O,ab (λg=>O g.1)]
  rw[e];unfold KL;by_cases M:(vE aA n).aP=10
  ·rw[aa M]at L⊢;rw[A5 L];exact Q5x hl X n (by omega)
  ·rw[ab M]at L⊢;exact⟨_,AQ L (by simp),rfl⟩
theorem Zv8 {aA:List Itm} (hl:aA.length<=15) (hS:∀it,M (Ah it)=some [B (decide (smI it))]) (h:∃o,Z [.vC Ai (aA.map Ah)]=some o/\J2 aA o):
  Qln M Z (Am (PA M Z)) [.vC Ai (aA.map Ah)]=some [I (if C1 aA=0 then KT aA else 0)]:=by
 obtain⟨o,Y,L⟩:=h;unfold J2 at L;by_cases c:C1 aA=0
 ·rw[aa c]at L⊢;have D:=(PF c).2;have O:=Zm6 D;have S:=λi T hs=>Z6h (aA:=aA) (i:=i) T hs;have X:= @Q5x M Z aA ((Bb aA).aF.map Aw) ((Bb aA).aD.map At) (Bb aA).aQ (Ay aA aA.length).bK (Ay aA aA.length).len (Ay aA aA.length).aS (CT aA aA.length) (by omega) hS aA.length (by omega);obtain⟨r,r1,G⟩:=X;rw[Zak,Y];subst L;have hw:V ((aA.length:Int)-1)=(aA.length:Int)-1:=Ae;unfold KT;rw[O];generalize Am (PA M Z)=N at*;simp only[go_sem,ag,hw,r1];rw[ab (by simp)];cases T:KL aA aA.length with
  |none=>
   rw[T]at G;simp only at G;subst G;rfl
  |some i=>
   rw[T]at G;simp only at G;subst G;simp only[go_sem];by_cases U:smI (vE aA i)/\(vE aA i).bJ≠0
   ·rw[aa U,aa U,S i T U.1]
   ·rw[ab U,ab U]
 ·rw[ab c]at L⊢;subst L;rw[Zak,Y];simp only[go_sem];rw[aa c]
theorem Zqb {aA:List Itm} (D:aA.length<=15):NC [.vC Ai (aA.map Ah)]=some [I (if C1 aA=0 then KT aA else 0)]:=Zv8 D UN (Zee D)
def okU (s:Spk):Prop:=s.u.natAbs<=1000000/\s.w.natAbs<=1000000/\(0<=s.r/\s.r<=1000000)/\s.h.natAbs<=200000
theorem okU.s {s:Spk} (h:okU s):okS s:=⟨by have:=h.1;omega,by have:=h.2.1;omega,⟨h.2.2.1.1,by have:=h.2.2.1.2;omega⟩,by have:=h.2.2.2;omega⟩
theorem Zwo {a b:Spk} (D:okU a) (hb:okU b) {u w:Int} (G:u.natAbs<=100000000) (I:w.natAbs<=100000000):okU (HG a b u w):=by
 unfold HG;split
 ·exact⟨by simp,by simp,by simp,by simp⟩
 ·rename_i h;have L:=D.2.2;have M:=hb.2.2
  have N:0<=hf a.r b.r/\hf a.r b.r<=1000000:=by unfold hf;omega
  have O:(hf a.h b.h).natAbs<=200000:=by unfold hf;omega
  obtain⟨⟨-,S⟩,-,T⟩:=Zed G I (r:=hf a.r b.r) (by omega) h;exact⟨by simp only;omega,by simp only;omega,N,O⟩
theorem Zff {a b:Spk} (D:okU a) (hb:okU b) {dir:Int} (G:dir=1\/dir= -1) (bI:Bool):okU (EF a b dir bI):=
 Zwo D hb (OB D.s hb.s G bI).1 (OB D.s hb.s G bI).2
theorem XW {dir:Int} (G:dir=1\/dir= -1):∀(k:Nat) (bI:Bool) {a b:Spk},okU a->okU b->∀s∈DN dir k bI a b,okU s
 |0,_,a,b,_,hb,s,D=>by simp[DN]at D;subst D;exact hb
 |k+1,bI,a,b,I,hb,s,D=>by
  unfold DN at D;have L:=Zff I hb G bI;split at D
  ·simp at D;subst D;exact hb
  ·rcases bj.1 D with D|D
   ·exact XW G k false I L s D
   ·exact XW G k false L hb s D
theorem Z8o {n:Nat} (L:n<=300000000000):0<=Fz n/\Fz n<=1000000:=by
 obtain⟨r,-,D,G,-⟩:=Vk (n:=n) (by omega);have I:=T1 D G;rw[Th I];have:r<1000000:=by
  by_cases c:r<1000000
  ·exact c
  ·have:=dh (show 1000000<=r by omega) (show 1000000<=r by omega);omega
 split<;>omega
theorem Qkz {pl:Int} (h:bd i q):(plU pl q).natAbs<=i/\(plW pl q).natAbs<=i/\(plH pl q).natAbs<=i:=HY h
theorem Qqi {it:Itm} (D:bd 4200 it.ce) (G:bd 4200 q):okU (Eu it q):=by
 obtain⟨O,S,T⟩:=Qkz (pl:=it.aG) D;obtain⟨U,V,X⟩:=Qkz (pl:=it.aG) G;have I:(dU it q*16).natAbs<=134400:=by unfold dU;omega
 have L:(dW it q*16).natAbs<=134400:=by unfold dW;omega
 have Y:=Dq I;have q2:=Dq L;obtain⟨-,-,N,-⟩:=QY (AR D (by omega)) (AR G (by omega));obtain⟨n,M⟩:=bn N;refine⟨bp I (by decide),bp L (by decide),?_,?_⟩
 ·show 0<=Fz _/\Fz _<=_;rw[M];refine Z8o ?_;unfold sq2 at M;omega
 ·show(plH it.aG q*16).natAbs<=_;omega
theorem Z9d {it:Itm} {s:Spk} (D:bd 4200 it.ce) (G:okU s):bd B24 (JE it s):=by
 obtain⟨I,L,-⟩:=Qkz (pl:=it.aG) (E7 D);obtain⟨s1,s2,-,M⟩:=G;exact Q8u (by unfold B24;omega) (by unfold B24;omega) (by unfold B24;omega)
theorem Zzc {it:Itm} (h:Made it) (hf:bd 4084 it.fr):∀p∈Cj it,bd B24 p:=by
 have L:=Qvr h hf;intro p G;unfold Cj at G;split at G
 ·rename_i M;simp only[av]at G;obtain⟨s,I,rfl⟩:=G;have D:bd 4200 it.ce:=AR (Qk3 (h.arc M) (by omega) hf).2 (by omega);refine Z9d D ?_;rcases ay.1 I with rfl|I
  ·exact Qqi D (AR hf (by omega))
  ·exact XW (h.arc M).dir 16 _ (Qqi D (AR hf (by omega))) (Qqi D (AR L (by omega))) s I
 ·simp at G;rcases G with rfl|rfl
  ·exact AR (E7 hf) (by decide)
  ·exact AR (E7 L) (by decide)
def Vv (n:Nat) (g:Sgm):Prop:=bd B24 g.to/\0<=g.aU/\g.aU<n/\i64 g.aX
theorem Q74 {n:Nat} {aU aZ aX:Int} (I:0<=aU/\aU<n) (M:i64 aX):∀(D:List Pt) (s:List Sgm×Int×Pt),(∀p∈D,bd B24 p)->(∀g∈s.1,Vv n g)->∀g∈(D.foldl (Ba aU aZ aX) s).1,Vv n g
 |[],s,_,h=>h
 |q::D,s,N,h=>by
  rw[fc];refine Q74 I M D _ (λp L=>N p (by simp[L])) ?_;unfold Ba;split
  ·exact h
  ·intro g G;simp only[bj,dg]at G;rcases G with G|rfl
   ·exact h g G
   ·exact⟨N q (by simp),I.1,I.2,M⟩
structure PIn (n : Nat) (s : BSt) : Prop where
 aQ:bd B24 s.aQ
 aF:∀g∈s.aF,Vv n g
 aD:∀m∈s.aD,0<=m.aU/\m.aU<n/\i64 m.at_
theorem Z0d {aA:List Itm} (I:drawn (vE aA i)) (hf:LX aA i a) (G:∀k<aA.length,AF (vE aA k)->drawn (vE aA k)) (L:∀p∈Cj (vE aA i),bd B24 p):∀p∈CG aA i a,bd B24 p:=by
 unfold CG;by_cases O:smI (vE aA i)
 ·rw[aa O];intro p D;rcases bj.1 D with D|D
  ·rcases bj.1 D with D|D
   ·unfold Jl at D;rcases hf with rfl|⟨f,rfl,S,M⟩
    ·rw[ab]at D;exact L p (eu D)
    ·rw[aa]at D;exact(Lw (aA:=aA) (i:=(f:Int).toNat) (k:=i) (by simpa using M) I).1 p (dw D)
   ·simp at D;subst D;exact Lr I.1.2.1 I.1.2.2.1
  ·unfold Mq at D;by_cases h:0<=B4 aA i
   ·rw[aa h]at D;obtain⟨k,T,U,N⟩:=Vz G h;exact(Lw (aA:=aA) (i:=i) (k:=(B4 aA i).toNat) I (by rw[T];simpa using N)).1 p (eu D)
   ·rw[ab h]at D;exact L p (dw D)
 ·rw[ab O];exact L
theorem Yaq {it:Itm} (hf:it.aP=1\/1<=it.aZ/\it.aZ<=60000000):i64 (OW it):=by
 unfold OW;split
 ·rename_i h;unfold syI at h;unfold mn i64;split<;>omega
 ·unfold i64;omega
theorem Zsq {aA:List Itm} {s:BSt} (O:i<aA.length) (V:aA.length<=15) (D:∀j<aA.length,¬Ce (vE aA j)) (S:∀j<aA.length,AF (vE aA j)->∀p∈Cj (vE aA j),bd B24 p) (M:BOK aA i s) (h:PIn aA.length s):PIn aA.length (F1 aA i s):=by
 have L:∀k<aA.length,AF (vE aA k)->drawn (vE aA k):=λk U G=>(LC (D k U) G).1;have N:=Zco O D M;have hlen:=M.len;have I:=N.len;unfold F1 at I⊢;by_cases G:AF (vE aA i)
 ·rw[aa G]at I⊢;have T:=L i O G;refine⟨?_,Q74 ⟨by omega,by omega⟩ (Yaq (LC (D i O) G).2) _ _ (Z0d T M.frm L (S i O G)) h.aF,?_⟩
  ·show bd B24 (if s.bK=true then s.aQ else Ax (vE aA i).fr);split
   ·exact h.aQ
   ·exact E7 T.1.2.1
  ·intro m G;simp only[bj,dg]at G;rcases G with G|rfl
   ·exact h.aD m G
   ·refine⟨by simp only;omega,by simp only;omega,?_⟩;simp only at I⊢;unfold i64;omega
 ·rw[ab G];refine⟨h.aQ,h.aF,?_⟩;intro m G;simp only[bj,dg]at G;rcases G with G|rfl
  ·exact h.aD m G
  ·refine⟨by simp only;omega,by simp only;omega,?_⟩;simp only;unfold i64;omega
theorem Q25 {aA:List Itm} (I:aA.length<=15) (D:∀j<aA.length,¬Ce (vE aA j)) (G:∀j<aA.length,AF (vE aA j)->∀p∈Cj (vE aA j),bd B24 p):∀i,i<=aA.length->PIn aA.length (Ay aA i)
 |0,_=>by rw[Ay];exact⟨by unfold bd;simp,λg h=>(by cases h),λg h=>(by cases h)⟩
 |i+1,L=>by rw[Ay];exact Zsq (by omega) I D G (Oo D i (by omega)) (Q25 I D G i (by omega))
theorem Zvt {aA:List Itm} (L:aA.length<=15) (M:C1 aA=0) (G:∀j<aA.length,AF (vE aA j)->∀p∈Cj (vE aA j),bd B24 p):bd B24 (Bb aA).aQ/\(∀g∈(Bb aA).aF,Vv aA.length g)/\(∀m∈(Bb aA).aD,0<=m.aU/\m.aU<aA.length/\i64 m.at_)/\(Bb aA).aD.length=aA.length:=by
 have D:=(PF M).2;have I:=Q25 L D G aA.length (cm _);exact⟨I.aQ,I.aF,I.aD,(Oo D aA.length (cm _)).aD⟩
theorem Zqu {aA:List Itm} (O:aA.length<=15) (M:C1 aA=0):i64 (KT aA):=by
 have I:=Qtk O M;have U:=Qqk (Qmr I.aQ I.aF);have G:=I.count;have D:=(PF M).2;have N:i64 (AW (Bb aA).aF):=by unfold i64;omega
 unfold KT;split
 ·rename_i i e;split
  ·rename_i c;obtain⟨S,-,-⟩:=ZV e;have T:AF (vE aA i):=⟨by have:=c.1.1;omega,by have:=c.1.1;omega⟩;obtain⟨L,-⟩:=LC (D i S) T;have:=Im (AR (Lr L.1.2.1 L.1.2.2.1) (by decide)) (AR (E7 L.1.2.2.1) (by decide));unfold i64;omega
  ·exact N
 ·exact N
theorem Un (n lo D:Int):GX [I n,I lo,I D]=some [B (decide (lo<=n/\n<=D))]:=by
 show Qb8 [I n,I lo,I D]=_;rw[Zgo];by_cases G:lo<=n<;>by_cases L:n<=D<;>simp[G,L]
theorem Zjv (N:∀n lo D:Int,M [I n,I lo,I D]=some [B (decide (lo<=n/\n<=D))]) {a:Axs} (h:AxOK a) (G:a.aW≠[]):
  ∃o,Am (Qaf M) (.vC Aa (a.aW.map As)::I a.aW.length::I 0::Bn a)=some o/\o.1=2:=by
 have V:=h.aO G;refine(?_:Out (λo:Nat×List AC=>o.1=2) _);refine CJ (λi:Nat=> .vC Aa (a.aW.map As)::I a.aW.length::I (i:Int)::Bn a) (λi=>i<=a.aW.length) (λi=>a.aW.length-i) _ ?_ 0 (by simp);intro i D;have hc:=h.count;rw[Zp6];dsimp only[jA,gA,bA,wA];have O:∀j:Nat,j<a.aW.length->Af (nth .vD (nth [] (a.aW.map As) j) 0)=a.aW.getD j 0:=λj S=>by
  have e:nth [] (a.aW.map As) j=As a.aW[j]:=by
   rw[Gb [] (a.aW.map As) j (by rw[ag];exact S),i6]
  rw[e,List.getD,am S];rfl
 refine .cond (λk=> ?_) λ_=> .some (.inr ⟨by simp,rfl⟩);have k:(i:Int)<(a.aW.length:Int):=Bl k;have T:((a.aW.map As).length:Int)=a.aW.length:=by rw[ag]
 refine .cond (λ_=> ?_) λe=>(inB (by omega) (by rw[T];exact k) e).elim;have X: -4096<=a.aW.getD i 0/\a.aW.getD i 0<=4096:=by
  refine h.aW.1 _ ?_;rw[List.getD,am (by omega)];exact cd _
 rw[al,O i (by omega),N];simp only[af,gA,wA,bA,jA,CQ,Df];rw[ai X];refine .cond (λe=>by cases e) λ_=> ?_;have U:∀{x:List AC},x= .vC Aa (a.aW.map As)::I a.aW.length::I ((i:Int)+1)::Bn a->Out (λo:Nat×List AC=>(o.1=0/\∃L:Nat,o.2= .vC Aa (a.aW.map As)::I a.aW.length::I (L:Int)::Bn a/\L<=a.aW.length/\a.aW.length-L<a.aW.length-i)\/(o.1≠0/\o.1=2)) (some (0,x)):=λe=>
  .some (.inl ⟨rfl,i+1,by rw[e];rfl,by omega,by omega⟩)
 rw[Ae (x:=(i:Int)+1)];refine .cond (λg=> ?_) λ_=>U rfl;have g:(i:Int)>0:=Bl g;rw[Ae (x:=(i:Int)-1)];refine .cond (λ_=> ?_) λe=>(inB (by omega) (by rw[T];omega) e).elim;obtain⟨j,rfl⟩:∃j:Nat,i=j+1:=⟨i-1,by omega⟩;have hd:=h.aW.2 j (by omega);have Y: -4096<=a.aW.getD j 0/\a.aW.getD j 0<=4096:=by
  refine h.aW.1 _ ?_;rw[List.getD,am (by omega)];exact cd _
 have ej:(((j+1:Nat):Int)-1).toNat=j:=by omega
 rw[ej,O j (by omega),N];simp only[af,gA,wA,bA,jA,CQ,Df];have q1:a.aO.tdiv 4=a.aO/4:=bq (by omega);rw[q1,Ae (x:=a.aO/4),Ae (x:=0-a.aO/4),Ae (x:=a.aW.getD (j+1) 0-a.aW.getD j 0)];refine .cond (λe=> ?_) λ_=>U rfl;rw[ai (show 0-a.aO/4<=a.aW.getD (j+1) 0-a.aW.getD j 0/\a.aW.getD (j+1) 0-a.aW.getD j 0<=a.aO/4 by omega)]at e;cases e
theorem Yeh (G:∀n lo L:Int,M [I n,I lo,I L]=some [B (decide (lo<=n/\n<=L))]) {a:Axs} (h:AxOK a)
  (S:a.aW≠[]->∃o,N (.vC Aa (a.aW.map As)::I a.aW.length::I 0::Bn a)=some o/\o.1=2):ZX M N (Bn a)=some [B true]:=by
 have O:=h.aO;have V:=h.aV;have X:=h.count
 rw[Zmn];by_cases e:a.aW=[]
 ·rw[e];rfl
 ·have Y:0<a.aW.length:=List.length_pos_iff.2 e;obtain⟨o,T,U⟩:=S e;have O:=O e;have D:N [.vC Aa (a.aW.map As),I (a.aW.map As).length,I 0,I a.step,I a.aS,I a.bF,I a.bG,I a.low,I a.aY,I a.bB,I a.aV,I a.aO, .vC Aa (a.aW.map As)]=some o:=by rw[ag];exact T
  rw[Bj (by rw[ag];simp;omega),Bj (by rw[ag];simp;omega),G,G,D];simp only[af,gA,wA,bA,jA,CQ,Df];rw[ai (show-16777216<=a.aV/\a.aV<=16777216 by omega),ai (show 4<=a.aO/\a.aO<=16777216 by omega),U];rfl
theorem Zv4 {a:Axs} (h:AxOK a):QA (Bn a)=some [B true]:=Yeh Un h λD=>Zjv Un h D
theorem Znd (G:∀n lo D:Int,Z [I n,I lo,I D]=some [B (decide (lo<=n/\n<=D))]) {a:Axs} (h:AxOK a) (L:M (Bn a)=some [B true]):Qe4 M Z (Bn a)=some [B true]:=by
 have N:=h.step;have hb:=h.bB;obtain⟨O,S,T,U,V,X,Y,l8⟩:=h.lim
 rw[Yb8];simp only[G,af,CQ,Df];rw[ai (show 4<=a.step/\a.step<=4096 by omega),ai (show 1<=a.aS/\a.aS<=1048576 by omega),ai (show 2<=a.bF/\a.bF<=1048576 by omega),ai (show 4<=a.bG/\a.bG<=1048576 by omega),ai (show a.low>= -16777216 by omega),ai (show a.aY<=16777216 by omega),ai (show a.low<=a.aY by omega),ai (show 0<=a.bB/\a.bB<=64 by omega)];simp only[ah];rw[L];rfl
theorem Zhz {a:Axs} (h:AxOK a):QT (Bn a)=some [B true]:=Znd Un h (Zv4 h)
theorem Zp7 (G:∀n lo D:Int,M [I n,I lo,I D]=some [B (decide (lo<=n/\n<=D))]) {a:Axs} (h:AxOK a) {q:Int} (L:q.natAbs<=B24):Qkn M (Bn a++[I q])=some [B true]:=by
 obtain⟨-,-,-,-,-,-,N,O⟩:=h.lim;refine db (Zj8 M ..) ?_;rw[G,ai (show a.low<=q/\q<=a.aY by unfold B24 at L;omega)];rfl
theorem Zmh {a:Axs} (h:AxOK a) {q:Int} (D:q.natAbs<=B24):HP (Bn a++[I q])=some [B true]:=Zp7 Un h D
theorem Zkd {x:Ax3} (O:bd B24 p.aQ) (S:∀g∈p.aF,bd B24 g.to) (Y:p.aF.length<=1000000):
  Out (λo:Nat×List AC=>o.1=1/\∃D:List Pt,o.2= .vC kPt (D.map ptR)::AI x/\(∀q∈D,bd B24 q)/\D.length<=1000001) (Am (Qz M) (.vC kPt [ptR p.aQ]:: .vC Ag (p.aF.map Aw)::I (p.aF.map Aw).length::I 0::AI x)):=by
 refine CJ (λs:Nat×List Pt=> .vC kPt (s.2.map ptR):: .vC Ag (p.aF.map Aw)::I (p.aF.map Aw).length::I (s.1:Int)::AI x) (λs=>s.1<=p.aF.length/\(∀q∈s.2,bd B24 q)/\s.2.length=s.1+1) (λs=>p.aF.length-s.1) _ ?_ (0,[p.aQ]) ⟨by simp,by simpa using O,rfl⟩;rintro⟨i,D⟩ ⟨T,N,U⟩;dsimp only at T N U;refine Out.eqv (Zww M ..) ?_;have L:((p.aF.map Aw).length:Int)=p.aF.length:=by rw[ag]
 refine .cond (λk=> ?_) λ_=> .some (.inr ⟨by simp,rfl,D,rfl,N,by omega⟩);have k:(i:Int)<((p.aF.map Aw).length:Int):=Bl k;rw[L]at k;refine .cond (λ_=> ?_) λe=>(inB (by omega) (by rw[L];exact k) e).elim;have V:nth [] (p.aF.map Aw) (i:Int).toNat=Aw p.aF[i]:=by
  rw[al,Gb [] _ i (by rw[ag];omega),i6]
 rw[V];have X:=S _ (cd (show i<p.aF.length by omega));refine .cond (λ_=> ?_) λe=>by rw[B_ (by simp;omega)]at e;cases e
 refine .some (.inl ⟨rfl,(i+1,D++[p.aF[i].to]),?_,⟨by dsimp only;omega,?_,by simp;omega⟩,by dsimp only;omega⟩)
 ·rw[Ae (x:=(i:Int)+1),bz];rfl
 ·intro q G;dsimp only at G;simp only[bj,dg]at G;rcases G with G|rfl
  ·exact N q G
  ·exact X
theorem Zt3 (L:∀{a:Axs} {q:Int},AxOK a->q.natAbs<=B24->M (Bn a++[I q])=some [B true]) {x:Ax3} (O:Ax3M x) {D:List Pt} (S:∀q∈D,bd B24 q) (Y:D.length<=1000001):
  Out (λo:Nat×List AC=>o.1=2) (Am (U8 M N) (.vC kPt (D.map ptR)::I (D.map ptR).length::I 0::AI x)):=by
 refine CJ (λi:Nat=> .vC kPt (D.map ptR)::I (D.map ptR).length::I (i:Int)::AI x) (λi=>i<=D.length) (λi=>D.length-i) _ ?_ 0 (by simp);intro i h1;refine Out.eqv (Z0i M N ..) ?_;have G:((D.map ptR).length:Int)=D.length:=by rw[ag]
 refine .cond (λk=> ?_) λ_=> .some (.inr ⟨by simp,rfl⟩);have k:(i:Int)<((D.map ptR).length:Int):=Bl k;rw[G]at k;refine .cond (λ_=> ?_) λe=>(inB (by omega) (by rw[G];exact k) e).elim;have T:nth [] (D.map ptR) (i:Int).toNat=ptR D[i]:=by
  rw[al,Gb [] _ i (by rw[ag];omega),i6]
 rw[T];obtain⟨U,V,X⟩:=S _ (cd (show i<D.length by omega));refine .bind (p:=λo=>o=[B true]) ⟨_,L O.a U,rfl⟩ λo e=> ?_;subst e;refine .cond (λe=>by cases e) λ_=> ?_;refine .bind (p:=λo=>o=[B true]) ⟨_,L O.b V,rfl⟩ λo e=> ?_;subst e;refine .cond (λe=>by cases e) λ_=> ?_;refine .bind (p:=λo=>o=[B true]) ⟨_,L O.c X,rfl⟩ λo e=> ?_;subst e;refine .cond (λe=>by cases e) λ_=> ?_;exact .some (.inl ⟨rfl,i+1,by rw[Ae (x:=(i:Int)+1)];rfl,by omega,by omega⟩)
theorem Ztl {N3 N8:Lp} {x:Ax3}
  (N:Out (λo:Nat×List AC=>o.1=1/\∃D:List Pt,o.2= .vC kPt (D.map ptR)::AI x/\(∀q∈D,bd B24 q)/\D.length<=1000001) (N3 (.vC kPt [ptR p.aQ]:: .vC Ag (p.aF.map Aw)::I (p.aF.map Aw).length::I 0::AI x)))
  (O:∀{D:List Pt},(∀q∈D,bd B24 q)->D.length<=1000001->Out (λo:Nat×List AC=>o.1=2) (N8 (.vC kPt (D.map ptR)::I (D.map ptR).length::I 0::AI x))):
  Out (λo=>o=[B true]) (ZR M N3 N8 (AI x++Bk p)):=by
 refine Out.eqv (Zv0 M N3 N8 ..) ?_;refine .bind N λo q=> ?_;obtain⟨o1,o2⟩:=o;obtain⟨G,D,L,S,T⟩:=q;dsimp only at G L;subst G L;refine .cond (λ_=> ?_) λe=>by cases e
 refine .bind (O S T) λo q=> ?_;rw[q];exact .some rfl
theorem Zf8 {x:Ax3} (D:Ax3M x) (G:bd B24 p.aQ) (I:∀g∈p.aF,bd B24 g.to) (L:p.aF.length<=1000000):P7 (AI x++Bk p)=some [B true]:=by
 obtain⟨o,h,rfl⟩:=Ztl (M:=HP) (N3:=Am (Qz HP)) (N8:=Am (U8 HP (Am (Qz HP)))) (Zkd (x:=x) G I L) (λN O=>Zt3 (λS T=>Zmh S T) D N O);exact h
theorem Ybd:∃v:Int,EY [I 30000]=some [I v]/\60000<=v:=by
 have key:∀{M:Fn} {v:Int},M [I 30000,I 1048576,I 60000,I 2]=some [I v,B true]->T2 M [I 30000]=some [I v]:=λh=>by
  rw[Q4i,h];rfl
 refine⟨_,key (TZ (by unfold i64;omega) (by unfold i64;omega) (by omega) (by decide)),?_⟩;unfold Bh;omega
theorem Zpm {x:Ax3} (D:Ax3M x) {pa pb pc bH lag:Int} (T:Plan3 pa pb pc) (G:1<=bH/\bH<=60000) (L:0<=lag/\lag<=40)
  (hV:∀{a:Axs},AxOK a->W (Bn a)=some [B true]) (N:Z [I pa,I pb,I pc]=some [B true]) (O:∃v:Int,M [I 30000]=some [I v]/\60000<=v):Out (λo=>o=[B true]) (WL M Z W (AI x++[I pa,I pb,I pc,I bH,I lag])):=by
 refine Out.eqv (Z2x M Z W ..) ?_;refine .bind (p:=λo=>o=[B true]) ⟨_,hV D.a,rfl⟩ λo e=> ?_;subst e;refine .cond (λe=>by cases e) λ_=> .bind (p:=λo=>o=[B true]) ⟨_,hV D.b,rfl⟩ λo e=> ?_;subst e;refine .cond (λe=>by cases e) λ_=> .bind (p:=λo=>o=[B true]) ⟨_,hV D.c,rfl⟩ λo e=> ?_;subst e;refine .cond (λe=>by cases e) λ_=> .bind (p:=λo=>o=[B true]) ⟨_,N,rfl⟩ λo e=> ?_;subst e;obtain⟨v,S,U⟩:=O;refine .cond (λ_=> .cond (λ_=> ?_) λe=>absurd G.1 (Bs e)) λe=>by cases e
 refine .bind (p:=λo=>o=[I v]) ⟨_,S,rfl⟩ λo e=> ?_;subst e;refine .cond (λ_=> .cond (λ_=> ?_) λe=>absurd L.1 (Bs e)) λe=>absurd (show bH<=v by omega) (Bs e);exact .some (by rw[ai (show lag<=1048576 by omega)])
theorem Z15 {x:Ax3} (G:Ax3M x) {pa pb pc bH lag:Int} (D:Plan3 pa pb pc) (L:1<=bH/\bH<=60000) (M:0<=lag/\lag<=40):Ry (AI x++[I pa,I pb,I pc,I bH,I lag])=some [B true]:=by
 have N:EX [I pa,I pb,I pc]=some [B true]:=by rw[TF,ai (show 1<=pa/\pa<=65536/\2<=pb/\pb<=65536/\1<=pc/\pc<=16777216 from⟨D.a.1,D.a.2,D.b.1,D.b.2,D.c.1,D.c.2⟩)]
 obtain⟨o,h,rfl⟩:=Zpm G D L M Zhz N Ybd;exact h
theorem Z5f {x:Ax3} (O:Ax3M x) (D G L M N:Int):Qs (AI x++[I D,I G,I L,I M,I N])=some (AI x++[I D,I G,I L,I M,I N]):=by
 have S:=O.a.count;have hb:=O.b.count;have T:=O.c.count
 have key:Qby (AI x++[I D,I G,I L,I M,I N])=some (AI x++[I D,I G,I L,I M,I N]):=by
  refine db (Zfd ..) ?_;rw[B_ (by rw[ag];omega),B_ (by rw[ag];omega),B_ (by rw[ag];omega)];rfl
 exact key
abbrev Q07 (K:Kf):Kf:=⟨K.x,K.pa,K.pb,K.pc,K.bH,K.lag,[],false,⟨⟨0,0,0⟩,[],[]⟩,0,0,⟨[],0,0,⟨0,0,0⟩⟩⟩
abbrev Yv (K:Kf):Kf:=⟨K.x,K.pa,K.pb,K.pc,K.bH,K.lag,K.aA,K.closed,K.p,K.len,K.set,⟨[],0,0,⟨0,0,0⟩⟩⟩
abbrev Cp:Cv:=⟨0,0,0,0,0,0,100,100,false,false,false,0,0,-1,1,0,0,0,0,0,0,0,0,false,0,false,0,false,0,-1,0,0,0,0,0,0,0,false,false,false⟩
noncomputable abbrev kfP (x:Ax3) (pa pb pc bH lag:Int) (aA:List Itm) (closed:Bool):Kf:=⟨x,pa,pb,pc,bH,lag,aA,closed,Bb aA,AW (Bb aA).aF,KT aA,Ej (Bb aA) x ⟨1,1,1⟩ 0 (AW (Bb aA).aF)⟩
theorem Zv5 (V:K.aA.length<=15) (i0:List Itm) (G:Bool) (L:Pth) (N s0:Int) (D:Trk) (c:Cv)
  (hB:S [.vC Ai (K.aA.map Ah)]=some (Bk K.p++[I 0])) (O:W (AI K.x++Bk K.p)=some [B true]) (T:Z (Bk K.p)=some [I K.len]) (U:M [.vC Ai (K.aA.map Ah)]=some [I K.set]):
  QK M Z W S (.vC Ai (K.aA.map Ah)::B K.closed::Ac ⟨K.x,K.pa,K.pb,K.pc,K.bH,K.lag,i0,G,L,N,s0,D⟩ c)=some (I 0::Ac ⟨K.x,K.pa,K.pb,K.pc,K.bH,K.lag,K.aA,K.closed,K.p,K.len,K.set,D⟩ c):=by
 have key:Out (λo=>o=I 0::Ac ⟨K.x,K.pa,K.pb,K.pc,K.bH,K.lag,K.aA,K.closed,K.p,K.len,K.set,D⟩ c) (QK M Z W S (.vC Ai (K.aA.map Ah)::B K.closed::Ac ⟨K.x,K.pa,K.pb,K.pc,K.bH,K.lag,i0,G,L,N,s0,D⟩ c)):=by
  refine Out.eqv (Zi0 M Z W S _ _ ⟨K.x,K.pa,K.pb,K.pc,K.bH,K.lag,i0,G,L,N,s0,D⟩ c) ?_;refine .bind (p:=λo=>o=_) ⟨_,hB,rfl⟩ λo e=> ?_;subst e;refine .cond (λe=>by cases e) λ_=> ?_;refine .bind (p:=λo=>o=_) ⟨_,O,rfl⟩ λo e=> ?_;subst e;refine .cond (λe=>by cases e) λ_=> .cond (λ_=> ?_) λe=>by rw[B_ (by rw[ag];omega)]at e;cases e
  refine .bind (p:=λo=>o=_) ⟨_,T,rfl⟩ λo e=> ?_;subst e;refine .bind (p:=λo=>o=_) ⟨_,U,rfl⟩ λo e=> ?_;subst e;exact .some rfl
 obtain⟨o,h,rfl⟩:=key;exact h
theorem Ze1 (D:K.aA.length<=15) (c:Cv)
  (hB:S [.vC Ai (K.aA.map Ah)]=some (Bk K.p++[I 0])) (G:W (AI K.x++Bk K.p)=some [B true]) (L:Z (Bk K.p)=some [I K.len]) (N:M [.vC Ai (K.aA.map Ah)]=some [I K.set]):
  QK M Z W S (.vC Ai (K.aA.map Ah)::B K.closed::Ac (Q07 K) c)=some (I 0::Ac (Yv K) c):=
 Zv5 D [] false ⟨⟨0,0,0⟩,[],[]⟩ 0 0 ⟨[],0,0,⟨0,0,0⟩⟩ c hB G L N
theorem Zvu
  (D:H (AI K.x++[I K.pa,I K.pb,I K.pc,I K.bH,I K.lag])=some [B true]) (G:O (AI K.x++[I K.pa,I K.pb,I K.pc,I K.bH,I K.lag])=some (AI K.x++[I K.pa,I K.pb,I K.pc,I K.bH,I K.lag]))
  (L:P []=some [I 100,I 100,B false,B false,B false]) (N:S []=some [I 0,I 0,I (-1)])
  (T:W (.vC Ai (K.aA.map Ah)::B K.closed::Ac (Q07 K) Cp)=some (I 0::Ac (Yv K) Cp))
  (U:Z (Bk K.p++AI K.x++[I 1,I 1,I 1,I 0,I K.len])=some (A0 K.t)) (V:M [I 0]=some [I 0,I 0,I 0,I 0,I 0,I 0]):
  Ta M Z W S P O H (AI K.x++[I K.pa,I K.pb,I K.pc,I K.bH,I K.lag]++[.vC Ai (K.aA.map Ah),B K.closed])=some (I 0::Ac K Cp):=by
 have key:Out (λo=>o=I 0::Ac K Cp) (Ta M Z W S P O H (AI K.x++[I K.pa,I K.pb,I K.pc,I K.bH,I K.lag]++[.vC Ai (K.aA.map Ah),B K.closed])):=by
  refine Out.eqv (Zfx M Z W S P O H ..) ?_;refine .bind (p:=λo=>o=_) ⟨_,D,rfl⟩ λo e=> ?_;subst e;refine .cond (λe=>by cases e) λ_=> ?_;refine .bind (p:=λo=>o=_) ⟨_,G,rfl⟩ λo e=> ?_;subst e;refine .bind (p:=λo=>o=_) ⟨_,L,rfl⟩ λo e=> ?_;subst e;refine .bind (p:=λo=>o=_) ⟨_,N,rfl⟩ λo e=> ?_;subst e;refine .bind (p:=λo=>o=I 0::Ac (Yv K) Cp) ⟨_,T,rfl⟩ λo e=> ?_;subst e;refine .cond (λe=>by cases e) λ_=> ?_;refine .bind (p:=λo=>o=_) ⟨_,U,rfl⟩ λo e=> ?_;subst e;refine .bind (p:=λo=>o=_) ⟨_,V,rfl⟩ λo e=> ?_;subst e;exact .some (by kernel_rfl)
 obtain⟨o,h,rfl⟩:=key;exact h
structure MachOK (x : Ax3) (pa pb pc bH lag : Int) : Prop where
 x:Ax3M x
 plan:Plan3 pa pb pc
 bH:1<=bH/\bH<=60000
 lag:0<=lag/\lag<=40
theorem Z9o {x:Ax3} (D:MachOK x a k b v u) {aA:List Itm} (M:aA.length<=15) (N:C1 aA=0) (S:∀j<aA.length,AF (vE aA j)->∀p∈Cj (vE aA j),bd B24 p) (T:∀it∈aA,it.aP=8->i64 it.aS) (closed:Bool):
  J_ (AI x++[I a,I k,I b,I v,I u]++[.vC Ai (aA.map Ah),B closed])=some (I 0::Ac (kfP x a k b v u aA closed) Cp)/\KOK (kfP x a k b v u aA closed):=by
 have G:=Qtk M N;obtain⟨i1,V,X,i4⟩:=Zvt M N S;have hs:=Qqk (Qmr G.aQ G.aF);have O:=G.count;refine⟨?_,?_⟩
 ·have hB:Ny [.vC Ai (aA.map Ah)]=some (Bk (Bb aA)++[I 0]):=by rw[Zu3 M,aa N]
  have Y:NC [.vC Ai (aA.map Ah)]=some [I (KT aA)]:=by rw[Zqb M,aa N]
  have hR:=Zf8 D.x i1 (λg h=>(V g h).1) (by omega);have hT:=Q92 (d:=⟨1,1,1⟩) (from_:=0) (to:=AW (Bb aA).aF) G D.x.ok;have L:=Ze1 (K:=kfP x a k b v u aA closed) M Cp hB hR (Q9d G.ok) Y;have hO:Qn []=some [I 100,I 100,B false,B false,B false]:=by show Qgn []=_;rw[Z7e]
  have hG:Kb []=some [I 0,I 0,I (-1)]:=by show PS []=_;rw[Xo]
  have U:Hb [I 0]=some [I 0,I 0,I 0,I 0,I 0,I 0]:=Qcv 0;exact Zvu (K:=kfP x a k b v u aA closed) (Z15 D.x D.plan D.bH D.lag) (Z5f D.x ..) hO hG L hT U
 ·refine⟨⟨G,D.x,Qy7 _ _ _ D.x.ok G⟩,D.plan,λg h=>(V g h).2,X,?_,?_,?_,Zqu M N⟩
  ·show(Bb aA).aD.length<=1000000;omega
  ·exact T
  ·show i64 (AW (Bb aA).aF);unfold i64;omega
theorem Zcl {x:Ax3} (D:MachOK x a k b v u) {aA:List Itm} (M:aA.length<=15) {N:Pt} (G:Items 4084 N aA) (closed:Bool):
  J_ (AI x++[I a,I k,I b,I v,I u]++[.vC Ai (aA.map Ah),B closed])=some (I 0::Ac (kfP x a k b v u aA closed) Cp)/\KOK (kfP x a k b v u aA closed):=
 Z9o D M (Z13 (by omega) G (show aA.length <= 20000 by omega)) (λj O D => by
  rcases G.made _ (Zd5 O)with⟨-,g2,-,S,-⟩|g
  ·exact Zzc g2 S
  ·exact absurd D (Qt g)) (λit L T=>by
  rcases G.made it L with⟨-,-,g,-⟩|g
  ·rw[g.2.2.2.1];unfold i64;omega
  ·have:=g.spin T;unfold i64;omega) closed
end Go.Bm
namespace Go.Bm
structure Evn where
 (cycle aP n:Int)
abbrev evR (e:Evn):List AC:=[I e.cycle,I e.aP,I e.n]
structure EvOK (e : Evn) : Prop where
 aP:1<=e.aP/\e.aP<=13
 n: -5<=e.n/\e.n<=1073741824
theorem Uh (E:List Evn) {i:Nat} (h:i<E.length):nth [] (E.map evR) (i:Int).toNat=evR E[i]:=by
 rw[al,Gb [] _ i (by rw[ag];exact h),i6]
theorem Qwj {α:Type} (P:α->Bool) (E:List α) {i:Nat} (h:i<E.length):(E.take (i+1)).filter P=(E.take i).filter P++(if P E[i]=true then [E[i]]else []):=by
 rw[j5,List.filter_append,am h];congr 1;by_cases c:P E[i]=true
 ·rw[aa c];simp[c]
 ·rw[ab c];simp[c]
theorem Zo1 {P:Evn->Bool} {E:List Evn} (L:E.length<=1000000) {D:Lp} {enc:Rw->Nat->List AC}
  (G:∀(l:Rw) (i:Nat),i<=E.length->l.length<=i->D (enc l i)=if h:i<E.length then some (0,enc (l++(if P E[i]=true then [evR E[i]]else [])) (i+1))else some (1,[.vC kPt l])):
  Am D (enc [] 0)=some (1,[.vC kPt ((E.filter P).map evR)]):=by
 have key:Out (λo=>o=(1,[.vC kPt ((E.filter P).map evR)])) (Am D (enc [] 0)):=by
  refine CJ (λi:Nat=>enc (((E.take i).filter P).map evR) i) (λi=>i<=E.length) (λi=>E.length-i) _ ?_ 0 (by simp);intro i I;rw[G _ _ I (by rw[ag];exact bp (ip _ _) (by simp;omega))];by_cases h:i<E.length
  ·rw[jl h];refine .some (.inl ⟨rfl,i+1,?_,by omega,by omega⟩);rw[Qwj P E h];by_cases c:P E[i]=true
   ·rw[aa c,aa c,bz];rfl
   ·rw[ab c,ab c,gw,gw]
  ·rw[dif_neg h];refine .some (.inr ⟨by simp,?_⟩);rw[f9 (by omega)]
 obtain⟨o,h,rfl⟩:=key;exact h
structure Ord (E : List Evn) (p q : Int) : Prop where
 pw:E.Pairwise λa b=>a.cycle<=b.cycle
 rg:∀e∈E,p<=e.cycle/\e.cycle<=q
theorem Zpb:Ord [] a k:=⟨.nil,λe he=>by cases he⟩
theorem Ord.up {E:List Evn} (h:Ord E a k) (g:k<=r):Ord E a r:=⟨h.pw,λe he=>⟨(h.rg e he).1,Int.le_trans (h.rg e he).2 g⟩⟩
theorem Znf {E:List Evn} {p q:Int} {e:Evn} (h:Ord E p q) (I:p<=e.cycle) (G:q<=e.cycle/\e.cycle<=q):Ord (E++[e]) p q:=by
 refine⟨jn.2 ⟨h.pw,List.pairwise_singleton _ _,λa D b hb=> ?_⟩,λa D=> ?_⟩
 ·rw[dg]at hb;subst hb;exact Int.le_trans (h.rg a D).2 G.1
 ·rcases bj.1 D with q|q
  ·exact h.rg a q
  ·rw[dg]at q;subst q;exact⟨I,G.2⟩
theorem Yda (G:GN l M) (cycle:Int) (k:Nat):
  ∃(e:Evn) (k':Nat),Yo M [I cycle, .vC Aa l,I k]=some (evR e++[.vC Aa l,I k'])/\EvOK e/\k<=k'/\e.cycle=cycle:=by
 obtain⟨v,D,U,X,v1,hk,-⟩:=G k (n:=15) (by omega);rw[Zn7,U];simp only[af,RJ,gA,wA,bA,jA,CQ,Ei,Dy,Bp];have all:∀(n:Nat),n<15->∃aP:Int,nth [] [[I 4],[I 1],[I 2],[I 3],[I 4],[I 5],[I 6],[I 7],[I 4],[I 8],[I 9],[I 11],[I 12],[I 13],[I 10]] n=[I aP]/\1<=aP/\aP<=13:=by
  intro n N
  match n,N with
  |0,_=>exact⟨4,rfl,by omega⟩
  |1,_=>exact⟨1,rfl,by omega⟩
  |2,_=>exact⟨2,rfl,by omega⟩
  |3,_=>exact⟨3,rfl,by omega⟩
  |4,_=>exact⟨4,rfl,by omega⟩
  |5,_=>exact⟨5,rfl,by omega⟩
  |6,_=>exact⟨6,rfl,by omega⟩
  |7,_=>exact⟨7,rfl,by omega⟩
  |8,_=>exact⟨4,rfl,by omega⟩
  |9,_=>exact⟨8,rfl,by omega⟩
  |10,_=>exact⟨9,rfl,by omega⟩
  |11,_=>exact⟨11,rfl,by omega⟩
  |12,_=>exact⟨12,rfl,by omega⟩
  |13,_=>exact⟨13,rfl,by omega⟩
  |14,_=>exact⟨10,rfl,by omega⟩
 obtain⟨aP,O,b1,b2⟩:=all v.toNat (by omega);have hlen:([[I 4],[I 1],[I 2],[I 3],[I 4],[I 5],[I 6],[I 7],[I 4],[I 8],[I 9],[I 11],[I 12],[I 13],[I 10]]:Rw).length=15:=rfl;clear all;generalize([[I 4],[I 1],[I 2],[I 3],[I 4],[I 5],[I 6],[I 7],[I 4],[I 8],[I 9],[I 11],[I 12],[I 13],[I 10]]:Rw)=T at*;have Y:v<(T.length:Int):=by omega
 simp only[X,Y,decide_true,Bool.and_self,ah,O,CQ,Dy];have one:∀(n d:Int),0<n/\n<=1000->0<=d/\d<=5->∃(e:Evn) (k':Nat),((M [I n, .vC Aa l,I D]).bind λo=>some [I cycle,I aP,I (V (gA o 0-d)), .vC Aa (wA o 1),jA o 2])=some (evR e++[.vC Aa l,I k'])/\EvOK e/\k<=k'/\e.cycle=cycle:=λn d N hd=>by
  obtain⟨w,L,g1,w0,S,g2,-⟩:=G D (n:=n) (by omega);rw[g1];refine⟨⟨cycle,aP,w-d⟩,L,?_,⟨⟨b1,b2⟩,by simp only;omega⟩,by omega,rfl⟩;simp only[af,gA,wA,jA,CQ,Ei,Dy,Bp];rw[Ae];rfl
 have two:∀(n:Int),0<n/\n<=1000->∃(e:Evn) (k':Nat),((M [I n, .vC Aa l,I D]).bind λo=>some [I cycle,I aP,jA o 0, .vC Aa (wA o 1),jA o 2])=some (evR e++[.vC Aa l,I k'])/\EvOK e/\k<=k'/\e.cycle=cycle:=λn N=>by
  obtain⟨w,L,g1,w0,S,g2,-⟩:=G D (n:=n) (by omega);rw[g1];exact⟨⟨cycle,aP,w⟩,L,rfl,⟨⟨b1,b2⟩,by simp only;omega⟩,by omega,rfl⟩
 cases c1:(aP==1)
 ·cases c2:(aP==2)
  ·cases c3:(aP==5)
   ·cases c4:(aP==6)
    ·cases c5:(aP==7)
     ·cases c6:(aP==8)
      ·cases c7:(aP==13)
       ·exact⟨⟨cycle,aP,0⟩,D,rfl,⟨⟨b1,b2⟩,by simp⟩,by omega,rfl⟩
       ·obtain⟨w,L,g1,w0,S,g2,-⟩:=G D (n:=4) (by omega);obtain⟨y,k3,g3,y0,y1,g4,-⟩:=G L (n:=60) (by omega);simp only[aq,ah];rw[g1];simp only[af,CQ,Ei,Dy];rw[g3];refine⟨⟨cycle,aP,w*1048576+y⟩,k3,?_,⟨⟨b1,b2⟩,by simp only;omega⟩,by omega,rfl⟩;simp only[af,CQ,Ei,Dy];rw[Ae (x:=w*1048576),Ae];rfl
      ·exact one 5 1 (by omega) (by omega)
     ·exact one 300 5 (by omega) (by omega)
    ·exact two 3 (by omega)
   ·exact two 3 (by omega)
  ·exact one 220 5 (by omega) (by omega)
 ·exact one 220 5 (by omega) (by omega)
theorem Zza {ME M ML MF:Fn} (hl:l.length<=100000) (O:GN l M) (S:∀k:Nat,ML [.vC Aa l,I k]=some [B (decide (k<l.length)), .vC Aa l,I k])
  (T:∀(cycle:Int) (k:Nat),∃(e:Evn) (k':Nat),ME [I cycle, .vC Aa l,I k]=some (evR e++[.vC Aa l,I k'])/\EvOK e/\k<=k'/\e.cycle=cycle):
  Out (λo=>∃E:List Evn,o=(1,[.vC kPt (E.map evR)])/\E.length<=l.length/\(∀e∈E,EvOK e)/\Ord E 0 (40*l.length)) (Am (Qqe ME M ML MF) [.vC kPt [],I 0, .vC Aa l,I 0]):=by
 refine CJ (λs:List Evn×Int×Nat=>[.vC kPt (s.1.map evR),I s.2.1, .vC Aa l,I (s.2.2:Int)]) (λs=>(∀e∈s.1,EvOK e)/\s.1.length<=s.2.2/\s.1.length<=l.length/\Ord s.1 0 s.2.1/\0<=s.2.1/\s.2.1<=40*s.1.length) (λs=>l.length-s.2.2) _ ?_ ([],0,0) ⟨by simp,by simp,by simp,Zpb,by simp,by simp⟩;rintro⟨E,cycle,k⟩ ⟨G,U,N,L,V,X⟩;dsimp only at G U N L V X;rw[Zqd,S];simp only[af,gA,wA,bA,jA,CQ,Ei,Dy,Bp,Df];by_cases c:k<l.length
 ·rw[ai c];obtain⟨v,Y,g1,v0,v1,-,g2,-⟩:=O k (n:=40) (by omega);have g2:=g2 c;rw[ah,g1];simp only[af,CQ,Ei,Dy];rw[Ae (x:=cycle+v)];obtain⟨e,k2,q1,q2,q3,q4⟩:=T (cycle+v) Y;rw[q1];simp only[af,ba,ax,CQ,Ei,Dy];rw[B_ (by simp;omega)];refine .some (.inl ⟨rfl,(E++[e],cycle+v,k2),?_,⟨?_,by simp;omega,by simp;omega,Znf (q:=cycle+v) (L.up (by omega)) (by omega) (by omega),by dsimp only;omega,by simp;omega⟩,by dsimp only;omega⟩)
  ·rw[bz];rfl
  ·intro x D;dsimp only at D;rcases bj.1 D with D|D
   ·exact G x D
   ·rw[dg]at D;subst D;exact q2
 ·rw[aj c];exact .some (.inr ⟨by simp,E,rfl,N,G,L.up (by omega)⟩)
theorem Z9f (D:Src l) (M:l.length<=60):∃E:List Evn,NQ [.vC Aa l]=some [.vC kPt (E.map evR)]/\E.length<=60/\(∀e∈E,EvOK e)/\Ord E 0 2400:=by
 obtain⟨o,G,E,rfl,N,I,L⟩:=Zza (ME:=Mc) (MF:=Cu) (by omega) (Hv D) (Qvy l) λcycle k=>Yda (Hv D) cycle k;refine⟨E,?_,by omega,I,L.up (by omega)⟩;show Qf1 Mc BD FY Cu (Am _) [.vC Aa l]=_;rw[Ya9,QM];simp only[af,gA,wA,bA,jA,CQ,Ei,Dy,Bp];rw[G];rfl
theorem Znp {D MF:Fn} (G:GN l D) (N:MF [.vC Aa l]=some [.vC Aa l,I 0]):
  ∃a b c:Int,VR D MF [.vC Aa l]=some [I a,I b,I c]/\(1<=a/\a<=900)/\(2<=b/\b<=201)/\(1<=c/\c<=16000):=by
 obtain⟨v,M,g1,T,U,-⟩:=G 0 (n:=900) (by omega);obtain⟨w,O,g2,w0,V,-⟩:=G M (n:=200) (by omega);obtain⟨y,X,S,y0,y1,-⟩:=G O (n:=16000) (by omega);have L:D [I 900, .vC Aa l,I 0]=some [I v, .vC Aa l,I M]:=g1;refine⟨1+v,2+w,1+y,?_,by omega,by omega,by omega⟩;rw[Z2a,N];simp only[af,gA,wA,bA,jA,CQ,Ei,Dy,Bp];rw[L];simp only[af,CQ,Ei,Dy];rw[g2];simp only[af,CQ,Ei,Dy];rw[S];simp only[af,CQ,Ei,Dy];rw[Ae (x:=1+v),Ae (x:=2+w),Ae (x:=1+y)]
theorem Zk2 {G MP L MF:Fn} (M:GN T G) (N:MF [.vC Aa T]=some [.vC Aa T,I 0]) {x:Ax3} (O:L [.vC Aa l]=some (AI x)) (S:Ax3M x) {a b c:Int} (U:MP [.vC Aa T]=some [I a,I b,I c]) (Y:1<=a/\a<=900) (h2:2<=b/\b<=201) (h3:1<=c/\c<=16000) (V:T.length<=100000):
  ∃bH lag:Int,Yx G MP L MF [.vC Aa l, .vC Aa T]=some (AI x++[I a,I b,I c,I bH,I lag])/\MachOK x a b c bH lag:=by
 obtain⟨k0,D⟩:∃k0:Nat,mn 3 (T.length:Int)=k0:=⟨(mn 3 (T.length:Int)).toNat,by unfold mn;split<;>omega⟩;obtain⟨v,X,g1,v0,v1,-⟩:=M k0 (n:=60000) (by omega);obtain⟨w,k2,g2,w0,w1,-⟩:=M X (n:=40) (by omega);refine⟨1+v,w,?_,⟨S,⟨by omega,by omega,by omega⟩,by omega,by omega⟩⟩;rw[Z1v,N,O,U];simp only[af,gA,wA,bA,jA,CQ,Ei,Dy,Bp];rw[D,g1];simp only[af,CQ,Ei,Dy];rw[g2];simp only[af,CQ,Ei,Dy];rw[Ae (x:=1+v)];rfl
theorem Zh1 (G:Src l) (D:Src T) (L:T.length<=100000):∃(x:Ax3) (a b c bH lag:Int),NS [.vC Aa l, .vC Aa T]=some (AI x++[I a,I b,I c,I bH,I lag])/\MachOK x a b c bH lag:=by
 obtain⟨x,M,N⟩:=Z2i G;obtain⟨a,b,c,O,S,U,V⟩:=Znp (MF:=Cu) (Hv D) (QM T);obtain⟨bH,lag,g1,g2⟩:=Zk2 (MP:=RW) (MF:=Cu) (Hv D) (QM T) M N O S U V L;exact⟨x,a,b,c,bH,lag,g1,g2⟩
theorem Z7m (L:List (Rw)) (D:L.length<=1000):Out (λo=>o.1=1/\o.2=[B false]\/o.1=2/\∀l∈L,l.length<=60) (Am TI [.vC [Kd.sl Aa] (L.map λl=>[.vC Aa l]),I L.length,I ((0:Nat):Int)]):=by
 refine CJ (λi:Nat=>[.vC [Kd.sl Aa] (L.map λl=>[.vC Aa l]),I L.length,I (i:Int)]) (λi=>i<=L.length/\∀l∈L.take i,l.length<=60) (λi=>L.length-i) _ ?_ 0 (by simp);rintro i ⟨N,G⟩;rw[Z2v];refine .cond (λc=> ?_) λc=> .some (.inr ⟨by simp, .inr ⟨rfl,?_⟩⟩)
 ·have c:(i:Int)<(L.length:Int):=Bl c;have M:i<L.length:=by omega
  refine .cond (λ_=> ?_) λe=>(inB (by omega) (by rw[ag];exact c) e).elim;rw[al,Gb [] _ i (by rw[ag];exact M),i6];refine .cond (λ_=> .some (.inr ⟨by simp, .inl ⟨rfl,rfl⟩⟩)) λq=> ?_;have q: ¬(L[i].length:Int)>60:=Bs q;rw[Ae (x:=(i:Int)+1)];refine .some (.inl ⟨rfl,i+1,rfl,⟨by omega,?_⟩,by omega⟩);intro l D;rw[j5,am M]at D;rcases bj.1 D with D|D
  ·exact G l D
  ·simp at D;subst D;omega
 ·have c: ¬(i:Int)<(L.length:Int):=Bs c;rw[f9 (by omega)]at G;exact G
theorem Z64 {L:List (Rw)} (I:L.length<=1000):∃b:Bool,KU [.vC [Kd.sl Aa] (L.map λl=>[.vC Aa l])]=some [B b]/\(b=true->∀l∈L,l.length<=60):=by
 obtain⟨o,M,N⟩:=Z7m L I;have e:KU [.vC [Kd.sl Aa] (L.map λl=>[.vC Aa l])]=Ww (Am TI) [.vC [Kd.sl Aa] (L.map λl=>[.vC Aa l])]:=rfl;rw[e,Z1s,ag];rw[show(0:Int)=((0:Nat):Int)from rfl,M];obtain⟨o1,o2⟩:=o;rcases N with⟨D,G⟩|⟨D,G⟩
 ·dsimp only at D G;subst D G;exact⟨false,rfl,λh=>by cases h⟩
 ·dsimp only at D G;subst D;exact⟨true,rfl,λ_=>G⟩
abbrev Zpr:Itm:=⟨0,0,⟨0,0,0⟩,⟨0,0,0⟩,0,⟨0,0,0⟩,0,false,0,false,0,0,0,0,0,false⟩
def itK (K:Kf) (i:Int):Itm:=K.aA.getD i.toNat Zpr
def mkK (K:Kf) (i:Int):Mrk:=K.p.aD.getD i.toNat ⟨0,0,0⟩
theorem JH (D:0<=a) (G:a<K.aA.length):nth [] (K.aA.map Ah) a.toNat=Ah (itK K a):=by
 have h:a.toNat<K.aA.length:=by omega
 rw[Q0m K h];unfold itK;rw[List.getD,am h];rfl
theorem Nw (D:0<=a) (G:a<K.p.aD.length):nth [] (K.p.aD.map At) a.toNat=At (mkK K a):=by
 have h:a.toNat<K.p.aD.length:=by omega
 rw[Z7d K h];unfold mkK;rw[List.getD,am h];rfl
theorem U4 (h:KOK K) {i:Int} (G:0<=i) (I:i<K.p.aD.length):0<=(mkK K i).aU/\(mkK K i).aU<K.aA.length/\i64 (mkK K i).at_:=by
 have D:i.toNat<K.p.aD.length:=by omega
 unfold mkK;rw[List.getD,am D];exact h.aD _ (cd D)
theorem inR {n:Nat} (D:0<=a) (G:a<(n:Int)):(decide (0<=a)&&decide (a<(n:Int)))=true:=by
 rw[ai D,ai G];rfl
theorem inM {β:Type} {f:β->List AC} {i:Int} {l:List β} (D:0<=i) (G:i<(l.length:Int)):(decide (0<=i)&&decide (i<((l.map f).length:Int)))=true:=inR D (by rw[ag];exact G)
def DO (K:Kf) (c:Cv):Option Sgm:=K.p.aF[(Bg K.p.aF (max (A_ K c) 0)).1]?
def vF (K:Kf) (c:Cv):Sgm:=(DO K c).getD sg0
theorem Wp {c:Cv} (h:DO K c=some g):g∈K.p.aF:=bm h
theorem Id (h:KOK K) {c:Cv} (D:(vF K c).aX≠0):0<=(vF K c).aU/\(vF K c).aU<K.aA.length/\i64 (vF K c).aX:=by
 unfold vF at D⊢;cases e:DO K c with
 |none=>rw[e]at D;exact absurd rfl D
 |some g=>exact h.aF g (Wp e)
theorem Z7g {c:Cv} (G:Z (Ac K c)=some [I (A_ K c)])
  (L:M (Bk K.p++[I (A_ K c)])=if K.p.aF=[]then some [I (-1),I 0]else some [I (Bg K.p.aF (max (A_ K c) 0)).1,I (Bg K.p.aF (max (A_ K c) 0)).2]):
  Qrm M Z (Ac K c)=some (Aw (vF K c)++[B (DO K c).isSome]):=by
 rw[Zls];refine eB G (db (ii (λz=>Option.bind z _) (show M (Bk K.p++[I (A_ K c)])=_ from L)) ?_);by_cases e:K.p.aF=[]
 ·have e2:DO K c=none:=by unfold DO;rw[e];rfl
  unfold vF;rw[aa e,e2];rfl
 ·have D:=Qbn K.p.aF (max (A_ K c) 0) e;have e2:DO K c=some K.p.aF[(Bg K.p.aF (max (A_ K c) 0)).1]:=am D;unfold vF;rw[ab e,e2];refine eB rfl (eF (aj (show¬((Bg K.p.aF (max (A_ K c) 0)).1:Int)<0 by omega)) (eT (inM (f:=Aw) (l:=K.p.aF) (i:=((Bg K.p.aF (max (A_ K c) 0)).1:Int)) (by omega) (by omega)) ?_));have N:nth [] (K.p.aF.map Aw) ((Bg K.p.aF (max (A_ K c) 0)).1:Int).toNat=Aw K.p.aF[(Bg K.p.aF (max (A_ K c) 0)).1]:=by
   rw[al,Gb [] _ _ (by rw[ag];exact D),i6]
  show some (AM Ag (nth [] (K.p.aF.map Aw) ((Bg K.p.aF (max (A_ K c) 0)).1:Int).toNat)++[B true])=_;rw[N];rfl
theorem Vd (h:KOK K) (c:Cv):EG (Ac K c)=some (Aw (vF K c)++[B (DO K c).isSome]):=
 Z7g (Pb h c) (VN h.f.p.ok (Qqj h.f _))
def I4 (K:Kf) (c:Cv):Bool:=(DO K c).isSome&&((itK K (vF K c).aU).aP==6&&c.y0==(vF K c).aU)
theorem Zfs {c:Cv} (h:KOK K) (I:M (Ac K c)=some (Aw (vF K c)++[B (DO K c).isSome])):VA M (Ac K c)=some [B (I4 K c)]:=by
 rw[Ze7,I];unfold I4 vF;cases e:DO K c with
 |none=>rfl
 |some g=>
  obtain⟨D,G,-⟩:=h.aF g (Wp e);refine eB rfl (eT rfl (eT (inM (f:=Ah) D G) ?_));show cond (gA (nth [] (K.aA.map Ah) g.aU.toNat) 0==6) (some [B (c.y0==g.aU)]) (some [B false])=some [B (true&&((itK K g.aU).aP==6&&c.y0==g.aU))];rw[JH D G];show cond ((itK K g.aU).aP==6) (some [B (c.y0==g.aU)]) (some [B false])=_;cases((itK K g.aU).aP==6)<;>rfl
theorem Z1x (h:KOK K) (c:Cv):K3 (Ac K c)=some [B (I4 K c)]:=Zfs h (Vd h c)
def spV (c:Cv) (bH:Int):Int:=if c.s1<c.s2 then mn (V (c.s1+bH)) c.s2 else mx (V (c.s1-bH)) c.s2
def spS (c:Cv) (bH:Int):Cv:={c with s1:=spV c bH,s3:=V (c.s3+V (c.s0*spV c bH))}
theorem Z29 (c:Cv) (bH:Int):Ka [I c.s0,I c.s1,I c.s2,I c.s3,I bH]=some [I (spS c bH).s0,I (spS c bH).s1,I (spS c bH).s2,I (spS c bH).s3]:=by
 show Yg _=_;rw[Zu2];show _=some [I c.s0,I (spV c bH),I c.s2,I (V (c.s3+V (c.s0*spV c bH)))];unfold spV;by_cases h:c.s1<c.s2
 ·rw[BG (ai h),aa h]
 ·rw[Bj (aj h),ab h]
def E2 (c:Cv):Bool:=c.m1==0&&(c.m2==0&&(c.m3==c.m0&&c.m4==c.m0))
theorem Q7h (c:Cv):HF [I c.m0,I c.m1,I c.m2,I c.m3,I c.m4,I c.m5]=some [B (E2 c)]:=by
 show Qcn _=_;rw[Z3l];unfold E2;cases(c.m1==0)<;>cases(c.m2==0)<;>cases(c.m3==c.m0)<;>rfl
def PI (b:Bool) (n:Int):Bool:=if n=0 then false else if n=1 then true else b
theorem Qsv (b:Bool) (n:Int):PV [B b,I n]=some [B (PI b n)]:=by
 show YZ _=_;rw[Zj4];unfold PI;by_cases h:n=0
 ·rw[aa h,BG (by simpa using h)]
 ·rw[ab h,Bj (by simpa using h)];by_cases h:n=1
  ·rw[aa h,BG (by simpa using h)]
  ·rw[ab h,Bj (by simpa using h)]
def Nx (k n:Int):Bool:=k==9||(k==8&&(decide (0<=n)&&decide (n<=2)))
def evC (c:Cv) (k n:Int):Cv:={c with
 o0:=if k=1/\0<=n/\n<=200 then n else c.o0
 o1:=if k=2/\0<=n/\n<=100 then n else c.o1
 o2:=if k=3\/k=11 then true else if k=4 then false else c.o2
 o3:=if k=5 then PI c.o3 n else c.o3
 o4:=if k=6 then PI c.o4 n else c.o4
 g0:=if k=10 then 2 else if k=11 then 0 else if Nx k n=true then(if c.g0=2 then 2 else 1)else c.g0
 g1:=if k=10 then 22 else if k=11 then 0 else if Nx k n=true/\c.g0≠2/\c.g1=0 then(if k=9 then 21 else 20)else c.g1
 g2:=if k=10 then-1 else if k=11 then-1 else if Nx k n=true/\c.g0≠2/\c.g1=0 then(if k=9 then-1 else n)else c.g2
 aJ:=if k=4 then true else c.aJ}
theorem Qtu (T:∀(b:Bool) (n:Int),M [B b,I n]=some [B (PI b n)]) (c:Cv) (x k n:Int) (U:k≠11):
  Sp M [I c.o0,I c.o1,B c.o2,B c.o3,B c.o4,I x,I k,I n]=some [I (evC c k n).o0,I (evC c k n).o1,B (evC c k n).o2,B (evC c k n).o3,B (evC c k n).o4]:=by
 rw[Q2u];unfold evC;simp only[T];by_cases D:k=1
 ·subst D;by_cases a:0<=n<;>by_cases b:n<=200<;>simp[a,b]
 ·by_cases G:k=2
  ·subst G;by_cases a:0<=n<;>by_cases b:n<=100<;>simp[a,b]
  ·by_cases L:k=3
   ·subst L;simp
   ·by_cases N:k=4
    ·subst N;simp
    ·by_cases O:k=5
     ·subst O;simp[gA,bA,nth,Df]
     ·by_cases S:k=6
      ·subst S;simp[gA,bA,nth,Df]
      ·simp only[beF D,beF G,beF L,beF N,beF O,beF S,aq];simp[D,G,L,N,O,S,U]
theorem Yc2 (c:Cv) (x n:Int):
  Sp M [I c.o0,I c.o1,B c.o2,B c.o3,B c.o4,I x,I 11,I n]=some [I c.o0,I c.o1,B c.o2,B c.o3,B c.o4]:=by
 rw[Q2u];rfl
theorem Q5p (a b d e f:Int):QP [I a,I b,I d,I e,I f]=some (if a=2 then [I a,I b,I d]else if b=0 then [I 1,I e,I f]else [I 1,I b,I d]):=by
 show Yt _=_;rw[Zvk];by_cases h:a=2
 ·rw[aa h,BG (by simpa using h)]
 ·rw[ab h,Bj (by simpa using h)];by_cases h:b=0
  ·rw[aa h,BG (by simpa using h)]
  ·rw[ab h,Bj (by simpa using h)]
theorem Qun (O:M []=some [I 0,I 0,I (-1)]) (S:∀a b d e f:Int,Z [I a,I b,I d,I e,I f]=some (if a=2 then [I a,I b,I d]else if b=0 then [I 1,I e,I f]else [I 1,I b,I d])) (c:Cv) (x k n:Int):
  Qg1 M Z [I c.g0,I c.g1,I c.g2,I x,I k,I n]=some [I (evC c k n).g0,I (evC c k n).g1,I (evC c k n).g2]:=by
 rw[Zjx];unfold evC;simp only[S,O];by_cases D:k=10
 ·subst D;rfl
 ·by_cases G:k=9
  ·subst G;by_cases a:c.g0=2<;>by_cases b:c.g1=0<;>simp[Nx,a,b,gA,jA,nth,Af]
  ·by_cases L:k=8
   ·subst L;by_cases u:0<=n<;>by_cases v:n<=2<;>by_cases a:c.g0=2<;>by_cases b:c.g1=0<;>simp[Nx,a,b,u,v,gA,jA,nth,Af]
   ·by_cases N:k=11
    ·subst N;rfl
    ·simp only[beF D,beF G,beF L,beF N,aq];simp[Nx,D,G,L,N]
theorem Z1o (c:Cv) (x:Int) {k:Int} (n:Int) (D:k≠7/\k≠12/\k≠13)
  (O:k≠11->P [I c.o0,I c.o1,B c.o2,B c.o3,B c.o4,I x,I k,I n]=some [I (evC c k n).o0,I (evC c k n).o1,B (evC c k n).o2,B (evC c k n).o3,B (evC c k n).o4])
  (G:k=11->P [I c.o0,I c.o1,B c.o2,B c.o3,B c.o4,I x,I k,I n]=some [I c.o0,I c.o1,B c.o2,B c.o3,B c.o4])
  (N:S [I c.g0,I c.g1,I c.g2,I x,I k,I n]=some [I (evC c k n).g0,I (evC c k n).g1,I (evC c k n).g2]):
  SJ M Z W S P (I x::I k::I n::Ac K c)=some (Ac K (evC c k n)):=by
 rw[Qyh];by_cases h:k=11
 ·rw[G h,N];subst h;rfl
 ·rw[O h,N];simp only[af];rw[Bj (by simpa using D.2.2),Bj (by simpa using h),Bj (by simpa using D.2.1),Bj (by simpa using D.1)];by_cases L:k=4
  ·subst L;rfl
  ·rw[Bj (by simpa using L)];have e:(evC c k n).aJ=c.aJ:=by unfold evC;simp[L]
   rw[<-e];rfl
theorem Zi7 (c:Cv) (x:Int) {k:Int} (n:Int) (D:k≠7/\k≠12/\k≠13):Je (I x::I k::I n::Ac K c)=some (Ac K (evC c k n)):=
 Z1o c x n D (λh=>Qtu Qsv c x k n h) (λh=>by subst h;exact Yc2 c x n) (Qun (by show PS []=_;rw[Xo]) Q5p c x k n)
end Go.Bm
noncomputable section
namespace Go.Bm
def one (M:Fn) (l:List AC):Int:=gA ((M l).getD []) 0
theorem Qlz (h:M o=some [I v]):M o=some [I (one M o)]:=by
 unfold one;rw[h];rfl
def HU (k:Int) (c:Cv):Bool:=k==1||(k==3||(k==6||(k==4&&(c.o4||c.o3)||k==2&&c.o3)))
theorem Qxj (at_ k it:Int) (c:Cv):Iz [I at_,I k,I it,I c.o0,I c.o1,B c.o2,B c.o3,B c.o4]=some [B (HU k c)]:=by
 show Qm8 _=_;rw[Ybo];unfold HU;by_cases D:k=1
 ·subst D;rfl
 by_cases G:k=3
 ·subst G;rfl
 by_cases L:k=6
 ·subst L;rfl
 by_cases M:k=4
 ·subst M;cases c.o4<;>cases c.o3<;>rfl
 by_cases N:k=2
 ·subst N;cases c.o3<;>rfl
 simp[beF D,beF G,beF L,beF M,beF N]
def G7 (c:Cv) (known frm:Int):List Mrk->Nat->Int×Int
 |[],_=>(known,-1)
 |m::l,i=>if HU m.aP c=true/\frm<=m.at_/\m.at_<=known then(m.at_,i)else G7 c known frm l (i+1)
def BR (K:Kf) (c:Cv) (known frm:Int):Int×Int:=G7 c known frm (K.p.aD.drop (max c.next 0).toNat) (max c.next 0).toNat
theorem Zym (U:K.p.aD.length<=1000000) (c:Cv) (V:∀at_ k it:Int,M [I at_,I k,I it,I c.o0,I c.o1,B c.o2,B c.o3,B c.o4]=some [B (HU k c)]) (known frm:Int):
  Qgc M (Am (R6 M)) [.vC kPt (K.p.aD.map At),I c.next,I c.o0,I c.o1,B c.o2,B c.o3,B c.o4,I known,I frm]=some [I (BR K c known frm).1,I (BR K c known frm).2]:=by
 rw[Ziu];have N:mx c.next 0=max c.next 0:=by unfold mx;split<;>omega
 have key:Out (λo=>(if o.1=1 then o.2=[I (BR K c known frm).1,I (BR K c known frm).2]else o.1=2/\o.2=[I (BR K c known frm).1]/\(BR K c known frm).2= -1)) (Am (R6 M) [.vC kPt (K.p.aD.map At),I known,I frm,I (max c.next 0),I c.o0,I c.o1,B c.o2,B c.o3,B c.o4]):=by
  refine CJ (λs:Int=>[.vC kPt (K.p.aD.map At),I known,I frm,I s,I c.o0,I c.o1,B c.o2,B c.o3,B c.o4]) (λs=>0<=s/\BR K c known frm=G7 c known frm (K.p.aD.drop s.toNat) s.toNat) (λs=>(K.p.aD.length-s).toNat) _ ?_ (max c.next 0) ⟨by omega,rfl⟩;rintro i ⟨g,D⟩;rw[Zpu];refine .cond (λk=> ?_) λk=> ?_
  ·have k:i<((K.p.aD.map At).length:Int):=Bl k;rw[ag]at k;have O:i.toNat<K.p.aD.length:=by omega
   rw[Ae (x:=i+1) (by have:=U;omega)];have em:mkK K i=K.p.aD[i.toNat]:=by unfold mkK;rw[List.getD,am O];rfl
   rw[gn O,<-em]at D;unfold G7 at D;refine .cond (λ_=> ?_) λe=>(inB g (by rw[ag];exact k) e).elim;rw[Nw g k];refine .bind (p:=λo=>o=_) ⟨_,V _ _ _,rfl⟩ λo e=> ?_;subst e;have next:BR K c known frm=G7 c known frm (K.p.aD.drop (i.toNat+1)) (i.toNat+1)->Out (λo:Nat×List AC=>(o.1=0/\∃G:Int,o.2=[.vC kPt (K.p.aD.map At),I known,I frm,I G,I c.o0,I c.o1,B c.o2,B c.o3,B c.o4]/\(0<=G/\BR K c known frm=G7 c known frm (K.p.aD.drop G.toNat) G.toNat)/\(K.p.aD.length-G).toNat<(K.p.aD.length-i).toNat)\/(o.1≠0/\(if o.1=1 then o.2=[I (BR K c known frm).1,I (BR K c known frm).2]else o.1=2/\o.2=[I (BR K c known frm).1]/\(BR K c known frm).2= -1))) (some (0,[.vC kPt (K.p.aD.map At),I known,I frm,I (i+1),I c.o0,I c.o1,B c.o2,B c.o3,B c.o4])):=λe=>
    .some (.inl ⟨rfl,i+1,rfl,⟨by omega,by rw[e,show(i+1).toNat=i.toNat+1 by omega]⟩,by omega⟩)
   refine .cond (λa=> .cond (λb=> .cond (λd=> ?_) λd=> ?_) λb=> ?_) λa=> ?_
   ·have a:HU (mkK K i).aP c=true:=a;have b:frm<=(mkK K i).at_:=Bl b;have d:(mkK K i).at_<=known:=Bl d;rw[aa ⟨a,b,d⟩]at D;refine .some (.inr ⟨by simp,?_⟩);rw[aa rfl,D];show [I (mkK K i).at_,I i]=[I (mkK K i).at_,I (i.toNat:Int)];rw[Int.toNat_of_nonneg g]
   ·have d: ¬(mkK K i).at_<=known:=Bs d;rw[ab (λh=>d h.2.2)]at D;exact next D
   ·have b: ¬frm<=(mkK K i).at_:=Bs b;rw[ab (λh=>b h.2.1)]at D;exact next D
   ·have a:HU (mkK K i).aP c=false:=a;rw[ab (λh=>by rw[a]at h;cases h.1)]at D;exact next D
  ·have k: ¬i<((K.p.aD.map At).length:Int):=Bs k;rw[ag]at k;rw[d6 (by omega)]at D;refine .some (.inr ⟨by simp,?_⟩);rw[ab (by simp),D];exact⟨rfl,rfl,rfl⟩
 obtain⟨⟨o1,o2⟩,X,L⟩:=key;rw[N];refine eB X ?_;by_cases e:o1=1
 ·subst e;have L:o2=_:=L;subst L;rfl
 ·rw[ab e]at L;obtain⟨S,T,Y⟩:=L;dsimp only at S T;subst S T;rw[Y];rfl
theorem Z55 (h:KOK K) (c:Cv) (known frm:Int):Qa [.vC kPt (K.p.aD.map At),I c.next,I c.o0,I c.o1,B c.o2,B c.o3,B c.o4,I known,I frm]=some [I (BR K c known frm).1,I (BR K c known frm).2]:=
 Zym h.count c (λat_ k it=>Qxj at_ k it c) known frm
theorem Q4u {c:Cv} {known frm:Int} (D:i64 known):∀{l:List Mrk} {i:Nat},(∀m∈l,i64 m.at_)->i64 (G7 c known frm l i).1
 |[],_,_=>D
 |m::l,i,h=>by
  unfold G7;split
  ·exact h m (by simp)
  ·exact Q4u D λq G=>h q (by simp[G])
theorem Q7t {c:Cv} {known frm:Int}:∀{l:List Mrk} {i:Nat},(G7 c known frm l i).2= -1\/((i:Int)<=(G7 c known frm l i).2/\(G7 c known frm l i).2<(i+l.length:Nat))
 |[],_=> .inl rfl
 |m::l,i=>by
  unfold G7;split
  ·exact .inr ⟨iq _,by simp only[bf];omega⟩
  ·rcases Q7t (l:=l) (i:=i+1) (c:=c) (known:=known) (frm:=frm)with h|⟨D,G⟩
   ·exact .inl h
   ·exact .inr ⟨by omega,by simp only[bf];omega⟩
theorem Zwe {c:Cv} {known frm:Int}:(BR K c known frm).2= -1\/(0<=(BR K c known frm).2/\c.next<=(BR K c known frm).2/\(BR K c known frm).2<K.p.aD.length):=by
 unfold BR;rcases Q7t (c:=c) (known:=known) (frm:=frm) (l:=K.p.aD.drop (max c.next 0).toNat) (i:=(max c.next 0).toNat)with h|⟨G,D⟩
 ·exact .inl h
 ·rw[dk]at D;exact .inr ⟨by omega,by omega,by omega⟩
def Qww (K:Kf) (c:Cv):Int:=one GG [I K.pa,I K.pb,I K.pc,I c.m0,I c.m1,I c.m2,I c.m3,I c.m4,I c.m5]
def FK (K:Kf):Int:=if K.closed=true then K.len else K.set
def FR (r:Int):Int:=V ((V (V (r+256)-1)).tdiv 256)
def Lk (K:Kf) (r:Int):Int:=if Js K.t (BJ K.t (FR r))≠FR r then V (BJ K.t (FR r)+1)else BJ K.t (FR r)
def BA (K:Kf) (c:Cv):Int×Int:=(Js K.t (BR K c (FK K) (Lk K (Qww K c))).1,(BR K c (FK K) (Lk K (Qww K c))).2)
theorem Qvu (K:Kf) (c:Cv):(BA K c).2= -1\/(0<=(BA K c).2/\c.next<=(BA K c).2/\(BA K c).2<K.p.aD.length):=Zwe
theorem Z79 (h:KOK K):i64 (FK K):=by unfold FK;split;exact h.len;exact h.set
theorem Qvz (h:KOK K) {c:Cv} {frm:Int}:i64 (BR K c (FK K) frm).1:=by
 unfold BR;exact Q4u (Z79 h) λm D=>(h.aD m (dw D)).2.2
theorem Ziv {c:Cv} {b:Bool} (h:KOK K)
  (N:S [I K.pa,I K.pb,I K.pc,I c.m0,I c.m1,I c.m2,I c.m3,I c.m4,I c.m5]=some [I r,B b])
  (O:∀u,W (A0 K.t++[I u])=some [I (BJ K.t u)]) (G:∀{z:Int},i64 z->Z (A0 K.t++[I z])=some [I (Js K.t z)])
  (L:∀known frm,M [.vC kPt (K.p.aD.map At),I c.next,I c.o0,I c.o1,B c.o2,B c.o3,B c.o4,I known,I frm]=some [I (BR K c known frm).1,I (BR K c known frm).2]):
  Z8 M Z W S (Ac K c)=some (I (Js K.t (BR K c (FK K) (Lk K r)).1)::I (BR K c (FK K) (Lk K r)).2::Ac K c):=by
 have key:∀known:Int,known=FK K->UH S K c W Z M (I known)=some (I (Js K.t (BR K c (FK K) (Lk K r)).1)::I (BR K c (FK K) (Lk K r)).2::Ac K c):=λknown T=>by
  subst T;refine eB N (eB (O (FR r)) (eB (G (Qqj h.f _)) ?_));have e1:Lk K r=if Js K.t (BJ K.t (FR r))≠FR r then V (BJ K.t (FR r)+1)else BJ K.t (FR r):=rfl;by_cases D:Js K.t (BJ K.t (FR r))=FR r
  ·rw[ab (by simpa using D)]at e1;refine eF (bnF D) ?_;exact eB (L (FK K) (BJ K.t (FR r))) (by rw[<-e1];exact eB (G (Qvz h)) rfl)
  ·rw[aa D]at e1;refine eT (bnT D) ?_;exact eB (L (FK K) (V (BJ K.t (FR r)+1))) (by rw[<-e1];exact eB (G (Qvz h)) rfl)
 rw[Yc3];refine eC (λe=>key _ ?_) λe=>key _ ?_
 ·unfold FK;rw[aa e]
 ·unfold FK;rw[ab (by rw[e];simp)]
theorem Z6a {l:List AC} (h:Out (λo=>(wA o 0).length<=4096) (M l)) {G L N D O S T U V:Int} (e:l=[I G,I L,I N,I D,I O,I S,I T,I U,I V]):∃(r:Int) (b:Bool),PM M l=some [I r,B b]:=by
 subst e;have key:Out (λo=>∃(r:Int) (b:Bool),o=[I r,B b]) (PM M [I G,I L,I N,I D,I O,I S,I T,I U,I V]):=by
  rw[Zcj];refine .bind h λo g=> .cond (λ_=> .some ⟨0,false,rfl⟩) λ_=> ?_;generalize wA o 0=X at*;refine .cond (λ_=> .some ⟨D,true,rfl⟩) λc=> .cond (λ_=> .some ⟨_,true,rfl⟩) λd=> ?_;have c: ¬((X.length:Int)=0):=by simpa using c
  rw[Ae]at d;simp at d;omega
 obtain⟨o,Y,r,b,rfl⟩:=key;exact⟨r,b,Y⟩
theorem Zxl (D G L N O S T U V:Int):∃b:Bool,GG [I D,I G,I L,I N,I O,I S,I T,I U,I V]=some [I (one GG [I D,I G,I L,I N,I O,I S,I T,I U,I V]),B b]:=by
 obtain⟨r,b,h⟩:=Z6a (M:=FM) (Qq7 D G L N O S T U V) rfl;have h:GG [I D,I G,I L,I N,I O,I S,I T,I U,I V]=some [I r,B b]:=h;refine⟨b,?_⟩;unfold one;rw[h];rfl
theorem Zxw (h:KOK K) (c:Cv):Q9 (Ac K c)=some (I (BA K c).1::I (BA K c).2::Ac K c):=by
 obtain⟨b,hb⟩:=Zxl K.pa K.pb K.pc c.m0 c.m1 c.m2 c.m3 c.m4 c.m5;exact Ziv h hb (RY h.f.t.q) (λD=>Zje h.f.t.q D) (Z55 h c)
def UF (c:Cv) (v:Int):Cv:={c with m0:=V (c.m0+v),m1:=v,m2:=V (v-c.m1),m3:=c.m0,m4:=c.m3,m5:=c.m4}
def Dx (K:Kf) (c:Cv) (l:Int):Cv:=UF c (nxV K c l)
theorem Qlo {c:Cv} {n:Int} (h:KOK K) (g:Gd K n c) (l:Int):
  Fs (nxL K c l)=some (Ec c.m0 c.m1 c.m3 c.m4 (nxV K c l))/\((Bi K.pa K.pb (nxV K c l) (V (nxV K c l-c.m1))).2=true\/∃r:Int,nxV K c l=V (c.m1+r)/\r=AJ K.pa K.pb c.m1 c.m2):=by
 obtain⟨o,D,v,rfl,G⟩:=Q6f h g.mo l c.o2;have D:Fs (nxL K c l)=some (Ec c.m0 c.m1 c.m3 c.m4 v):=D;have e:nxV K c l=v:=by unfold nxV;rw[D];rfl
 rw[e];exact⟨D,G⟩
theorem Ze8 {c:Cv} (h:M (nxL K c a)=some (Ec c.m0 c.m1 c.m3 c.m4 v)):Qr0 M (I a::Ac K c)=some (Ac K (UF c v)):=by
 rw[Zka];exact eB h rfl
theorem Qf0 {c:Cv} {n:Int} (h:KOK K) (g:Gd K n c) (l:Int):HS (I l::Ac K c)=some (Ac K (Dx K c l)):=Ze8 (Qlo h g l).1
theorem Y_ {c:Cv} {n:Int} (h:KOK K) (g:Gd K n c) (D:0<=n/\n<=10000) (l:Int):Gd K (n+1) (Dx K c l):=g.bD h D (Qlo h g l).2
def IE (c:Cv):Cv:={c with next:=V (c.idx+1),on:=false,idx:=0,aN:=false,cnt:=0}
def Pu (c:Cv) (n D:Int):List AC:=(La [I c.s0,I c.s1,I c.s2,I c.s3,I n,I D]).getD []
def JV (c:Cv) (n D:Int):Cv:={c with s0:=gA (Pu c n D) 0,s1:=gA (Pu c n D) 1,s2:=gA (Pu c n D) 2,s3:=gA (Pu c n D) 3}
def Zbd (c:Cv) (n D:Int):Bool:=bA ((Nb [I c.s0,I c.s1,I c.s2,I c.s3,I n,I D]).getD []) 0
def Jd (K:Kf) (c:Cv):Int×Cv:=
 if c.aN=true then(if c.cnt>1/\c.aJ=true then(3,IE c)else(2,c))
 else if(mkK K c.idx).aP≠3 then(3,IE c)
 else if(itK K (mkK K c.idx).aU).aP=7 then(if c.cnt<(itK K (mkK K c.idx).aU).n then(3,c)else(3,IE c))
 else if(itK K (mkK K c.idx).aU).aP=8 then(if Zbd (JV c (itK K (mkK K c.idx).aU).n (itK K (mkK K c.idx).aU).aS) (itK K (mkK K c.idx).aU).n (itK K (mkK K c.idx).aU).aS=true then(3,IE (JV c (itK K (mkK K c.idx).aU).n (itK K (mkK K c.idx).aU).aS))else(3,JV c (itK K (mkK K c.idx).aU).n (itK K (mkK K c.idx).aU).aS))
 else if(itK K (mkK K c.idx).aU).aP=14 then(7,{c with aI:=7})else(3,IE c)
def CW (c:Cv):Cv:={c with cnt:=V (c.cnt+1)}
def CE (K:Kf) (c:Cv):Int×Cv:=Jd K (CW c)
theorem Z8c {c:Cv} (h:KOK K) (T:0<=c.idx) (U:c.idx<K.p.aD.length)
  (N:∀c:Cv,W (Ac K c)=some (I 3::Ac K (IE c)))
  (V:∀(c:Cv) (O G:Int),i64 G->Z [I c.s0,I c.s1,I c.s2,I c.s3,I O,I G]=some (Pu c O G)) (X:∀(c:Cv) (O G:Int),i64 G->Out (λo=>bA o 0=Zbd c O G) (M [I c.s0,I c.s1,I c.s2,I c.s3,I O,I G])):
  Wt M Z W (Ac K c)=some (I (CE K c).1::Ac K (CE K c).2):=by
 rw[Zvv];have L:=U4 h T U;unfold CE Jd;refine eC (λa=> ?_) λa=> ?_
 ·rw[aa (show(CW c).aN=true from a)];refine eC (λb=>eC (λe=> ?_) λe=> ?_) λb=> ?_
  ·rw[aa (show(CW c).cnt>1/\(CW c).aJ=true from⟨Bl b,e⟩)];exact eB (N (CW c)) rfl
  ·rw[ab (show¬((CW c).cnt>1/\(CW c).aJ=true)from λq=>by have:=q.2;rw[show(CW c).aJ=false from e]at this;cases this)];rfl
  ·rw[ab (show¬((CW c).cnt>1/\(CW c).aJ=true)from λq=>Bs b q.1)];rfl
 ·rw[ab (show¬(CW c).aN=true by rw[show(CW c).aN=false from a];simp)];refine eT (inM (f:=At) T U) ?_;rw[Nw T U];rw[show(CW c).idx=c.idx from rfl];refine eC (λb=> ?_) λb=> ?_
  ·have b:(mkK K c.idx).aP≠3:=by simpa [gA,nth,Af]using b
   rw[aa b];exact eB (N (CW c)) rfl
  ·have b:(mkK K c.idx).aP=3:=by simpa [gA,nth,Af]using b
   rw[ab (by rw[b];simp)];refine eT (inM (f:=Ah) (l:=K.aA) (i:=(mkK K c.idx).aU) L.1 L.2.1) ?_;have Y:nth [] (K.aA.map Ah) (gA (At (mkK K c.idx)) 2).toNat=Ah (itK K (mkK K c.idx).aU):=JH L.1 L.2.1;rw[Y];have S:(itK K (mkK K c.idx).aU).aP=8->i64 (itK K (mkK K c.idx).aU).aS:=λD=>by
    have:=Ztd h (mkK K c.idx).aU.toNat;rw[JH L.1 L.2.1]at this;exact this D
   generalize itK K (mkK K c.idx).aU=it at*;refine eC (λk=> ?_) λk=> ?_
   ·have k:it.aP=7:=eq_of_beq k;rw[aa k];refine eC (λq=> ?_) λq=> ?_
    ·rw[aa (show(CW c).cnt<it.n from Bl q)];rfl
    ·rw[ab (show¬(CW c).cnt<it.n from Bs q)];exact eB (N (CW c)) rfl
   ·have k:it.aP≠7:=by simpa [gA,nth,Af]using k
    rw[ab k];refine eC (λD=> ?_) λD=> ?_
    ·have D:it.aP=8:=eq_of_beq D;rw[aa D];refine eB (V (CW c) it.n it.aS (S D)) ?_;obtain⟨o,h5,h6⟩:=X (JV (CW c) it.n it.aS) it.n it.aS (S D);refine eB h5 ?_;rw[<-h6];refine eC (λq=> ?_) λq=> ?_
     ·rw[ab (show¬bA o 0=true by simpa using q)];rfl
     ·rw[aa (show bA o 0=true by simpa using q)];exact eB (N (JV (CW c) it.n it.aS)) rfl
    ·have D:it.aP≠8:=by simpa [gA,nth,Af]using D
     rw[ab D];refine eC (λk=> ?_) λk=> ?_
     ·rw[aa (show it.aP=14 from eq_of_beq k)];rfl
     ·rw[ab (show it.aP≠14 by simpa [gA,nth,Af]using k)];exact eB (N (CW c)) rfl
theorem Qgq {l:Option (List AC)} (h:l.isSome=true):l=some (l.getD []):=by
 cases l with
 |none=>cases h
 |some o=>rfl
theorem Zpg (c:Cv) (G:Int) {D:Int} (h:i64 D):La [I c.s0,I c.s1,I c.s2,I c.s3,I G,I D]=some (Pu c G D):=Qgq (Zlw _ _ _ _ _ h)
theorem Zwg (K:Kf) (c:Cv):ON (Ac K c)=some (I 3::Ac K (IE c)):=Zv1 K c
theorem Qzl {c:Cv} (h:KOK K) (G:0<=c.idx) (L:c.idx<K.p.aD.length):KD (Ac K c)=some (I (CE K c).1::Ac K (CE K c).2):=
 Z8c h G L (Zwg K) (λc D _ h=>Zpg c D h) λc D M h=>⟨_,Qgq (Yal _ _ _ _ _ h),rfl⟩
def G8 (K:Kf) (c:Cv) (i:Int):Bool:=
 if(mkK K i).aP=1\/(mkK K i).aP=2\/(mkK K i).aP=6 then c.o3 else if(mkK K i).aP=4 then true
 else if(mkK K i).aP=3 then((itK K (mkK K i).aU).aP==11||(itK K (mkK K i).aU).aP==12)else false
def Fg (K:Kf) (c:Cv) (i:Int):Int×Cv:=CE K {c with on:=true,idx:=i,aN:=G8 K c i,cnt:=0}
theorem Z4d {c:Cv} (h:KOK K) (N:0<=a) (O:a<K.p.aD.length)
  (U:∀w:Bool,M (Ac K {c with on:=true,idx:=a,aN:=w,cnt:=0})=some (I (CE K {c with on:=true,idx:=a,aN:=w,cnt:=0}).1::Ac K (CE K {c with on:=true,idx:=a,aN:=w,cnt:=0}).2)):
  Qhv M (I a::Ac K c)=some (I (Fg K c a).1::Ac K (Fg K c a).2):=by
 rw[Ycz];have G:=U4 h N O;unfold Fg;refine eT (inM (f:=At) N O) ?_;rw[Nw N O];have fin:∀{w:Bool} {f:List AC->List AC},w=G8 K c a->(∀(m:Int) (c:Cv),f (I m::Ac K c)=I m::Ac K c)->((M (Ac K {c with on:=true,idx:=a,aN:=w,cnt:=0})).bind λo=>some (f o))=some (I (CE K {c with on:=true,idx:=a,aN:=G8 K c a,cnt:=0}).1::Ac K (CE K {c with on:=true,idx:=a,aN:=G8 K c a,cnt:=0}).2):=λL hf=>by
  subst L;refine eB (U _) ?_;rw[hf]
 have ne:∀{n:Int},(gA (At (mkK K a)) 1==n)=false->(mkK K a).aP≠n:=λe=>by simpa [gA,nth,Af]using e
 have D:∀{n:Int},(gA (At (mkK K a)) 1==n)=true->(mkK K a).aP=n:=λe=>eq_of_beq e;refine eC (λe=>fin (by unfold G8;rw[aa (.inl (D e))]) λ_ _=>rfl) λV=> ?_;refine eC (λe=>fin (by unfold G8;rw[aa (.inr (.inl (D e)))]) λ_ _=>rfl) λX=> ?_;refine eC (λe=>fin (by unfold G8;rw[aa (.inr (.inr (D e)))]) λ_ _=>rfl) λY=> ?_;have S: ¬((mkK K a).aP=1\/(mkK K a).aP=2\/(mkK K a).aP=6):=by
  intro q;rcases q with q|q|q
  ·exact ne V q
  ·exact ne X q
  ·exact ne Y q
 refine eC (λe=>fin (by unfold G8;rw[ab S,aa (D e)]) λ_ _=>rfl) λT=> ?_;refine eC (λe=> ?_) λn3=>fin (by unfold G8;rw[ab S,ab (ne T),ab (ne n3)]) λ_ _=>rfl;refine eT (inM (f:=Ah) (l:=K.aA) (i:=(mkK K a).aU) G.1 G.2.1) ?_;have er:nth [] (K.aA.map Ah) (gA (At (mkK K a)) 2).toNat=Ah (itK K (mkK K a).aU):=JH G.1 G.2.1;rw[er];have L:G8 K c a=((itK K (mkK K a).aU).aP==11||(itK K (mkK K a).aU).aP==12):=by unfold G8;rw[ab S,ab (ne T),aa (D e)]
 refine eC (λk=>fin (by rw[L,show((itK K (mkK K a).aU).aP==11)=true from k];rfl) λ_ _=>rfl) λk=>fin (by rw[L,show((itK K (mkK K a).aU).aP==11)=false from k];rfl) λ_ _=>rfl
theorem Zxk {c:Cv} (h:KOK K) (D:0<=a) (G:a<K.p.aD.length):PH (I a::Ac K c)=some (I (Fg K c a).1::Ac K (Fg K c a).2):=
 Z4d h D G λ_=>Qzl h D G
def Fv (c:Cv):Cv:=if c.g0=0 then{c with o2:=true,g0:=1,g1:=18,g2:= -1}else c
theorem W8 (K:Kf) (c:Cv):GH (Ac K c)=some (Ac K (Fv c)):=Zwx K c
def NH (c:Cv):Int:=one KG [I c.before,I c.s0]
theorem Z9y (c:Cv):KG [I c.before,I c.s0]=some [I (NH c)]:=by
 have key:∃v,KG [I c.before,I c.s0]=some [I v]:=by
  have e:KG [I c.before,I c.s0]=Qjm J9 [I c.before,I c.s0]:=rfl;have h:∀a,(J9 [I a,I 1048576]).isSome=true:=λa=>Zqe (by omega);rw[e,Z4s];generalize J9=M at*;have G:∀a,∃o,M [I a,I 1048576]=some o:=λa=>Option.isSome_iff_exists.1 (h a);cases(c.s0== -1)
  ·obtain⟨o,D⟩:=G (V (0-c.before));exact⟨_,eB D rfl⟩
  ·obtain⟨o,D⟩:=G c.before;exact⟨_,eB D rfl⟩
 obtain⟨v,h⟩:=key;exact Qlz h
def goC (K:Kf) (c:Cv) (g:Sgm):Cv:={c with y0:=g.aU,y1:=A_ K c,y2:=c.s3,e0:=1,e1:=c.m0,e2:=NH c,e3:=0}
def EA (K:Kf) (c:Cv) (g:Sgm):Bool:=(itK K g.aU).aP==6||(c.s1 !=0&& !decide (V (V (c.s3-NH c)*c.s0)<0))
theorem Zr9 {c:Cv} {s:Sgm} (G:0<=s.aU) (L:s.aU<K.aA.length) (O:Z [I c.before,I c.s0]=some [I (NH c)]) (N:M (Ac K c)=some [I (A_ K c)]):
  Qms M Z (I s.to.x::I s.to.y::I s.to.z::I s.len::I s.aU::I s.aZ::I s.aX::Ac K c)=some (B (EA K c s)::Ac K (if EA K c s=true then goC K c s else c)):=by
 rw[Z0e];refine eB O (eT (inM (f:=Ah) G L) ?_);rw[JH G L];refine eC (λe=> ?_) λe=> ?_
 ·have e:(itK K s.aU).aP≠6:=by simpa [gA,nth,Af]using e
  refine eC (λa=> ?_) λa=>eC (λb=> ?_) λb=> ?_
  ·have D:EA K c s=false:=by unfold EA;rw[beF e,bnF (eq_of_beq a)];rfl
   rw[D];rfl
  ·have D:EA K c s=false:=by unfold EA;rw[beF e,show decide (V (V (c.s3-NH c)*c.s0)<0)=true from b];simp
   rw[D];rfl
  ·have D:EA K c s=true:=by
    unfold EA;rw[show decide (V (V (c.s3-NH c)*c.s0)<0)=false from b];simp only[bne,a];simp
   rw[D];exact eB N rfl
 ·have e:(itK K s.aU).aP=6:=by simpa [gA,nth,Af]using e
  have D:EA K c s=true:=by unfold EA;rw[beT e];rfl
  rw[D];exact eB N rfl
theorem Z0s {c:Cv} {s:Sgm} (h:KOK K) (D:0<=s.aU) (G:s.aU<K.aA.length):
  QQ (I s.to.x::I s.to.y::I s.to.z::I s.len::I s.aU::I s.aZ::I s.aX::Ac K c)=some (B (EA K c s)::Ac K (if EA K c s=true then goC K c s else c)):=
 Zr9 D G (Z9y c) (Pb h c)
def Qpk (aX way:Int):Int:=one Ku [I aX,I way]
theorem Zmo (D:i64 a) (hb:i64 b):Ku [I a,I b]=some [I (Qpk a b)]:=by
 have key:∃v,Ku [I a,I b]=some [I v]:=by
  have e:Ku [I a,I b]=Yn Bt [I a,I b]:=rfl;have h:=Qkk (show i64 4096 by unfold i64;omega) hb D 0;rw[e,Zkv];generalize Bt=M at*;obtain⟨o,G⟩:=Option.isSome_iff_exists.1 h;exact⟨_,eB G rfl⟩
 obtain⟨v,h⟩:=key;exact Qlz h
def Qxe (K:Kf) (d:Cv) (g:Sgm):Int:=V (d.y2+V (V ((if(itK K g.aU).n=3 then 1 else-1)*Qpk g.aX (V (A_ K d-d.y1)))*256))
def Rc (K:Kf) (c:Cv) (l:Int) (g:Sgm):Cv:={Dx K c l with s3:=Qxe K (Dx K c l) g}
theorem Zpn {c:Cv} {s:Sgm} (D:0<=s.aU) (G:s.aU<K.aA.length)
  (L:∀v,i64 v->M [I s.aX,I v]=some [I (Qpk s.aX v)]) (N:∀c,Z (Ac K c)=some [I (A_ K c)]) (O:W (I a::Ac K c)=some (Ac K (Dx K c a))):
  Qp1 M Z W (I a::I s.to.x::I s.to.y::I s.to.z::I s.len::I s.aU::I s.aZ::I s.aX::Ac K c)=some (Ac K (Rc K c a s)):=by
 rw[Zfm];unfold Rc;generalize Dx K c a=d at*;refine eB O (eT (inM (f:=Ah) D G) ?_);show cond (gA (nth [] (K.aA.map Ah) s.aU.toNat) 19==3) _ _=_;rw[JH D G];unfold Qxe;refine eC (λe=> ?_) λe=> ?_
 ·rw[aa (show(itK K s.aU).n=3 from eq_of_beq e)];exact eB (N d) (eB (L _ (U3 _)) rfl)
 ·rw[ab (show(itK K s.aU).n≠3 by simpa [gA,nth,Af]using e)];exact eB (N d) (eB (L _ (U3 _)) rfl)
theorem Qw0 {c:Cv} {n:Int} (h:KOK K) (g:Gd K n c) (L:0<=n/\n<=10000) (l:Int) {s:Sgm} (D:0<=s.aU/\s.aU<K.aA.length/\i64 s.aX):
  QL (I l::I s.to.x::I s.to.y::I s.to.z::I s.len::I s.aU::I s.aZ::I s.aX::Ac K c)=some (Ac K (Rc K c l s)):=
 Zpn D.1 D.2.1 (λv G=>Zmo D.2.2 G) (Pb h) (Qf0 h g l)
def thL (K:Kf) (c:Cv) (l aX:Int):List AC:=pxt K.p K.x K.t [I K.pa,I K.pb,I K.pc,I c.o0,I c.o1,B c.o2,B c.o3,B c.o4,I c.m0,I c.m1,I c.m2,I c.m3,I c.m4,I c.m5,I l,I aX,I c.e0,I c.e1,I c.e2,I c.e3,I c.before,I c.s3]
def thO (K:Kf) (c:Cv) (l aX:Int):List AC:=(J5 (thL K c l aX)).getD []
def NA (c:Cv) (o:List AC):Cv:={UF c (gA o 1)with e0:=gA o 6,e1:=gA o 7,e2:=gA o 8,e3:=gA o 9}
def Pq (K:Kf) (c:Cv) (l aX:Int):Cv:=
 if c.g0≠0 then{Dx K c l with e0:=3}else if gA (thO K c l aX) 10≠0 then Fv (NA c (thO K c l aX))else NA c (thO K c l aX)
theorem Zc1 {c:Cv} {n:Int} (h:KOK K) (g:Gd K n c) (l:Int) {aX:Int} (G:i64 aX):
  J5 (thL K c l aX)=some (thO K c l aX)/\∃v s b z y e:Int,thO K c l aX=Ec c.m0 c.m1 c.m3 c.m4 v++[I s,I b,I z,I y,I e]/\((Bi K.pa K.pb v (V (v-c.m1))).2=true\/∃r:Int,v=V (c.m1+r)/\r=AJ K.pa K.pb c.m1 c.m2):=by
 obtain⟨o,D,v,s,b,z,y,e,rfl,L⟩:=Zzs h g.mo l G;have D:J5 (thL K c l aX)=some (Ec c.m0 c.m1 c.m3 c.m4 v++[I s,I b,I z,I y,I e]):=D;have e2:thO K c l aX=Ec c.m0 c.m1 c.m3 c.m4 v++[I s,I b,I z,I y,I e]:=by unfold thO;rw[D];rfl
 rw[e2];exact⟨D,v,s,b,z,y,e,rfl,L⟩
theorem Zuy {c:Cv} {s:Sgm} (L:∀c,M (Ac K c)=some (Ac K (Fv c)))
  (N:Z (thL K c a s.aX)=some (thO K c a s.aX)) (O:∃v D b z y e:Int,thO K c a s.aX=Ec c.m0 c.m1 c.m3 c.m4 v++[I D,I b,I z,I y,I e]) (S:W (I a::Ac K c)=some (Ac K (Dx K c a))):
  X_ M Z W (I a::I s.to.x::I s.to.y::I s.to.z::I s.len::I s.aU::I s.aZ::I s.aX::Ac K c)=some (Ac K (Pq K c a s.aX)):=by
 rw[Zpi];unfold Pq;refine eC (λe=> ?_) λe=> ?_
 ·rw[aa (show c.g0≠0 by simpa using e)];generalize Dx K c a=d at*;exact eB S rfl
 ·rw[ab (show¬c.g0≠0 by simpa using e)];obtain⟨v,D,b,z,y,G,T⟩:=O;generalize thO K c a s.aX=o at*;subst T;refine eB N ?_;refine eC (λq=> ?_) λq=> ?_
  ·rw[aa (show gA (Ec c.m0 c.m1 c.m3 c.m4 v++[I D,I b,I z,I y,I G]) 10≠0 by simpa using q)];refine db (ii (λz=>Option.bind z _) (L (NA c (Ec c.m0 c.m1 c.m3 c.m4 v++[I D,I b,I z,I y,I G])))) rfl
  ·rw[ab (show¬gA (Ec c.m0 c.m1 c.m3 c.m4 v++[I D,I b,I z,I y,I G]) 10≠0 by simpa using q)];rfl
theorem Qyc {c:Cv} {n:Int} (h:KOK K) (g:Gd K n c) (N:0<=n/\n<=10000) (l:Int) {s:Sgm} (D:i64 s.aX):
  PN (I l::I s.to.x::I s.to.y::I s.to.z::I s.len::I s.aU::I s.aZ::I s.aX::Ac K c)=some (Ac K (Pq K c l s.aX)):=by
 obtain⟨G,v,L,b,z,y,e,M,-⟩:=Zc1 h g l D;exact Zuy (W8 K) G ⟨v,L,b,z,y,e,M⟩ (Qf0 h g l)
def JL (K:Kf) (c:Cv) (l:Int) (g:Sgm):Cv:=if(itK K g.aU).aP=6 then Rc K c l g else Pq K c l g.aX
def Jf (K:Kf) (c:Cv) (l:Int):Cv:=
 if(vF K c).aX=0\/(c.o2=true/\c.y0≠(vF K c).aU)then Dx K c l
 else if c.y0=(vF K c).aU then JL K c l (vF K c)
 else if EA K c (vF K c)=true then JL K (goC K c (vF K c)) l (vF K c)
 else if c.s1=0 then Fv c else c
theorem Gd.go {n:Int} {c:Cv} (g:Gd K n c) (s:Sgm):Gd K n (goC K c s):=⟨g.way,g.pass,g.task,g.mo,g.m0⟩
theorem Z26 {c:Cv} (G:(vF K c).aX≠0->0<=(vF K c).aU/\(vF K c).aU<K.aA.length)
  (hG:O (Ac K c)=some (Aw (vF K c)++[B (DO K c).isSome])) (U:P (I v::Ac K c)=some (Ac K (Dx K c v)))
  (L:(vF K c).aX≠0->S (I (vF K c).to.x::I (vF K c).to.y::I (vF K c).to.z::I (vF K c).len::I (vF K c).aU::I (vF K c).aZ::I (vF K c).aX::Ac K c)=some (B (EA K c (vF K c))::Ac K (if EA K c (vF K c)=true then goC K c (vF K c)else c)))
  (hF:W (Ac K c)=some (Ac K (Fv c)))
  (N:(vF K c).aX≠0->∀d,d=c\/d=goC K c (vF K c)->Z (I v::I (vF K c).to.x::I (vF K c).to.y::I (vF K c).to.z::I (vF K c).len::I (vF K c).aU::I (vF K c).aZ::I (vF K c).aX::Ac K d)=some (Ac K (Rc K d v (vF K c))))
  (T:(vF K c).aX≠0->∀d,d=c\/d=goC K c (vF K c)->M (I v::I (vF K c).to.x::I (vF K c).to.y::I (vF K c).to.z::I (vF K c).len::I (vF K c).aU::I (vF K c).aZ::I (vF K c).aX::Ac K d)=some (Ac K (Pq K d v (vF K c).aX))):
  Qam M Z W S P O (I v::Ac K c)=some (Ac K (Jf K c v)):=by
 rw[Zi6];unfold Jf;generalize vF K c=s at*;refine eB hG ?_;refine eC (λe=> ?_) λe=> ?_
 ·rw[aa (.inl (show s.aX=0 from eq_of_beq e))];generalize Dx K c v=d at*;exact eB U rfl
 ·have e:s.aX≠0:=by simpa [gA,nth,Af]using e
  obtain⟨V,X⟩:=G e;have L:=L e;have N:=N e;have T:=T e
  have D:∀{d:Cv} {f1 f2:List AC->List AC},d=c\/d=goC K c s->(∀c,f1 (Ac K c)=Ac K c)->(∀c,f2 (Ac K c)=Ac K c)->
    (bif decide (0<=s.aU)&&decide (s.aU<((K.aA.map Ah).length:Int))then(bif gA (nth [] (K.aA.map Ah) s.aU.toNat) 0==6 then(Z (I v::I s.to.x::I s.to.y::I s.to.z::I s.len::I s.aU::I s.aZ::I s.aX::Ac K d)).bind λo=>some (f1 o)else(M (I v::I s.to.x::I s.to.y::I s.to.z::I s.len::I s.aU::I s.aZ::I s.aX::Ac K d)).bind λo=>some (f2 o))else none)=some (Ac K (JL K d v s)):=λY h1 h2=>by
   refine eT (inM (f:=Ah) V X) ?_;rw[JH V X];unfold JL;refine eC (λk=> ?_) λk=> ?_
   ·rw[aa (show(itK K s.aU).aP=6 from eq_of_beq k)];exact eB (N _ Y) (ii some (h1 _))
   ·rw[ab (show(itK K s.aU).aP≠6 by simpa [gA,nth,Af]using k)];exact eB (T _ Y) (ii some (h2 _))
  have hg:T_ c (Aw s++[B (DO K c).isSome]) S K W Z v M=some (Ac K (if c.y0=s.aU then JL K c v s else if EA K c s=true then JL K (goC K c s) v s else if c.s1=0 then Fv c else c)):=by
   refine eC (λy=> ?_) λy=> ?_
   ·have y:c.y0≠s.aU:=by simpa [gA,nth,Af]using y
    rw[ab y];refine eB L ?_;cases hm:EA K c s
    ·refine eT rfl ?_;rw[ab (by simp),ab (by simp)];refine eC (λz=> ?_) λz=> ?_
     ·rw[aa (show c.s1=0 from eq_of_beq z)];generalize Fv c=d at*;exact eB hF rfl
     ·rw[ab (show c.s1≠0 by simpa [gA,nth,Af]using z)];rfl
    ·refine eF rfl ?_;rw[aa rfl,aa rfl];have h:=D (d:=goC K c s) (f1:=λo=>cR 0 o) (f2:=λo=>cR 0 o) (.inr rfl) (λ_=>rfl) (λ_=>rfl);generalize goC K c s=d at*;exact h
   ·have y:c.y0=s.aU:=by simpa [gA,nth,Af]using y
    rw[aa y];exact D (f1:=λo=>cR 0 o) (f2:=λo=>cR 0 o) (.inl rfl) (λ_=>rfl) (λ_=>rfl)
  refine eC (λa=>eC (λb=> ?_) λb=> ?_) λa=> ?_
  ·have b:c.y0≠s.aU:=by simpa [gA,nth,Af]using b
   rw[aa (.inr ⟨a,b⟩)];generalize Dx K c v=d at*;exact eB U rfl
  ·have b:c.y0=s.aU:=by simpa [gA,nth,Af]using b
   rw[ab (λq=>by rcases q with q|q;exact e q;exact q.2 b)];exact hg
  ·rw[ab (λq=>by rcases q with q|q;exact e q;rw[a]at q;cases q.1)];exact hg
theorem Zky {c:Cv} {n:Int} (h:KOK K) (g:Gd K n c) (D:0<=n/\n<=10000) (l:Int):PT (I l::Ac K c)=some (Ac K (Jf K c l)):=
 Z26 (λe=>⟨(Id h e).1,(Id h e).2.1⟩) (Vd h c) (Qf0 h g l) (λe=>Z0s h (Id h e).1 (Id h e).2.1) (W8 K c)
  (λe d G=>by rcases G with rfl|rfl;exact Qw0 h g D l (Id h e);exact Qw0 h (g.go _) D l (Id h e))
  (λe d G=>by rcases G with rfl|rfl;exact Qyc h g D l (Id h e).2.2;exact Qyc h (g.go _) D l (Id h e).2.2)
def Gi (K:Kf) (c:Cv):Int×Cv:=
 if c.aM=true/\c.m0=V ((BA K c).1*256)then
  (if 0 <= (BA K c).2 then
   (if(mkK K (BA K c).2).aU=(Fg K c (BA K c).2).2.y0/\(itK K (mkK K (BA K c).2).aU).aP=5/\(Fg K c (BA K c).2).2.e0=1 then((Fg K c (BA K c).2).1,Fv (Fg K c (BA K c).2).2)else Fg K c (BA K c).2)
  else if K.closed=true then(7,{c with aI:=7})else(1,c))
 else(if c.g0≠0/\c.aM=true then 6 else 1,Jf K c (BA K c).1)
theorem Yea {c:Cv} (h:KOK K) (N:(BA K c).2= -1\/0<=(BA K c).2/\c.next<=(BA K c).2/\(BA K c).2<K.p.aD.length)
  (hL:S (Ac K c)=some (I (BA K c).1::I (BA K c).2::Ac K c)) (hB:0<=(BA K c).2->(BA K c).2<K.p.aD.length->W (I (BA K c).2::Ac K c)=some (I (Fg K c (BA K c).2).1::Ac K (Fg K c (BA K c).2).2))
  (hF:∀c,Z (Ac K c)=some (Ac K (Fv c))) (O: ¬(c.aM=true/\c.m0=V ((BA K c).1*256))->M (I (BA K c).1::Ac K c)=some (Ac K (Jf K c (BA K c).1))):
  Ye M Z W S (Ac K c)=some (I (Gi K c).1::Ac K (Gi K c).2):=by
 rw[Z2l];unfold Gi;generalize Jf K c (BA K c).1=mv at*;have a0:=hB;generalize hb:Fg K c (BA K c).2=G at*;clear hb;generalize BA K c=D at*;refine eB hL ?_;have L:∀{a:Prop} [Decidable a],¬(c.aM=true/\c.m0=V (D.1*256))->∀{x:Option (List AC)},x=some (I (if c.g0≠0/\c.aM=true then 6 else 1)::Ac K mv)->
   x=some (I (if c.aM=true/\c.m0=V (D.1*256)then(if 0<=D.2 then(if(mkK K D.2).aU=G.2.y0/\(itK K (mkK K D.2).aU).aP=5/\G.2.e0=1 then(G.1,Fv G.2)else G)else if K.closed=true then(7,{c with aI:=7})else(1,c))else(if c.g0≠0/\c.aM=true then 6 else 1,mv)).1::Ac K (if c.aM=true/\c.m0=V (D.1*256)then(if 0<=D.2 then(if(mkK K D.2).aU=G.2.y0/\(itK K (mkK K D.2).aU).aP=5/\G.2.e0=1 then(G.1,Fv G.2)else G)else if K.closed=true then(7,{c with aI:=7})else(1,c))else(if c.g0≠0/\c.aM=true then 6 else 1,mv)).2):=λhn _ hx=>by
  rw[ab hn];exact hx
 refine eC (λs=>eC (λe=> ?_) λe=> ?_) λs=> ?_
 ·have s:c.aM=true:=s;have e:c.m0=V (D.1*256):=eq_of_beq e;rw[aa ⟨s,e⟩];refine eC (λk=> ?_) λk=> ?_
  ·have k:0<=D.2:=Bl k;rw[aa k];have T:D.2<K.p.aD.length:=by
    rcases N with N|N
    ·omega
    ·exact N.2.2
   have U:=U4 h k T;refine eB (hB k T) (eT (inM (f:=At) k T) ?_);have X:nth [] (K.p.aD.map At) D.2.toNat=At (mkK K D.2):=Nw k T;have Y:nth [] (K.aA.map Ah) (mkK K D.2).aU.toNat=Ah (itK K (mkK K D.2).aU):=JH U.1 U.2.1;refine eC (λy=> ?_) λy=> ?_
   ·have y:(mkK K D.2).aU=G.2.y0:=by
     have:=eq_of_beq (show(gA (nth [] (K.p.aD.map At) D.2.toNat) 2==G.2.y0)=true from y);rw[X]at this;exact this
    refine eT (show(decide (0<=gA (nth [] (K.p.aD.map At) D.2.toNat) 2)&&decide (gA (nth [] (K.p.aD.map At) D.2.toNat) 2<((K.aA.map Ah).length:Int)))=true by rw[X];exact inM (f:=Ah) (l:=K.aA) (i:=(mkK K D.2).aU) U.1 U.2.1) ?_;have ek:gA (nth [] (K.aA.map Ah) (gA (nth [] (K.p.aD.map At) D.2.toNat) 2).toNat) 0=(itK K (mkK K D.2).aU).aP:=by
     rw[X];show gA (nth [] (K.aA.map Ah) (mkK K D.2).aU.toNat) 0=_;rw[Y];rfl
    refine eC (λq=> ?_) λq=> ?_
    ·have q:(itK K (mkK K D.2).aU).aP=5:=by rw[<-ek];exact eq_of_beq q
     refine eC (λz=> ?_) λz=> ?_
     ·have z:G.2.e0=1:=eq_of_beq z;rw[aa ⟨y,q,z⟩];exact eB (hF G.2) rfl
     ·have z:G.2.e0≠1:=λe=>by have:(G.2.e0==1)=false:=z;rw[beT e]at this;cases this
      rw[ab (λw=>z w.2.2)];rfl
    ·have q:(itK K (mkK K D.2).aU).aP≠5:=λe=>by
      have:(gA (nth [] (K.aA.map Ah) (gA (nth [] (K.p.aD.map At) D.2.toNat) 2).toNat) 0==5)=false:=q;rw[ek,beT e]at this;cases this
     rw[ab (λw=>q w.2.1)];rfl
   ·have y:(mkK K D.2).aU≠G.2.y0:=λe=>by
     have:(gA (nth [] (K.p.aD.map At) D.2.toNat) 2==G.2.y0)=false:=y;rw[X]at this;rw[show(gA (At (mkK K D.2)) 2==G.2.y0)=true from beT e]at this;cases this
    rw[ab (λw=>y w.1)];rfl
  ·have k: ¬0<=D.2:=Bs k;rw[ab k];refine eC (λq=> ?_) λq=> ?_
   ·rw[aa (show K.closed=true from q)];rfl
   ·rw[ab (show¬K.closed=true by rw[show K.closed=false from q];simp)];rfl
 ·have e:c.m0≠V (D.1*256):=λe'=>by
   have:(c.m0==V (D.1*256))=false:=e;rw[beT e']at this;cases this
  refine L (a:=True) (λw=>e w.2) ?_;refine eC (λq=> ?_) λq=> ?_
  ·have q:c.g0≠0:=λe=>by
    have:(c.g0 !=0)=true:=q;rw[bnF e]at this;cases this
   refine eB (O λw=>e w.2) (eT (show c.aM=true from s) ?_);rw[aa ⟨q,show c.aM=true from s⟩];rfl
  ·have q:c.g0=0:=iw λe=>by
    have:(c.g0 !=0)=false:=q;rw[bnT e]at this;cases this
   refine eB (O λw=>e w.2) ?_;rw[ab (λw=>w.1 q)];rfl
 ·have s:c.aM=false:=s;refine L (a:=True) (λw=>by rw[s]at w;cases w.1) ?_;refine eC (λq=> ?_) λq=> ?_
  ·refine eB (O λw=>by rw[s]at w;cases w.1) (eF (show c.aM=false from s) ?_);rw[ab (λw=>by rw[s]at w;cases w.2)];rfl
  ·refine eB (O λw=>by rw[s]at w;cases w.1) ?_;rw[ab (λw=>by rw[s]at w;cases w.2)];rfl
theorem Yaa {c:Cv} {n:Int} (h:KOK K) (g:Gd K n c) (D:0<=n/\n<=10000):J6 (Ac K c)=some (I (Gi K c).1::Ac K (Gi K c).2):=
 Yea h (Qvu K c) (Zxw h c) (λG L=>Zxk h G L) (W8 K) λ_=>Zky h g D _
def swI (s:Int) (it:Itm):Int:=one KJ (I s::Ah it)
theorem Zz4 (s:Int) (it:Itm):KJ (I s::Ah it)=some [I (swI s it)]:=by
 have key:∃v,KJ (I s::Ah it)=some [I v]:=by
  show∃v,Qne (I s::Ah it)=some [I v];rw[Yde];by_cases D:it.aP=10
  ·rw[Bj (bnF D)];by_cases G:it.n<0
   ·rw[BG (ai G)];exact⟨_,rfl⟩
   ·rw[Bj (aj G)];by_cases L:it.n>=16
    ·rw[BG (ai L)];exact⟨_,rfl⟩
    ·rw[Bj (aj L),Bj (aj (by simp[V,IntKind.wrap,IntKind.signed,IntKind.bits];omega))];cases it.on<;>exact⟨_,rfl⟩
  ·rw[BG (bnT D)];exact⟨_,rfl⟩
 obtain⟨v,h⟩:=key;exact Qlz h
def DJ (K:Kf) (s:Int):List Mrk->Cv->List Int×Cv
 |[],c=>([],c)
 |m::l,c=>if m.at_>s\/(m.at_=s/\c.next<=c.aK/\HU m.aP c=true)then([],c)
  else if m.aP=5 then(m.aU::(DJ K s l {c with outs:=swI c.outs (itK K m.aU),aK:=c.aK+1}).1,(DJ K s l {c with outs:=swI c.outs (itK K m.aU),aK:=c.aK+1}).2)
  else DJ K s l {c with aK:=c.aK+1}
def CU (K:Kf) (c:Cv) (s:Int):List Int×Cv:=DJ K s (K.p.aD.drop c.aK.toNat) c
theorem Z86 {c:Cv} (h:KOK K) (U:0<=c.aK/\c.aK<=K.p.aD.length) (s:Int)
  (Y:∀(c:Cv) (at_ k it:Int),Z [I at_,I k,I it,I c.o0,I c.o1,B c.o2,B c.o3,B c.o4]=some [B (HU k c)]) (hS:∀(s:Int) (it:Itm),M (I s::Ah it)=some [I (swI s it)]):
  Qqv M Z (Am (Sf M Z)) (I s::Ac K c)=some (.vC Aa ((CU K c s).1.map As)::Ac K (CU K c s).2):=by
 rw[Yd5];have key:Out (λo=>o=(1, .vC Aa ((CU K c s).1.map As)::Ac K (CU K c s).2)) (Am (Sf M Z) (.vC Aa (([]:List Int).map As)::I s::Ac K c)):=by
  have hc:=h.count;refine CJ (λz:List Int×Cv=> .vC Aa (z.1.map As)::I s::Ac K z.2)
   (λz=>0<=z.2.aK/\z.2.aK<=K.p.aD.length/\(z.1.length:Int)<=z.2.aK/\(CU K c s).1=z.1++(DJ K s (K.p.aD.drop z.2.aK.toNat) z.2).1/\(CU K c s).2=(DJ K s (K.p.aD.drop z.2.aK.toNat) z.2).2)
   (λz=>(K.p.aD.length-z.2.aK).toNat) _ ?_ ([],c) ⟨U.1,U.2,by simp;omega,rfl,rfl⟩
  rintro⟨l,d⟩ ⟨g1,g2,g3,G,L⟩;dsimp only at g1 g2 g3 G L;refine Out.eqv (Zq9 M Z _ _ K d) ?_;refine .cond (λk=> ?_) λk=> ?_
  ·have k:d.aK<((K.p.aD.map At).length:Int):=Bl k;rw[ag]at k;have X:d.aK.toNat<K.p.aD.length:=by omega
   have em:mkK K d.aK=K.p.aD[d.aK.toNat]:=by unfold mkK;rw[List.getD,am X];rfl
   have N:=U4 h g1 k;rw[gn X,<-em]at G L;unfold DJ at G L;refine .cond (λ_=> ?_) λe=>(inB g1 (by rw[ag];exact k) e).elim;rw[Nw g1 k];generalize S:mkK K d.aK=m at*;have wp:V (d.aK+1)=d.aK+1:=Ae;have O:(d.aK+1).toNat=d.aK.toNat+1:=by omega
   have stop:(m.at_>s\/(m.at_=s/\d.next<=d.aK/\HU m.aP d=true))->∀{x:List AC},x= .vC Aa (l.map As)::Ac K d->Out (λo:Nat×List AC=>(o.1=0/\∃D:List Int×Cv,o.2= .vC Aa (D.1.map As)::I s::Ac K D.2/\(0<=D.2.aK/\D.2.aK<=K.p.aD.length/\(D.1.length:Int)<=D.2.aK/\(CU K c s).1=D.1++(DJ K s (K.p.aD.drop D.2.aK.toNat) D.2).1/\(CU K c s).2=(DJ K s (K.p.aD.drop D.2.aK.toNat) D.2).2)/\(K.p.aD.length-D.2.aK).toNat<(K.p.aD.length-d.aK).toNat)\/(o.1≠0/\o=(1, .vC Aa ((CU K c s).1.map As)::Ac K (CU K c s).2))) (some (1,x)):=λT _ hx=>by
    rw[aa T]at G L;subst hx;refine .some (.inr ⟨by simp,?_⟩);rw[G,L,gw]
   have go: ¬(m.at_>s\/(m.at_=s/\d.next<=d.aK/\HU m.aP d=true))->Out (λo:Nat×List AC=>(o.1=0/\∃D:List Int×Cv,o.2= .vC Aa (D.1.map As)::I s::Ac K D.2/\(0<=D.2.aK/\D.2.aK<=K.p.aD.length/\(D.1.length:Int)<=D.2.aK/\(CU K c s).1=D.1++(DJ K s (K.p.aD.drop D.2.aK.toNat) D.2).1/\(CU K c s).2=(DJ K s (K.p.aD.drop D.2.aK.toNat) D.2).2)/\(K.p.aD.length-D.2.aK).toNat<(K.p.aD.length-d.aK).toNat)\/(o.1≠0/\o=(1, .vC Aa ((CU K c s).1.map As)::Ac K (CU K c s).2))) (Pi K d (l.map As) M s):=λT=>by
    rw[ab T]at G L;unfold Pi;rw[Nw g1 k,S,wp];refine .cond (λq=> ?_) λq=> ?_
    ·have q:m.aP=5:=eq_of_beq q;rw[aa q]at G L;refine .cond (λ_=> ?_) λe=>by rw[B_ (by simp;omega)]at e;cases e
     refine .cond (λ_=> ?_) λe=>(inB (show 0<=gA (At m) 2 from N.1) (show gA (At m) 2<((K.aA.map Ah).length:Int) by rw[ag];exact N.2.1) e).elim;rw[show nth [] (K.aA.map Ah) (gA (At m) 2).toNat=Ah (itK K m.aU)from JH N.1 N.2.1];refine .bind (p:=λo=>o=_) ⟨_,hS d.outs (itK K m.aU),rfl⟩ λo e=> ?_;subst e;refine .some (.inl ⟨rfl,(l++[m.aU],{d with outs:=swI d.outs (itK K m.aU),aK:=d.aK+1}),?_,⟨by dsimp only;omega,by dsimp only;omega,by simp;omega,?_,?_⟩,by dsimp only;omega⟩)
     ·rw[bz];rfl
     ·dsimp only;rw[G,O];simp
     ·dsimp only;rw[L,O]
    ·have q:m.aP≠5:=by simpa [gA,nth,Af]using q
     rw[ab q]at G L;refine .some (.inl ⟨rfl,(l,{d with aK:=d.aK+1}),rfl,⟨by dsimp only;omega,by dsimp only;omega,by dsimp only;omega,?_,?_⟩,by dsimp only;omega⟩)
     ·dsimp only;rw[G,O]
     ·dsimp only;rw[L,O]
   refine .cond (λa=>stop (.inl (Bl a)) rfl) λa=> ?_;have a: ¬m.at_>s:=Bs a;refine .cond (λb=> .cond (λe=> ?_) λe=>go λw=> ?_) λb=>go λw=> ?_
   ·refine .bind (p:=λo=>o=_) ⟨_,Y d _ _ _,rfl⟩ λo q=> ?_;subst q;refine .cond (λq=>stop (.inr ⟨eq_of_beq b,Bl e,q⟩) rfl) λq=>go λw=> ?_;have q:HU m.aP d=false:=q;rcases w with w|w
    ·exact a w
    ·rw[q]at w;cases w.2.2
   ·rcases w with w|w
    ·exact a w
    ·exact Bs e w.2.1
   ·rcases w with w|w
    ·exact a w
    ·have:(m.at_==s)=false:=b;rw[beT w.1]at this;cases this
  ·have k: ¬d.aK<((K.p.aD.map At).length:Int):=Bs k;rw[ag]at k;rw[d6 (by omega)]at G L;refine .some (.inr ⟨by simp,?_⟩);rw[G,L];simp[DJ]
 obtain⟨o,h1,rfl⟩:=key;exact eB h1 rfl
theorem Zo4 {c:Cv} (h:KOK K) (D:0<=c.aK/\c.aK<=K.p.aD.length) (s:Int):Ni (I s::Ac K c)=some (.vC Aa ((CU K c s).1.map As)::Ac K (CU K c s).2):=
 Z86 h D s (λc at_ k it=>Qxj at_ k it c) Zz4
def B2 (K:Kf) (c:Cv):Int×Cv:=
 if c.g0=2 then(6,stand c)else if c.aI≠0 then(c.aI,c)
 else if c.aH=true/\c.aM=true then(8,{c with aI:=8})else if c.on=true then CE K c else(0,c)
theorem Zpt (K:Kf) (c:Cv):(Jd K c).1≠0:=by
 unfold Jd
 (repeat' split)<;>simp
theorem Zat (K:Kf) (c:Cv):(CE K c).1≠0:=Zpt K (CW c)
abbrev Fq (K:Kf) (frm i:Int) (c:Cv):List AC:=I frm::I 5::I i::(Ew++(Ew++Ac K c))
abbrev SR (K:Kf) (frm mode:Int) (c:Cv):List AC:=I frm::(Ew++([.vC kPt [], .vC Aa [],I mode,I 0,I 0,I 0,I 0,I 0,I 0]++Ac K c))
abbrev Jp (c:Cv):Cv:={c with aJ:=false,aL:=false}
def Ti (c:Cv) (E:List Evn):Cv:=E.foldl (λc e=>evC c e.aP e.n) (Jp c)
def Tp (E:List Evn):Prop:=E.length<=1000000/\∀e∈E,e.aP≠7/\e.aP≠12/\e.aP≠13
def RD (K:Kf) (frm u:Int):Rw:=wA ((I1 (pxt K.p K.x K.t [I frm,I u])).getD []) 0
theorem Z4o (h:KOK K) (frm u:Int) (D:u-frm<=1000000000000):Out (λo=>wA o 0=RD K frm u) (I1 (pxt K.p K.x K.t [I frm,I u])):=
 ⟨_,Qgq (Ycw h.f frm u D),rfl⟩
abbrev S9 (K:Kf) (c:Cv):Pt:=Hj K.p K.x K.t (AZ c)
theorem Qig (K:Kf) (s:Int):∀(l:List Mrk) (c:Cv),∃n q:Int,(DJ K s l c).2={c with aK:=n,outs:=q}
 |[],c=>⟨c.aK,c.outs,rfl⟩
 |m::l,c=>by
  unfold DJ;split
  ·exact⟨c.aK,c.outs,rfl⟩
  ·split
   ·obtain⟨n,q,h⟩:=Qig K s l {c with outs:=swI c.outs (itK K m.aU),aK:=c.aK+1};exact⟨n,q,h⟩
   ·obtain⟨n,q,h⟩:=Qig K s l {c with aK:=c.aK+1};exact⟨n,q,h⟩
theorem Q9p (K:Kf) (c:Cv) (s:Int):∃n q:Int,(CU K c s).2={c with aK:=n,outs:=q}:=Qig K s _ c
def Gg (c:Cv):Cv:=if c.aH=true\/c.g0≠0 then{c with o2:=true}else c
def Cc (c:Cv):Cv:={c with before:=c.s3}
def GV (K:Kf) (c:Cv):Cv:=if I4 K c=true then c else spS c K.bH
def Jq (c:Cv):Cv:={c with aM:=E2 c}
def FA (K:Kf) (c:Cv) (E:List Evn):Cv:=Jq (GV K (Cc (Gg (Ti c E))))
def stC (K:Kf) (c:Cv) (E:List Evn):Int×Cv:=if(B2 K (FA K c E)).1=0 then Gi K (B2 K (FA K c E)).2 else B2 K (FA K c E)
structure Kp (c d : Cv) : Prop where
 way:d.way=c.way
 aL:d.aL=c.aL
 aK:d.aK=c.aK
 outs:d.outs=c.outs
theorem Kp.rfl {c:Cv}:Kp c c:=⟨Eq.refl _,Eq.refl _,Eq.refl _,Eq.refl _⟩
theorem Kp.trans {a b c:Cv} (h:Kp a b) (g:Kp b c):Kp a c:=⟨g.way.trans h.way,g.aL.trans h.aL,g.aK.trans h.aK,g.outs.trans h.outs⟩
structure Sm (c d : Cv) : Prop where
 kp:Kp c d
 m0:d.m0=c.m0
 m1:d.m1=c.m1
 m2:d.m2=c.m2
 m3:d.m3=c.m3
 m4:d.m4=c.m4
 on:d.on=c.on
 idx:d.idx=c.idx
 aI:d.aI=c.aI
 aH:d.aH=c.aH
 next:d.next=c.next
theorem Sm.trans {a b c:Cv} (h:Sm a b) (g:Sm b c):Sm a c:=
 ⟨h.kp.trans g.kp,g.m0.trans h.m0,g.m1.trans h.m1,g.m2.trans h.m2,g.m3.trans h.m3,g.m4.trans h.m4,g.on.trans h.on,g.idx.trans h.idx,g.aI.trans h.aI,g.aH.trans h.aH,g.next.trans h.next⟩
theorem Sm.rfl {c:Cv}:Sm c c:=⟨Kp.rfl,Eq.refl _,Eq.refl _,Eq.refl _,Eq.refl _,Eq.refl _,Eq.refl _,Eq.refl _,Eq.refl _,Eq.refl _,Eq.refl _⟩
theorem Gd.sm {n:Int} {c d:Cv} (g:Gd K n c) (h:Sm c d):Gd K n d:=g.same h.kp.way h.kp.aK h.on h.idx h.m0 h.m1 h.m2
theorem Q0k (c:Cv) (k n:Int):Sm c (evC c k n):=⟨⟨Eq.refl _,Eq.refl _,Eq.refl _,Eq.refl _⟩,Eq.refl _,Eq.refl _,Eq.refl _,Eq.refl _,Eq.refl _,Eq.refl _,Eq.refl _,Eq.refl _,Eq.refl _,Eq.refl _⟩
theorem Qz5:∀(E:List Evn) (c:Cv),Sm c (E.foldl (λc e=>evC c e.aP e.n) c)
 |[],_=>Sm.rfl
 |e::E,c=>(Q0k c e.aP e.n).trans (Qz5 E _)
theorem Yd3 (c:Cv) (E:List Evn):Sm (Jp c) (Ti c E):=Qz5 E _
theorem Q5h (c:Cv):Sm c (Gg c):=by
 unfold Gg;split
 ·exact⟨⟨rfl,rfl,rfl,rfl⟩,rfl,rfl,rfl,rfl,rfl,rfl,rfl,rfl,rfl,rfl⟩
 ·exact Sm.rfl
theorem Zcu (K:Kf) (c:Cv):Sm c (GV K c):=by
 unfold GV;split
 ·exact Sm.rfl
 ·exact⟨⟨rfl,rfl,rfl,rfl⟩,rfl,rfl,rfl,rfl,rfl,rfl,rfl,rfl,rfl,rfl⟩
theorem Zri (K:Kf) (c:Cv) (E:List Evn):Sm (Jp c) (FA K c E):=
 (Yd3 c E).trans ((Q5h _).trans (Sm.trans (b:=Cc (Gg (Ti c E))) ⟨⟨rfl,rfl,rfl,rfl⟩,rfl,rfl,rfl,rfl,rfl,rfl,rfl,rfl,rfl,rfl⟩ ((Zcu K _).trans ⟨⟨rfl,rfl,rfl,rfl⟩,rfl,rfl,rfl,rfl,rfl,rfl,rfl,rfl,rfl,rfl⟩)))
theorem Gd.clear {n:Int} {c:Cv} (g:Gd K n c):Gd K n (Jp c):=⟨g.way,g.pass,g.task,g.mo,g.m0⟩
theorem Z1y {n:Int} {c:Cv} (g:Gd K n c) (E:List Evn):Gd K n (FA K c E):=g.clear.sm (Zri K c E)
theorem Zho {n:Int} {c:Cv} (g:Gd K n c):Gd K n (Jd K c).2/\Kp c (Jd K c).2:=by
 have done:∀d:Cv,Gd K n d->Kp c d->Gd K n (IE d)/\Kp c (IE d):=λd g k=>⟨⟨g.way,g.pass,λh=>(by cases h),g.mo,g.m0⟩,k.trans ⟨rfl,rfl,rfl,rfl⟩⟩;have cmd:∀D G:Int,Gd K n (JV c D G)/\Kp c (JV c D G):=λD G=>⟨⟨g.way,g.pass,g.task,g.mo,g.m0⟩,⟨rfl,rfl,rfl,rfl⟩⟩;unfold Jd;split
 ·split
  ·exact done c g Kp.rfl
  ·exact⟨g,Kp.rfl⟩
 ·split
  ·exact done c g Kp.rfl
  ·split
   ·split
    ·exact⟨g,Kp.rfl⟩
    ·exact done c g Kp.rfl
   ·split
    ·split
     ·exact done _ (cmd _ _).1 (cmd _ _).2
     ·exact cmd _ _
    ·split
     ·exact⟨⟨g.way,g.pass,g.task,g.mo,g.m0⟩,⟨rfl,rfl,rfl,rfl⟩⟩
     ·exact done c g Kp.rfl
theorem Z87 {n:Int} {c:Cv} (g:Gd K n c):Gd K n (CE K c).2/\Kp c (CE K c).2:=by
 have h:=Zho (K:=K) (c:=CW c) ⟨g.way,g.pass,g.task,g.mo,g.m0⟩;exact⟨h.1,h.2.way,h.2.aL,h.2.aK,h.2.outs⟩
theorem Zuu {n:Int} {c:Cv} (g:Gd K n c) {i:Int} (D:0<=i) (G:i<K.p.aD.length):Gd K n (Fg K c i).2/\Kp c (Fg K c i).2:=by
 have h:=Z87 (K:=K) (c:={c with on:=true,idx:=i,aN:=G8 K c i,cnt:=0}) ⟨g.way,g.pass,λ_=>⟨D,G⟩,g.mo,g.m0⟩;exact⟨h.1,⟨h.2.way,h.2.aL,h.2.aK,h.2.outs⟩⟩
theorem NM {n:Int} {c:Cv} (g:Gd K n c):Gd K n (Fv c)/\Kp c (Fv c):=by
 unfold Fv;split
 ·exact⟨⟨g.way,g.pass,g.task,g.mo,g.m0⟩,⟨rfl,rfl,rfl,rfl⟩⟩
 ·exact⟨g,Kp.rfl⟩
theorem Z8t (K:Kf) (c:Cv) (l:Int):Kp c (Dx K c l):=⟨rfl,rfl,rfl,rfl⟩
theorem Gd.e0 {n:Int} {c:Cv} (g:Gd K n c) (x:Int):Gd K n {c with e0:=x}:=⟨g.way,g.pass,g.task,g.mo,g.m0⟩
theorem Gd.s3 {n:Int} {c:Cv} (g:Gd K n c) (x:Int):Gd K n {c with s3:=x}:=⟨g.way,g.pass,g.task,g.mo,g.m0⟩
theorem Q67 {n:Int} {c:Cv} (h:KOK K) (g:Gd K n c) (G:0<=n/\n<=10000) (l:Int) {s:Sgm} (L:i64 s.aX):Gd K (n+1) (JL K c l s)/\Kp c (JL K c l s):=by
 have I:=Y_ h g G l;unfold JL;split
 ·exact⟨I.s3 _,⟨rfl,rfl,rfl,rfl⟩⟩
 ·obtain⟨-,v,O,b,z,y,e,M,N⟩:=Zc1 h g l L;have D:Gd K (n+1) (NA c (thO K c l s.aX)):=by
   have e1:gA (thO K c l s.aX) 1=v:=by rw[M];rfl
   have:=g.bD h G N;unfold NA UF;rw[e1];generalize thO K c l s.aX=o;exact this.same rfl rfl rfl rfl rfl rfl rfl
  unfold Pq;split
  ·exact⟨I.e0 3,⟨rfl,rfl,rfl,rfl⟩⟩
  ·split
   ·exact⟨(NM D).1,Kp.trans (b:=NA c (thO K c l s.aX)) ⟨rfl,rfl,rfl,rfl⟩ (NM D).2⟩
   ·exact⟨D,⟨rfl,rfl,rfl,rfl⟩⟩
theorem Ztv {n:Int} {c:Cv} (h:KOK K) (g:Gd K n c) (D:0<=n/\n<=10000) (l:Int):Gd K (n+1) (Jf K c l)/\Kp c (Jf K c l):=by
 unfold Jf;split
 ·exact⟨Y_ h g D l,Z8t K c l⟩
 ·rename_i I;have G:(vF K c).aX≠0:=λe=>I (.inl e);split
  ·exact Q67 h g D l (Id h G).2.2
  ·split
   ·have:=Q67 h (g.go (vF K c)) D l (Id h G).2.2;exact⟨this.1,Kp.trans (b:=goC K c (vF K c)) ⟨rfl,rfl,rfl,rfl⟩ this.2⟩
   ·split
    ·exact⟨(NM (g.up D.1)).1,(NM g).2⟩
    ·exact⟨g.up D.1,Kp.rfl⟩
theorem Zyp {n:Int} {c:Cv} (h:KOK K) (g:Gd K n c) (D:0<=n/\n<=10000):Gd K (n+1) (Gi K c).2/\Kp c (Gi K c).2:=by
 have G:=Qvu K c;unfold Gi;split
 ·split
  ·rename_i k;have L:(BA K c).2<K.p.aD.length:=by
    rcases G with G|G
    ·omega
    ·exact G.2.2
   have I:=Zuu (g.up D.1) k L;split
   ·exact⟨(NM I.1).1,I.2.trans (NM I.1).2⟩
   ·exact I
  ·split
   ·exact⟨⟨g.way,g.pass,g.task,(g.up D.1).mo,(g.up D.1).m0⟩,⟨rfl,rfl,rfl,rfl⟩⟩
   ·exact⟨g.up D.1,Kp.rfl⟩
 ·exact Ztv h g D _
theorem Z3 (K:Kf) (s:Int):∀(l:List Mrk) (c:Cv),c.aK<=(DJ K s l c).2.aK/\(DJ K s l c).2.aK<=c.aK+l.length
 |[],c=>by simp[DJ]
 |m::l,c=>by
  unfold DJ;split
  ·simp only[bf];omega
  ·split
   ·have:=Z3 K s l {c with outs:=swI c.outs (itK K m.aU),aK:=c.aK+1};simp only[bf]at this⊢;omega
   ·have:=Z3 K s l {c with aK:=c.aK+1};simp only[bf]at this⊢;omega
abbrev Vg:Axs:=⟨8,10,10,10,-16777216,16777216,0,0,0,[]⟩
theorem Qjw:AxOK Vg:=⟨by decide,by decide,by decide,λh=>absurd rfl h,⟨λx h=>(by cases h),λi h=>(by simp at h)⟩,by decide,by decide⟩
abbrev Qf:Ax3:=⟨Vg,Vg,Vg⟩
theorem machX:MachOK Qf 9 3 100 1 0:=⟨⟨Qjw,Qjw,Qjw⟩,⟨by decide,by decide,by decide⟩,by decide,by decide⟩
theorem Zxu:Items 4084 ⟨0,0,0⟩ []:=⟨trivial,λit h=>by cases h⟩
abbrev kX (l:List Itm):Kf:=kfP Qf 9 3 100 1 0 l true
theorem Zge {l:List Itm} (h:(Bb l).aF=[]) (c:Cv):I4 (kX l) c=false:=by
 unfold I4 DO;rw[h];rfl
theorem gd0 (l:List Itm):Gd (kX l) 0 Cp:=⟨rfl,⟨by decide,by simp⟩,λh=>(by cases h),Vi machX.plan,by decide⟩
theorem WB:Bb []=⟨⟨0,0,0⟩,[],[]⟩:=rfl
theorem Zq3 (h:p.aF=[]):Ej p Qf ⟨1,1,1⟩ 0 (AW p.aF)=⟨[],0,0,⟨1,1,1⟩⟩:=by
 unfold Ej;rw[h];rfl
theorem kX0:kX []=⟨Qf,9,3,100,1,0,[],true,⟨⟨0,0,0⟩,[],[]⟩,0,KT [],⟨[],0,0,⟨1,1,1⟩⟩⟩:=by
 show Kf.mk _ _ _ _ _ _ _ _ _ _ _ _=_;rw[Zq3 (p:=Bb []) (by rw[WB]),WB];rfl
abbrev UR:Cv:={Cp with aM:=true}
theorem Zw8 (D:∀c,I4 K c=false) (G:K.bH=1):FA K Cp []=UR:=by
 show Jq (GV K (Cc (Gg Cp)))=_;unfold GV;rw[ab (by rw[D];simp),G];rfl
theorem Quz:(stC (kX []) Cp []).1=7:=by
 have e:=Zw8 (Zge (l:=[]) (by rw[WB])) rfl;have D:B2 (kX []) UR=(0,UR):=rfl;unfold stC;rw[e,D,aa rfl];have G:BA (kX []) UR=(0,-1):=by
  rw[kX0];unfold BA BR;rfl
 unfold Gi;rw[G];rfl
theorem Zbx:Tp []:=⟨by simp,λe h=>by cases h⟩
abbrev atE (E:List Evn) (k:Int):List Evn:=E.filter λe=>e.cycle==k
theorem Zod {E:List Evn} {e:Evn} (h:e∈atE E k):e∈E:=(List.mem_filter.1 h).1
theorem Z1t (E:List Evn) (k:Int):(atE E k).length<=E.length:=ip _ _
theorem gdK (h:KOK K):Gd K 0 Cp:=⟨rfl,⟨by decide,by simp⟩,λh=>(by cases h),Vi h.plan,by decide⟩
structure Os (c d : Cv) : Prop where
 on:d.on=c.on
 aI:d.aI=c.aI
 aH:d.aH=c.aH
 gu:(d.g0=c.g0/\d.g1=c.g1/\d.g2=c.g2)\/(c.g0=0/\d.g0=1/\d.g1=18)
def ok1 (r:Nat) (a b t:Int):Bool:=bif decide (0<=a)then decide (a*r+b<=t)else bif Nat.beq r 1 then decide (a+5*max (b-t) 0<=0)else decide (a*(r-1)+b<=t)
end Go.Bm
namespace Go.Bm
open Classical
def sT (K:Kf) (t:Trk):Kf:=⟨K.x,K.pa,K.pb,K.pc,K.bH,K.lag,K.aA,K.closed,K.p,K.len,K.set,t⟩
theorem KOK.sT (h:KOK K) {t:Trk} (D:TH t):KOK (Go.Bm.sT K t):=⟨⟨h.f.p,h.f.x,D⟩,h.plan,h.aF,h.aD,h.count,h.aS,h.len,h.set⟩
def Tf:List Pce->Int->Pt->Pt
 |[],_,d=>d
 |c::l,u,d=>if u>c.at_+c.aR then Tf l u d else if c.bD≠0\/u=c.at_+c.aR then c.aT else c.was
def Mk (t:Trk) (u:Int):Pt:=Tf t.aE (clT t u) t.aT
theorem Z9e (h:TQ t) (u:Int):Qmj (Am Sx) (A0 t++[I u])=some (ptR (Mk t u)):=by
 refine db (Z75 _ (t.aE.map AG) t.length t.aQ t.aT.x t.aT.y t.aT.z u) ?_;have M:mx 0 (mn u t.length)=clT t u:=by
  unfold mx mn clT B0
  (repeat' split)<;>omega
 rw[M];have key:Out (λo=>o=(1,ptR (Mk t u))\/(o=(2, .vC Ap (t.aE.map AG)::I t.length::I t.aQ::I t.aT.x::I t.aT.y::I t.aT.z::[I 0,I 0,I 0])/\Mk t u=t.aT))
   (Am Sx [I (clT t u), .vC Ap (t.aE.map AG),I ((t.aE.map AG).length:Int),I ((0:Nat):Int), .vC Ap (t.aE.map AG),I t.length,I t.aQ,I t.aT.x,I t.aT.y,I t.aT.z,I 0,I 0,I 0]):=by
  refine CJ (λi:Nat=>[I (clT t u), .vC Ap (t.aE.map AG),I ((t.aE.map AG).length:Int),I (i:Int), .vC Ap (t.aE.map AG),I t.length,I t.aQ,I t.aT.x,I t.aT.y,I t.aT.z,I 0,I 0,I 0])
   (λi=>i<=t.aE.length/\Mk t u=Tf (t.aE.drop i) (clT t u) t.aT) (λi=>t.aE.length-i) _ ?_ 0 ⟨i7 _,rfl⟩
  rintro i ⟨T,hf⟩;rw[Z6m];have U:((t.aE.map AG).length:Int)=t.aE.length:=by rw[ag]
  refine .cond (λG=> ?_) λG=> ?_
  ·have G:=Bl G;have D:i<t.aE.length:=by omega
   refine .cond (λ_=> ?_) λe=>(inB (by omega) G e).elim;rw[al,Om D];have X:=h.count;have Y:=h.pos i D;have hl:=h.len;have he:eI t.aE i=(pcA t.aE i).at_+(pcA t.aE i).aR:=rfl;rw[gn D]at hf;have N:t.aE[i]=pcA t.aE i:=by unfold pcA;rw[List.getD,am D];rfl
   rw[N]at hf;unfold Tf at hf;generalize pcA t.aE i=c at*;have O:V (gA (AG c) 0+gA (AG c) 1)=c.at_+c.aR:=by
    show V (c.at_+c.aR)=_;exact Ae
   rw[O,Ae (x:=(i:Int)+1)];refine .cond (λa=> ?_) λa=> ?_
   ·have a:=Bl a;rw[aa a]at hf;exact .some (.inl ⟨rfl,i+1,rfl,⟨by omega,hf⟩,by omega⟩)
   ·have a:=Bs a;rw[ab a]at hf;refine .cond (λb=> ?_) λb=> .cond (λb2=> ?_) λb2=> ?_
    ·have b:c.bD≠0:=by simpa [gA,nth,Af]using b
     rw[aa (.inl b)]at hf;exact .some (.inr ⟨by simp, .inl (by rw[hf];rfl)⟩)
    ·have b2:clT t u=c.at_+c.aR:=eq_of_beq b2;rw[aa (.inr b2)]at hf;exact .some (.inr ⟨by simp, .inl (by rw[hf];rfl)⟩)
    ·have b:c.bD=0:=by simpa [gA,nth,Af]using b
     have b2:clT t u≠c.at_+c.aR:=λe=>by rw[beT e]at b2;cases b2
     rw[ab (λq=>by rcases q with q|q;exact q b;exact b2 q)]at hf;exact .some (.inr ⟨by simp, .inl (by rw[hf];rfl)⟩)
  ·have G:=Bs G;rw[d6 (by omega)]at hf;exact .some (.inr ⟨by simp, .inr ⟨rfl,hf⟩⟩)
 obtain⟨o,S,L⟩:=key;refine eB S ?_;rcases L with rfl|⟨rfl,L⟩
 ·exact eT rfl rfl
 ·rw[L];exact eF rfl (eT rfl rfl)
def FT (K:Kf) (c:Cv):Bool:=E2 c&& !decide (IS K.t (AZ c))
def Fu (K:Kf) (c:Cv) (to:Int):Trk:=Ej K.p K.x (Mk K.t (AZ c)) (A_ K c) to
def JZ (K:Kf) (c:Cv) (to:Int):List AC:=if FT K c=true then A0 (Fu K c to)++[I 0,I 0,I 0,I 0,I 0,I 0,B true]else [.vC Ap [],I 0,I 0,I 0,I 0,I 0,I 0,I 0,I 0,I 0,I 0,I 0,B false]
theorem Ya8 {c:Cv} (D:O [I c.m0,I c.m1,I c.m2,I c.m3,I c.m4,I c.m5]=some [B (E2 c)]) (G:P (A0 K.t++[I (AZ c)])=some [B (decide (IS K.t (AZ c)))])
  (L:S (A0 K.t++[I (AZ c)])=some (ptR (Mk K.t (AZ c)))) (N:W (A0 K.t++[I (AZ c)])=some [I (A_ K c)])
  (T:∀(d:Pt) (a b:Int),Z (Bk K.p++AI K.x++[I d.x,I d.y,I d.z,I a,I b])=some (A0 (Ej K.p K.x d a b))) (U:M [I 0]=some [I 0,I 0,I 0,I 0,I 0,I 0]):
  Qa1 M Z W S P O (pxt K.p K.x K.t [I c.m0,I c.m1,I c.m2,I c.m3,I c.m4,I c.m5,I k])=some (JZ K c k):=by
 rw[Yd6];refine eB D ?_;unfold JZ FT Fu;cases V:E2 c
 ·exact eT rfl rfl
 ·refine eF rfl (eB G ?_);cases X:decide (IS K.t (AZ c))
  ·refine eF rfl (eB L (eB N (eB (T (Mk K.t (AZ c)) (A_ K c) k) (eB U ?_))));rw[aa (show(true&& !false)=true from rfl)];rfl
  ·exact eT rfl rfl
theorem Zbg (h:KOK K) (c:Cv) (to:Int):Kr (pxt K.p K.x K.t [I c.m0,I c.m1,I c.m2,I c.m3,I c.m4,I c.m5,I to])=some (JZ K c to):=
 Ya8 (Q7h c) (Zxe h.f.t.q _) (Z9e h.f.t.q _) (RY h.f.t.q _) (λd a b=>Q92 h.f.p h.f.x.ok) (Qcv 0)
theorem Q9n (h:KOK K) (c:Cv) (to:Int):TH (Fu K c to):=Qy7 _ _ _ h.f.x.ok h.f.p
def zM (c:Cv):Cv:={c with m0:=0,m1:=0,m2:=0,m3:=0,m4:=0,m5:=0}
def E4 (c d:Cv):Prop:=d=c\/∃a:Int,c.g0=0/\d={c with g0:=1,g1:=19,g2:=a}
def L_ (K:Kf) (c:Cv) (n:Int):Cv:={c with g0:=gA ((Ji (I n::Ac K c)).getD []) 61,g1:=gA ((Ji (I n::Ac K c)).getD []) 62,g2:=gA ((Ji (I n::Ac K c)).getD []) 63}
theorem brD {c:Cv} {F:Cv->Option (List AC)} {p:Prop} [Decidable p] {X Y:Option (List AC)} (D:p->∃d:Cv,E4 c d/\X=F d) (G: ¬p->∃d:Cv,E4 c d/\Y=F d):∃d:Cv,E4 c d/\(bif decide p then X else Y)=F d:=by
 by_cases h:p
 ·rw[ai h];exact D h
 ·rw[aj h];exact G h
theorem bdE {c:Cv} {F:Cv->Option (List AC)} {m:Option (List AC)} {f:Fn} (h:m=some o) (hf:∃d:Cv,E4 c d/\f o=F d):∃d:Cv,E4 c d/\m.bind f=F d:=by
 rw[h];exact hf
theorem Zs0 (c:Cv) (l G a1 a2 L b1 b2:Int):∃d:Cv,E4 c d/\NV [I c.g0,I c.g1,I c.g2,I l,I G,I a1,I a2,I L,I b1,I b2]=some [I d.g0,I d.g1,I d.g2]:=by
 show∃d:Cv,E4 c d/\Qm2 _=_;rw[Zy1];by_cases h:c.g0=0
 ·have D:∀a:Int,∃d:Cv,E4 c d/\some [I 1,I 19,I a]=some [I d.g0,I d.g1,I d.g2]:=λa=>⟨{c with g0:=1,g1:=19,g2:=a}, .inr ⟨a,h,rfl⟩,rfl⟩;have M:∃d:Cv,E4 c d/\some [I c.g0,I c.g1,I c.g2]=some [I d.g0,I d.g1,I d.g2]:=⟨c, .inl rfl,rfl⟩;rw[bnF h];exact brD (F:=λd=>some [I d.g0,I d.g1,I d.g2]) (λ_=>D 0) λ_=>brD (F:=λd=>some [I d.g0,I d.g1,I d.g2]) (λ_=>D 0) λ_=>brD (F:=λd=>some [I d.g0,I d.g1,I d.g2]) (λ_=>D _) λ_=>brD (F:=λd=>some [I d.g0,I d.g1,I d.g2]) (λ_=>D _) λ_=>brD (F:=λd=>some [I d.g0,I d.g1,I d.g2]) (λ_=>D _) λ_=>brD (F:=λd=>some [I d.g0,I d.g1,I d.g2]) (λ_=>D _) λ_=>M
 ·exact⟨c, .inl rfl,by rw[bnT h];rfl⟩
theorem Ze5 {MC MM MU:Fn} {c:Cv} {n:Int} (hn:n<=1073741824) (T:MU (Ac K c)=some [I (AZ c)]) (U:∀u,MM (pxt K.p K.x K.t [I u])=some (ptR (Hj K.p K.x K.t u)))
  (X:∀D a1 a2 G b1 b2:Int,∃d:Cv,E4 c d/\MC [I c.g0,I c.g1,I c.g2,I K.lag,I D,I a1,I a2,I G,I b1,I b2]=some [I d.g0,I d.g1,I d.g2]):
  ∃d:Cv,E4 c d/\Qk2 MC MM MU (I n::Ac K c)=some (Ac K d):=by
 rw[Zxy];unfold RX;have O:∃d:Cv,E4 c d/\some (Ac K c)=some (Ac K d):=⟨c, .inl rfl,rfl⟩;have M:∀D a1 a2 G b1 b2:Int,∃d:Cv,E4 c d/\((MC [I c.g0,I c.g1,I c.g2,I K.lag,I D,I a1,I a2,I G,I b1,I b2]).bind λo=>some (Ac K {c with g0:=gA o 0,g1:=gA o 1,g2:=gA o 2}))=some (Ac K d):=λD a1 a2 G b1 b2=>by
  obtain⟨d,Y,e⟩:=X D a1 a2 G b1 b2;rcases Y with rfl|⟨a,h0,rfl⟩
  ·exact⟨d, .inl rfl,eB e rfl⟩
  ·exact⟨_, .inr ⟨a,h0,rfl⟩,eB e rfl⟩
 have hq: ¬n<0->0<=V (n.tdiv 1048576):=λh=>by
  rw[bq (by omega),Ae];omega
 generalize V (n.tdiv 1048576)=q at*;have F:Cv->Option (List AC):=λd=>some (Ac K d);refine brD (F:=λd=>some (Ac K d)) (λ_=>O) λh1=>brD (F:=λd=>some (Ac K d)) (λ_=>O) λh2=> ?_;refine bdE (F:=λd=>some (Ac K d)) T (bdE (F:=λd=>some (Ac K d)) (U (AZ c)) ?_);refine brD (F:=λd=>some (Ac K d)) (λL=>brD (F:=λd=>some (Ac K d)) (λ_=>M ..) λe=>absurd L e) λL=> ?_;refine brD (F:=λd=>some (Ac K d)) (λN=>brD (F:=λd=>some (Ac K d)) (λe=>absurd e L) λ_=>brD (F:=λd=>some (Ac K d)) (λ_=>M ..) λe=>absurd N e) λN=> ?_;refine brD (F:=λd=>some (Ac K d)) (λS=>brD (F:=λd=>some (Ac K d)) (λe=>absurd e L) λ_=>brD (F:=λd=>some (Ac K d)) (λe=>absurd e N) λ_=>brD (F:=λd=>some (Ac K d)) (λ_=>M ..) λe=>absurd S e) λS=> ?_;have:=hq h1;omega
theorem Qs8 (h:KOK K) (c:Cv) {n:Int} (L:n<=1073741824):Ji (I n::Ac K c)=some (Ac K (L_ K c n))/\E4 c (L_ K c n):=by
 obtain⟨d,G,D⟩:=Ze5 (MC:=NV) (MM:=DV) L (PY K c) (Qi h.f) (λM a1 a2 N b1 b2=>Zs0 c K.lag M a1 a2 N b1 b2);have D:Ji (I n::Ac K c)=some (Ac K d):=D;have e:L_ K c n=d:=by
  unfold L_;rw[D];rcases G with rfl|⟨a,O,rfl⟩<;>rfl
 rw[e];exact⟨D,G⟩
def K1 (K:Kf) (c:Cv):Cv:={c with aH:=bA ((Mg (Ac K c)).getD []) 77}
def Rf (K:Kf) (c:Cv) (s:Int):Int:=gA ((LV (I s::Ac K c)).getD []) 0
end Go.Bm
namespace Go.Bm
theorem Z4v (K:Kf) (c:Cv) (M:K.p.aF.length<=1000000) (i:Int):∃v:Int,N0 (I i::Ac K c)=some (I v::Ac K c):=by
 have key:Out (λo=>∃v:Int,o=(1,I v::Ac K c)) (Am TX (I i::I 0:: .vC Ag (K.p.aF.map Aw)::I ((K.p.aF.map Aw).length:Int)::I ((0:Nat):Int)::Ac K c)):=by
  refine CJ (λs:Int×Nat=>I i::I s.1:: .vC Ag (K.p.aF.map Aw)::I ((K.p.aF.map Aw).length:Int)::I (s.2:Int)::Ac K c) (λs=>s.2<=K.p.aF.length) (λs=>K.p.aF.length-s.2) _ ?_ (0,0) (i7 _);rintro⟨v,k⟩ G;dsimp only at G;refine Out.eqv (Z63 i v (K.p.aF.map Aw) ((K.p.aF.map Aw).length:Int) k K c) ?_;have N:((K.p.aF.map Aw).length:Int)=K.p.aF.length:=by rw[ag]
  refine .cond (λD=> ?_) λ_=> .some (.inr ⟨by simp,v,rfl⟩);have D:=Bl D;refine .cond (λ_=> ?_) λe=>(inB (by omega) D e).elim;refine .cond (λ_=> .some (.inr ⟨by simp,v,rfl⟩)) λ_=> ?_;rw[Ae (x:=(k:Int)+1)];exact .some (.inl ⟨rfl,(_,k+1),rfl,by dsimp only;omega,by dsimp only;omega⟩)
 obtain⟨o,L,v,rfl⟩:=key;refine⟨v,?_⟩;show Qd3 (Am TX) _=_;rw[Zj7];exact eB L (eT rfl rfl)
theorem Zmt (K:Kf) (c:Cv) (N:K.p.aF.length<=1000000) (s:Int):LV (I s::Ac K c)=some [I (Rf K c s)]:=by
 have key:Out (λo=>∃v:Int,o=(1,I v::Ac K c)) (Am KY (I s::I 0::I 0:: .vC Ag (K.p.aF.map Aw)::I ((K.p.aF.map Aw).length:Int)::I ((0:Nat):Int)::Ac K c)):=by
  refine CJ (λz:Int×Int×Nat=>I s::I z.1::I z.2.1:: .vC Ag (K.p.aF.map Aw)::I ((K.p.aF.map Aw).length:Int)::I (z.2.2:Int)::Ac K c) (λz=>z.2.2<=K.p.aF.length) (λz=>K.p.aF.length-z.2.2) _ ?_ (0,0,0) (i7 _);rintro⟨v,w,k⟩ L;dsimp only at L;refine Out.eqv (Zkb s v w (K.p.aF.map Aw) ((K.p.aF.map Aw).length:Int) k K c) ?_;have O:((K.p.aF.map Aw).length:Int)=K.p.aF.length:=by rw[ag]
  refine .cond (λD=> ?_) λ_=> .some (.inr ⟨by simp,w,rfl⟩);have D:=Bl D;refine .cond (λ_=> ?_) λe=>(inB (by omega) D e).elim;rw[Ae (x:=(k:Int)+1)];refine .cond (λ_=> .cond (λ_=> ?_) λ_=> ?_) λ_=> ?_;all_goals exact .some (.inl ⟨rfl,(_,_,k+1),rfl,by dsimp only;omega,by dsimp only;omega⟩)
 obtain⟨o,M,v,rfl⟩:=key;have G:LV (I s::Ac K c)=some [I v]:=by
  show Zh (Am KY) _=_;refine(Zs1 _ s K c).trans ?_;exact eB M rfl
 have e:Rf K c s=v:=by unfold Rf;rw[G];rfl
 rw[e];exact G
theorem Zwb {MB N MS:Fn} {c:Cv} (h:KOK K) (S:MS (Ac K c)=some (Aw (vF K c)++[B (DO K c).isSome])) (T:N (Ac K c)=some [I (A_ K c)]) (hB:∀i,∃v:Int,MB (I i::Ac K c)=some (I v::Ac K c)):
  ∃b:Bool,(c.aH=true->b=true)/\Ql7 MB N MS (Ac K c)=some (Ac K {c with aH:=b}):=by
 have G:∃b:Bool,(c.aH=true->b=true)/\some (Ac K c)=some (Ac K {c with aH:=b}):=⟨c.aH,id,rfl⟩;have L:∀{m:Option (List AC)} {f:Fn} {o:List AC},m=some o->(∃b:Bool,(c.aH=true->b=true)/\f o=some (Ac K {c with aH:=b}))->∃b:Bool,(c.aH=true->b=true)/\m.bind f=some (Ac K {c with aH:=b}):=λh hf=>by rw[h];exact hf
 have D:∀{b:Bool} {X Y:Option (List AC)},(b=true->∃d:Bool,(c.aH=true->d=true)/\X=some (Ac K {c with aH:=d}))->(b=false->∃d:Bool,(c.aH=true->d=true)/\Y=some (Ac K {c with aH:=d}))->∃d:Bool,(c.aH=true->d=true)/\(bif b then X else Y)=some (Ac K {c with aH:=d}):=fun{b} _ _ U V=>by
  cases b
  ·exact V rfl
  ·exact U rfl
 rw[Zg0];refine L S (D (λO=>D (λ_=>D (λ_=>D (λ_=>L T ?_) λ_=>G) λe=> ?_) λ_=>G) λ_=>G)
 ·obtain⟨v,hv⟩:=hB (vF K c).aU;refine L hv (D (λ_=>⟨true,λ_=>rfl,rfl⟩) λ_=>⟨c.aH,id,rfl⟩)
 ·cases M:DO K c with
  |none=>rw[M]at O;cases O
  |some g=>
   obtain⟨q1,q2,-⟩:=h.aF g (Wp M);have eg:vF K c=g:=by unfold vF;rw[M];rfl
   have e:(decide (0<=(vF K c).aU)&&decide ((vF K c).aU<((K.aA.map Ah).length:Int)))=false:=e;rw[eg,inM (f:=Ah) q1 q2]at e;cases e
theorem Zz5 (h:KOK K) (c:Cv):Mg (Ac K c)=some (Ac K (K1 K c))/\(c.aH=true->(K1 K c).aH=true):=by
 obtain⟨b,hb,D⟩:=Zwb (MB:=N0) h (Vd h c) (Pb h c) (Z4v K c (by have:=h.f.p.count;omega));have D:Mg (Ac K c)=some (Ac K {c with aH:=b}):=D;have e:K1 K c={c with aH:=b}:=by unfold K1;rw[D];rfl
 rw[e];exact⟨D,hb⟩
def Ho (K:Kf) (c:Cv) (n:Int):Bool:=(DO K c).isSome&&decide (0<n)&&decide (c.way=0)&& !c.on&&decide (c.aI=0)&&c.o2&&decide ((vF K c).aX=0)&&FT K c
def Sr (K:Kf) (c:Cv) (n:Int):Int:=mx (mx 0 (V (A_ K c-n))) (Rf K c (A_ K c))
def EL (K:Kf) (c:Cv) (n:Int):Kf×Cv:=if Ho K c n=true then(sT K (Fu K c (Sr K c n)),{zM c with o2:=false,way:=1,home:=A_ K c})else(K,c)
theorem Zqy {c:Cv} {n:Int} (V:S (Ac K c)=some (Aw (vF K c)++[B (DO K c).isSome])) (X:W (Ac K c)=some [I (A_ K c)])
  (Y:∀s,Z (I s::Ac K c)=some [I (Rf K c s)]) (D:∀to,M (pxt K.p K.x K.t [I c.m0,I c.m1,I c.m2,I c.m3,I c.m4,I c.m5,I to])=some (JZ K c to)):
  Qdn M Z W S (I n::Ac K c)=some (Ac (EL K c n).1 (EL K c n).2):=by
 rw[Zfj];have G:Ho K c n=false->some (Ac K c)=some (Ac (EL K c n).1 (EL K c n).2):=λe=>by unfold EL;rw[ab (by rw[e];simp)]
 refine eB V ?_;refine eC (λe=> ?_) λe1=> ?_
 ·have e:(!(DO K c).isSome)=true:=e;exact G (by unfold Ho;rw[jg]at e;rw[e];rfl)
 have e1:(DO K c).isSome=true:=by simpa [bA,nth,Df]using e1
 refine eC (λe=>G ?_) λe2=> ?_
 ·unfold Ho;rw[aj (show¬0<n by have:=Bl e;omega)];simp
 have e2:0<n:=by have:=Bs e2;omega
 refine eC (λe=>G ?_) λe3=> ?_
 ·unfold Ho;rw[aj (show¬c.way=0 by simpa using e)];simp
 have e3:c.way=0:=by simpa using e3
 refine eC (λe=>G ?_) λN=> ?_
 ·unfold Ho;rw[show c.on=true from e];simp
 have N:c.on=false:=N;refine eC (λe=>G ?_) λO=> ?_
 ·unfold Ho;rw[aj (show¬c.aI=0 by simpa using e)];simp
 have O:c.aI=0:=by simpa using O
 refine eC (λe=>G ?_) λT=> ?_
 ·unfold Ho;rw[show c.o2=false by simpa using e];simp
 have T:c.o2=true:=by simpa using T
 refine eC (λe=>G ?_) λU=> ?_
 ·unfold Ho;rw[aj (show¬(vF K c).aX=0 by simpa [gA,nth,Af]using e)];simp
 have U:(vF K c).aX=0:=by simpa [gA,nth,Af]using U
 have L:Ho K c n=FT K c:=by
  unfold Ho;rw[e1,ai e2,ai e3,N,ai O,T,ai U];rfl
 refine eB X (eB (Y (A_ K c)) ?_);have D:=D (Sr K c n);unfold JZ at D;unfold EL;rw[L];cases hb:FT K c
 ·rw[hb,ab (by simp)]at D;exact eB D (eT rfl rfl)
 ·rw[hb,aa rfl]at D;rw[aa rfl];generalize Fu K c (Sr K c n)=t at*;exact eB D (eF rfl (by kernel_rfl))
theorem Z2y (h:KOK K) (c:Cv) (n:Int):Q7 (I n::Ac K c)=some (Ac (EL K c n).1 (EL K c n).2):=
 Zqy (Vd h c) (Pb h c) (Zmt K c (by have:=h.f.p.count;omega)) (Zbg h c)
def evA (s:Kf×Cv) (k n:Int):Kf×Cv:=
 if k=13 then(s.1,L_ s.1 (evC s.2 k n) n)else if k=12 then(s.1,K1 s.1 (evC s.2 k n))else if k=7 then EL s.1 (evC s.2 k n) n else(s.1,evC s.2 k n)
theorem Zew (c:Cv) (x:Int) {k:Int} (n:Int)
  (O:k≠11->P [I c.o0,I c.o1,B c.o2,B c.o3,B c.o4,I x,I k,I n]=some [I (evC c k n).o0,I (evC c k n).o1,B (evC c k n).o2,B (evC c k n).o3,B (evC c k n).o4])
  (T:S [I c.g0,I c.g1,I c.g2,I x,I k,I n]=some [I (evC c k n).g0,I (evC c k n).g1,I (evC c k n).g2])
  (G:k=13->W (I n::Ac K (evC c k n))=some (Ac K (L_ K (evC c k n) n))) (L:k=12->Z (Ac K (evC c k n))=some (Ac K (K1 K (evC c k n))))
  (N:k=7->M (I n::Ac K (evC c k n))=some (Ac (EL K (evC c k n) n).1 (EL K (evC c k n) n).2)) (D:k=13\/k=12\/k=7):
  SJ M Z W S P (I x::I k::I n::Ac K c)=some (Ac (evA (K,c) k n).1 (evA (K,c) k n).2):=by
 rw[Qyh];have U:(evC c k n).aJ=c.aJ:=by
  show(if k=4 then true else c.aJ)=c.aJ;rw[ab]
 have V:({c with o0:=(evC c k n).o0,o1:=(evC c k n).o1,o2:=(evC c k n).o2,o3:=(evC c k n).o3,o4:=(evC c k n).o4,g0:=(evC c k n).g0,g1:=(evC c k n).g1,g2:=(evC c k n).g2}:Cv)=evC c k n:=by
  have e:(evC c k n)={c with o0:=(evC c k n).o0,o1:=(evC c k n).o1,o2:=(evC c k n).o2,o3:=(evC c k n).o3,o4:=(evC c k n).o4,g0:=(evC c k n).g0,g1:=(evC c k n).g1,g2:=(evC c k n).g2,aJ:=(evC c k n).aJ}:=rfl;rw[U]at e;exact e.symm
 refine eB (O (by omega)) (eB T ?_);show cond (k==13) ((W (I n::Ac K {c with o0:=(evC c k n).o0,o1:=(evC c k n).o1,o2:=(evC c k n).o2,o3:=(evC c k n).o3,o4:=(evC c k n).o4,g0:=(evC c k n).g0,g1:=(evC c k n).g1,g2:=(evC c k n).g2})).bind _) (cond (k==11) _ (cond (k==12) ((Z (Ac K {c with o0:=(evC c k n).o0,o1:=(evC c k n).o1,o2:=(evC c k n).o2,o3:=(evC c k n).o3,o4:=(evC c k n).o4,g0:=(evC c k n).g0,g1:=(evC c k n).g1,g2:=(evC c k n).g2})).bind _) (cond (k==7) ((M (I n::Ac K {c with o0:=(evC c k n).o0,o1:=(evC c k n).o1,o2:=(evC c k n).o2,o3:=(evC c k n).o3,o4:=(evC c k n).o4,g0:=(evC c k n).g0,g1:=(evC c k n).g1,g2:=(evC c k n).g2})).bind _) _)))=_;rw[V];unfold evA;dsimp only;generalize evC c k n=d at*;rcases D with D|D|D
 ·rw[aa D];have G:=G D;generalize L_ K d n=e at*;exact eT (beT D) (eB G rfl)
 ·rw[ab,aa D];have L:=L D;generalize K1 K d=e at*;exact eF (beF (by omega)) (eF (beF (by omega)) (eT (beT D) (eB L rfl)))
 ·rw[ab,ab,aa D];have N:=N D;generalize EL K d n=e at*;exact eF (beF (by omega)) (eF (beF (by omega)) (eF (beF (by omega)) (eT (beT D) (eB N rfl))))
theorem Z0y (h:KOK K) (c:Cv) (x k:Int) {n:Int} (G:n<=1073741824):Je (I x::I k::I n::Ac K c)=some (Ac (evA (K,c) k n).1 (evA (K,c) k n).2):=by
 by_cases D:k≠7/\k≠12/\k≠13
 ·have e:evA (K,c) k n=(K,evC c k n):=by
   unfold evA;rw[ab D.2.2,ab D.2.1,ab D.1]
  rw[e];exact Zi7 c x n D
 ·exact Zew c x n (λh=>Qtu Qsv c x k n h) (Qun (by show PS []=_;rw[Xo]) Q5p c x k n) (λ_=>(Qs8 h _ G).1) (λ_=>(Zz5 h _).1) (λ_=>Z2y h _ n) (by omega)
end Go.Bm
