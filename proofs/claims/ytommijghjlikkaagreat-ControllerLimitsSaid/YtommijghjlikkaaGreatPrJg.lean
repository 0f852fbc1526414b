/- laid together -/
import Derived.Test.YtommijghjlikkaaGreatPrPe
import Derived.Test.YtommijghjlikkaaGreatPrTk
import Derived.Test.YtommijghjlikkaaGreatPrLc
import Derived.Test.YtommijghjlikkaaGreatMx3
import Derived.Test.YtommijghjlikkaaGreatMy1
set_option linter.unusedVariables false
set_option linter.unusedSimpArgs false
set_option maxRecDepth 100000
open Go.IntKind (wrap)
variable {K:Go.Bm.Kf} {a k b u v r:Int} {p:Go.Bm.Pth} {i A:Nat} {d:Go.Bm.Cv} {M Z W T S P O:Go.Bm.Fn} {l:Go.Bm.Rw} {q:Go.Bm.Pt} {N:Go.Bm.Lp} {g:Go.Bm.Sgm} {L:List Int}
namespace Go.Bm
open Classical
theorem Qe1 {MK S T U N O:Fn} {aA:List Itm} (V:∀k:Int,N [I k]=some [B (decide (1<=k/\k<=6))]) (X:∀it,O (Ah it)=some [I (if B6 it then 1 else 0)]) (hl:aA.length<=1000000):
  ∀(k i:Nat) (last:Int),i+k=aA.length->(last= -1\/(0<=last/\last<i))->
  (Am (Q1 MK S T U N O) [.vC Ag [], .vC AN [], .vC Ak (aA.map Ah),I last, .vC Ak (aA.map Ah),I aA.length,I i,I 0,I 0,I 0,B false,I 0,I 0,I 0]=some (1,[.vC Ag [], .vC AN [],I (Hd aA k i last),I 0,I 0,I 0,B false,I 0,I 0,I 0])/\Hd aA k i last≠0)\/
  (Am (Q1 MK S T U N O) [.vC Ag [], .vC AN [], .vC Ak (aA.map Ah),I last, .vC Ak (aA.map Ah),I aA.length,I i,I 0,I 0,I 0,B false,I 0,I 0,I 0]=some (2,[.vC Ag [], .vC AN [], .vC Ak (aA.map Ah),I 0,I 0,I 0,B false,I 0,I 0,I 0])/\Hd aA k i last=0)
 |0,i,last,hi,_=>by
  right;refine⟨Bg ?_ (by simp),rfl⟩;rw[Q70,Bi (by omega)]
 |k+1,i,last,hi,Y=>by
  have a0:i<aA.length:=by omega
  have hr:=F0 a0;have hw:=X (vE aA i);have hm:=V (vE aA i).aP;have a1:(0:Int)<=(i:Int)/\(i:Int)<(aA.length:Int):=by omega
  have D:Q1 MK S T U N O [.vC Ag [], .vC AN [], .vC Ak (aA.map Ah),I last, .vC Ak (aA.map Ah),I aA.length,I i,I 0,I 0,I 0,B false,I 0,I 0,I 0]=
    if B6 (vE aA i)then some (1,[.vC Ag [], .vC AN [],I 1,I 0,I 0,I 0,B false,I 0,I 0,I 0])else if AF (vE aA i)then(if 0<=last/\(vE aA last.toNat).to≠(vE aA i).fr then some (1,[.vC Ag [], .vC AN [],I 13,I 0,I 0,I 0,B false,I 0,I 0,I 0])else some (0,[.vC Ag [], .vC AN [], .vC Ak (aA.map Ah),I i, .vC Ak (aA.map Ah),I aA.length,I (i+1:Nat),I 0,I 0,I 0,B false,I 0,I 0,I 0]))
    else some (0,[.vC Ag [], .vC AN [], .vC Ak (aA.map Ah),I last, .vC Ak (aA.map Ah),I aA.length,I (i+1:Nat),I 0,I 0,I 0,B false,I 0,I 0,I 0]):=by
   rw[Q70];simp only[Ah]at hw;simp only[go_sem,ac,aj,hr,hw,hm,aa a1];rw[aa,Ae];by_cases J:B6 (vE aA i)
   ·simp only[aa J];rw[aa]
   simp only[ab J];rw[ab (by simp)];by_cases E:AF (vE aA i)
   ·rw[ab (λh=>h E),aa E];rcases Y with rfl|⟨h1,h2⟩
    ·rw[ab (show¬(-1:Int)>=0 by omega),ab (λh=>by omega)];rfl
    ·obtain⟨L,rfl⟩:=cg h1;have hL:L<aA.length:=by omega
     have M:(0:Int)<=(L:Int)/\(L:Int)<(aA.length:Int):=by omega
     have a2:=F0 hL;simp only[aj,a2,go_sem,aa M];rw[aa];by_cases G:(vE aA L).to=(vE aA i).fr
     ·have c4:=D6.1 G;rw[ab (λh=>h ⟨c4.1,c4.2.1,c4.2.2,trivial⟩),ab (λh=>h.2 G)];rfl
     ·rw[aa (λh=>G (D6.2 ⟨h.1,h.2.1,h.2.2.1⟩)),aa ⟨h1,G⟩]
   ·rw[aa (show¬(1<=(vE aA i).aP/\(vE aA i).aP<=6)from E),ab E];rfl
  unfold Hd;by_cases J:B6 (vE aA i)
  ·rw[aa J]at D⊢;exact .inl ⟨Bg D (by simp),by simp⟩
  ·rw[ab J]at D⊢;by_cases E:AF (vE aA i)
   ·rw[aa E]at D⊢;by_cases G:0<=last/\(vE aA last.toNat).to≠(vE aA i).fr
    ·rw[aa G]at D⊢;exact .inl ⟨Bg D (by simp),by simp⟩
    ·rw[ab G]at D⊢;rw[BE D];exact Qe1 V X hl k (i+1) i (by omega) (.inr (by omega))
   ·rw[ab E]at D⊢;rw[BE D];exact Qe1 V X hl k (i+1) last (by omega) (by omega)
noncomputable def GW (aA:List Itm):Nat->Int
 |0=> -1
 |i+1=>if AF (vE aA i)then i else GW aA i
theorem Qxf (aA:List Itm):∀i,GW aA i= -1\/∃L:Nat,GW aA i=L/\L<i/\AF (vE aA L)/\∀j,L<j->j<i-> ¬AF (vE aA j)
 |0=> .inl rfl
 |i+1=>by
  unfold GW;by_cases c:AF (vE aA i)
  ·rw[aa c];exact .inr ⟨i,rfl,by omega,c,λj D E=>by omega⟩
  ·rw[ab c];rcases Qxf aA i with h|⟨L,D,E,G,I⟩
   ·exact .inl h
   ·refine .inr ⟨L,D,by omega,G,λj g1 g2=> ?_⟩;by_cases e:j=i
    ·rw[e];exact c
    ·exact I j g1 (by omega)
theorem Qw8 (aA:List Itm):∀i,(Aq aA i).frm=if 0<=GW aA i/\0<=CA aA (GW aA i).toNat then GW aA i else-1
 |0=>by rw[Aq,GW,ab]
 |i+1=>by
  rw[Aq,GW];unfold Dv;by_cases c:AF (vE aA i)
  ·rw[aa c,aa c];simp only[aj];by_cases D:0<=CA aA i
   ·rw[aa D,aa ⟨by omega,D⟩]
   ·rw[ab D,ab (λh=>D h.2)]
  ·rw[ab c,ab c];exact Qw8 aA i
theorem Zrb {aA:List Itm} (G:A<i) (O:i<aA.length) (I:AF (vE aA i)) (D:∀j,A<j->j<i-> ¬AF (vE aA j)) (J:0<=CA aA A):DA aA A=i:=by
 have S:=UD J;rcases Qau aA A with h|⟨-,-,k,T,L,U,E,M⟩
 ·omega
 ·have N:DA aA A=k:=by omega
  rw[N];rcases Nat.lt_trichotomy k i with h|h|h
  ·exact absurd ⟨by have:=E.1;omega,by have:=E.1;omega⟩ (D k L h)
  ·exact h
  ·have:=M i G h;have:=I.2;omega
noncomputable def Do (aA:List Itm):Nat->Int
 |0=>0
 |i+1=>if AF (vE aA i)then(F8 aA i (Aq aA i) (Do aA i)).2 else Do aA i
theorem Qvq (aA:List Itm):∀i,(Aq aA i).bK=false->(Aq aA i).frm= -1
 |0,_=>by rw[Aq]
 |i+1,h=>by
  rw[Aq]at h⊢;unfold Dv at h⊢;by_cases c:AF (vE aA i)
  ·rw[aa c]at h;cases h
  ·rw[ab c]at h⊢;exact Qvq aA i h
noncomputable abbrev pbR (aA:List Itm) (i:Nat):List AC:=
 [.vC Ag ((Aq aA i).aF.map Ax), .vC AN ((Aq aA i).aD.map Aw), .vC Ak (aA.map Ah),I (GW aA i), .vC Ak (aA.map Ah),I aA.length,I i,I (Aq aA i).aQ.x,I (Aq aA i).aQ.y,I (Aq aA i).aQ.z,B (Aq aA i).bK,I (Aq aA i).len,I (Aq aA i).aS,I (Do aA i)]
theorem Zh2 {MK MV MN MS MM MC:Fn} {aA:List Itm} (hi:i<aA.length) (hlen:aA.length<=15) (a1:(Aq aA i).aD.length=i)
  (hM:∀k:Int,MM [I k]=some [B (decide (1<=k/\k<=6))]) (hS:∀L:Nat,L<aA.length->MS [.vC Ak (aA.map Ah),I L]=some [B (decide (0<=CA aA L))]) (hN:∀L:Nat,L<aA.length->MN [.vC Ak (aA.map Ah),I L]=some [I (DA aA L)])
  (hV : AF (vE aA i) -> MV [.vC Ag ((Aq aA i).aF.map Ax), .vC AN ((Aq aA i).aD.map Aw), .vC Ak (aA.map Ah), I i, I (Aq aA i).frm, I (Aq aA i).aQ.x, I (Aq aA i).aQ.y, I (Aq aA i).aQ.z, B (Aq aA i).bK, I (Aq aA i).len, I (Aq aA i).aS, I (Do aA i)] =
   some [.vC Ag ((F8 aA i (Aq aA i) (Do aA i)).1.1.map Ax), .vC AN ((Aq aA i).aD.map Aw),B true,I (if(Aq aA i).bK=true then(Aq aA i).aQ else AE (vE aA i).fr).x,I (if(Aq aA i).bK=true then(Aq aA i).aQ else AE (vE aA i).fr).y,I (if(Aq aA i).bK=true then(Aq aA i).aQ else AE (vE aA i).fr).z,B true,
    I (F8 aA i (Aq aA i) (Do aA i)).1.2.1,I (Aq aA i).aS,I (F8 aA i (Aq aA i) (Do aA i)).2])
  (hK : ∀ {aF : Rw} {S : Pt} {b : Bool} {len sp G : Int}, MK [.vC Ag aF, .vC AN ((Aq aA i).aD.map Aw), .vC Ak (aA.map Ah), I i, I S.x, I S.y, I S.z, B b, I len, I sp, I G] =
   some [.vC Ag aF, .vC AN (((Aq aA i).aD++[(⟨len,Kj aA i,i⟩:Mrk)]).map Aw),I S.x,I S.y,I S.z,B b,I len,I sp,I G]):
  QA MK MV MN MS MM MC N (pbR aA i)=some (0,pbR aA (i+1)):=by
 have hr:=F0 hi;have U:(0:Int)<=(i:Int)/\(i:Int)<(aA.length:Int):=by omega
 have hw:V ((i:Int)+1)=((i+1:Nat):Int):=by rw[Ae];omega
 have hf:=Qw8 aA i;have M:=Qxf aA i;have X:=Zel aA i (Aq aA i) (Do aA i);have e1:GW aA (i+1)=if AF (vE aA i)then(i:Int)else GW aA i:=rfl;have e2:Do aA (i+1)=if AF (vE aA i)then(F8 aA i (Aq aA i) (Do aA i)).2 else Do aA i:=rfl;have e3:Aq aA (i+1)=Dv aA i (Aq aA i):=rfl;unfold pbR;rw[e1,e2,e3];generalize Aq aA i=s at*;generalize GW aA i=last at*;generalize a2:Do aA i=G at*;unfold Dv;rw[Zbh];by_cases E:AF (vE aA i)
 ·have T: ¬(vE aA i).aP=8:=λh=>by have:=E.2;omega
  have hV:=hV E;have D:Kj aA i=GY aA i:=aa E;rw[aa E,aa E,aa E];rw[X]at hV;have O:MM [I (vE aA i).aP]=some [B true]:=by rw[hM,al (show 1<=(vE aA i).aP/\(vE aA i).aP<=6 from E)]
  simp only[go_sem,ac,aj,hr,aa U,O];rw[aa,ab T];have J:∀{x:Option (Nat×List AC)} {frm:Int},s.frm=frm->(MV [.vC Ag (s.aF.map Ax), .vC AN (s.aD.map Aw), .vC Ak (aA.map Ah),I i,I frm,I s.aQ.x,I s.aQ.y,I s.aQ.z,B s.bK,I s.len,I s.aS,I G])=
    some [.vC Ag ((Gp aA i s).1.map Ax), .vC AN (s.aD.map Aw),B true,I (if s.bK=true then s.aQ else AE (vE aA i).fr).x,I (if s.bK=true then s.aQ else AE (vE aA i).fr).y,I (if s.bK=true then s.aQ else AE (vE aA i).fr).z,B true,I (Gp aA i s).2.1,I s.aS,I (F8 aA i s G).2]:=by
   intro x frm h;rw[<-h];exact hV
  rcases M with M|⟨L,h1,h2,h3,h4⟩
  ·rw[M];rw[M,ab]at hf;rw[ab (show¬(-1:Int)>=0 by omega)];have Y:=J (x:=none) hf;simp only[Y,go_sem,hK,hw,D];simp
  ·rw[h1]at hf⊢;rw[aj]at hf;have hs:=hS L (by omega);have hn:=hN L (by omega);rw[aa (show(L:Int)>=0 by omega)];by_cases c:0<=CA aA L
   ·have a0:=Zrb h2 hi E h4 c;rw[aa ⟨by omega,c⟩]at hf;rw[a0]at hn;rw[al c]at hs;have Y:=J (x:=none) hf;simp only[hs,hn,go_sem];simp only[Y,go_sem,hK,hw,D];simp
   ·rw[ab (λh=>c h.2)]at hf;rw[am c]at hs;have Y:=J (x:=none) hf;simp only[hs,go_sem];simp only[Y,go_sem,hK,hw,D];simp
 ·have D:Kj aA i=I6 (vE aA i):=ab E;rw[ab E,ab E,ab E];have O:MM [I (vE aA i).aP]=some [B false]:=by rw[hM,am (show¬(1<=(vE aA i).aP/\(vE aA i).aP<=6)from E)]
  unfold RR;simp only[go_sem,ac,aj,hr,aa U,O,hK,hw,D];rw[aa];by_cases T:(vE aA i).aP=8
  ·by_cases h3:(vE aA i).n=3
   ·simp[T,h3]
   ·by_cases h4:(vE aA i).n=4
    ·simp[T,h4]
    ·simp[T,h3,h4]
  ·simp[T]
theorem Zhs {it:Itm} (hf:it.aP=1\/1<=it.aZ/\it.aZ<=60000000) (E:0<=a/\a<=30000):Kl (Ah it++[I a])=some [I (HL it a)]:=by
 by_cases D:it.aP=1
 ·unfold Kl HL;generalize BO=M;have h:=Q0s (AS:=M) it.aP it.block it.fr.x it.fr.y it.fr.z it.to.x it.to.y it.to.z it.aG it.ce.x it.ce.y it.ce.z it.dir it.bI it.aZ it.perRev it.side it.radius it.bJ it.n it.aS it.on a;rw[aa D];refine co h ?_;rw[BX (by simp[D])]
 ·exact Ziv (by omega) E
theorem Z6e {aF:List Sgm} {q g D at_:Pt} {M aU aZ aX len sp E:Int} (G:F3 D aF=at_) (J:bd 67108864 at_) (L:bd 67108864 q) (N:aF.length+1<=1048577) (hlen:0<=len/\len<=4000000000000000000):
  Qb [.vC Ag (aF.map Ax), .vC AN l,I q.x,I q.y,I q.z,I g.x,I g.y,I g.z,I M,I aU,I aZ,I aX,I D.x,I D.y,I D.z,B true,I len,I sp,I E]=
   some [.vC Ag ((Bc aU aZ aX (aF,len,at_) q).1.map Ax), .vC AN l,I D.x,I D.y,I D.z,B true,I (Bc aU aZ aX (aF,len,at_) q).2.1,I sp,I E]:=
 Zmg G (Qfa J L) (I5 J L) N hlen
theorem Zf6 {aA:List Itm} (hlen:aA.length<=15) (D:∀j<aA.length,¬B6 (vE aA j)) {i:Nat} (I:i<aA.length):
  QA JJ KY F2 HT Eh JQ RS (pbR aA i)=some (0,pbR aA (i+1)):=by
 have hb:=O7 D i (by omega);have N:=IY D i (by omega);have E:∀k<aA.length,AF (vE aA k)->drawn (vE aA k):=λk T J=>(Mg (D k T) J).1;have G:=Mg (D i I);refine Zh2 I hlen hb.aD R2 (λL O=>Qud (by omega) O) (λL O=>Qek (by omega) O) (λJ=> ?_) (Zvi (by omega) I (by have:=hb.aD;omega));have M:=(G J).1;exact Yao I hlen M.1 hb N (XH M hb.frm E) (λU=>by have S:=(G J).2;rcases U with h|h<;>omega) (Qvq aA i) (Vm _) (Uc M.1.2.1 M.1.2.2.1) (Qx9 _) (Zhs (G J).2 hb.aS)
  (Zwj (by omega) I M hb.frm E) (λV S X Y h5=>Z6e V S X Y h5) Zt2
theorem Zfm {aA:List Itm} (hlen:aA.length<=15) (D:∀j<aA.length,¬B6 (vE aA j)):∀(k i:Nat),i+k=aA.length->
  Am (QA JJ KY F2 HT Eh JQ RS) (pbR aA i)=
   some (2,[.vC Ag ((AQ aA).aF.map Ax), .vC AN ((AQ aA).aD.map Aw),I (AQ aA).aQ.x,I (AQ aA).aQ.y,I (AQ aA).aQ.z,B (Aq aA aA.length).bK,I (Aq aA aA.length).len,I (Aq aA aA.length).aS,I (Do aA aA.length)])
 |0,i,E=>by
  obtain rfl:i=aA.length:=by omega
  refine Bg ?_ (by simp);unfold pbR AQ;rw[Zbh,Bi (by omega)]
 |k+1,i,E=>by
  rw[BE (Zf6 hlen D (by omega))];exact Zfm hlen D k (i+1) (by omega)
def Kt (aA:List Itm) (o:List AC):Prop:=
 if Du aA=0 then o=[.vC Ag ((AQ aA).aF.map Ax), .vC AN ((AQ aA).aD.map Aw),I 0,I (AQ aA).aQ.x,I (AQ aA).aQ.y,I (AQ aA).aQ.z,B (Aq aA aA.length).bK,I (Aq aA aA.length).len,I (Aq aA aA.length).aS,I (Do aA aA.length)]
 else o=[.vC Ag [], .vC AN [],I (Du aA),I 0,I 0,I 0,B false,I 0,I 0,I 0]
theorem Zvn {MK M N O S T:Fn} {J D:Lp} {aA:List Itm} (hlen:aA.length<=15)
  (U : (J [.vC Ag [], .vC AN [], .vC Ak (aA.map Ah), I (-1), .vC Ak (aA.map Ah), I aA.length, I 0, I 0, I 0, I 0, B false, I 0, I 0, I 0] = some (1, [.vC Ag [], .vC AN [], I (Du aA), I 0, I 0, I 0, B false, I 0, I 0, I 0]) /\ Du aA ≠ 0) \/
   (J [.vC Ag [], .vC AN [], .vC Ak (aA.map Ah),I (-1), .vC Ak (aA.map Ah),I aA.length,I 0,I 0,I 0,I 0,B false,I 0,I 0,I 0]=some (2,[.vC Ag [], .vC AN [], .vC Ak (aA.map Ah),I 0,I 0,I 0,B false,I 0,I 0,I 0])/\Du aA=0))
  (L : Du aA = 0 -> D [.vC Ag [], .vC AN [], .vC Ak (aA.map Ah), I (-1), .vC Ak (aA.map Ah), I aA.length, I 0, I 0, I 0, I 0, B false, I 0, I 0, I 0] =
   some (2,[.vC Ag ((AQ aA).aF.map Ax), .vC AN ((AQ aA).aD.map Aw),I (AQ aA).aQ.x,I (AQ aA).aQ.y,I (AQ aA).aQ.z,B (Aq aA aA.length).bK,I (Aq aA aA.length).len,I (Aq aA aA.length).aS,I (Do aA aA.length)])):
  ∃o,Qmf MK M N O S T J D [.vC Ak (aA.map Ah)]=some o/\Kt aA o:=by
 rw[Zu3];have E: ¬((aA.length:Int)>20000):=by omega
 rcases U with⟨h,G⟩|⟨h,G⟩
 ·simp only[go_sem,ac,h,ab E];exact⟨_,rfl,by unfold Kt;rw[ab G]⟩
 ·have g:=L G;simp only[go_sem,ac,h,ab E,g];rw[ab (by decide),ab (by decide)];exact⟨_,rfl,by unfold Kt;rw[aa G]⟩
theorem Zfv {aA:List Itm} (hlen:aA.length<=15):∃o,JA [.vC Ak (aA.map Ah)]=some o/\Kt aA o:=by
 have D:Du aA=Hd aA aA.length 0 (-1):=by unfold Du;rw[ab]
 refine Zvn hlen ?_ λhe=>Zfm hlen (NQ he).2 aA.length 0 (by omega);rw[D];exact Qe1 R2 Z90 (by omega) aA.length 0 (-1) (by omega) (.inl rfl)
theorem Zjx {aA:List Itm} (h:∃o,M [.vC Ak (aA.map Ah)]=some o/\Kt aA o):
  Qjt M [.vC Ak (aA.map Ah)]=if Du aA=0 then some (Bv (AQ aA)++[I 0])else some [I 0,I 0,I 0, .vC Ag [], .vC AN [],I (Du aA)]:=by
 obtain⟨o,E,D⟩:=h;rw[Zxr,E];unfold Kt at D;by_cases c:Du aA=0
 ·rw[aa c]at D⊢;subst D;simp only[go_sem];rw[ab (by simp)];try rfl
 ·rw[ab c]at D⊢;subst D;simp only[go_sem];rw[aa c]
theorem Zvg {aA:List Itm} (hlen:aA.length<=15):On [.vC Ak (aA.map Ah)]=if Du aA=0 then some (Bv (AQ aA)++[I 0])else some [I 0,I 0,I 0, .vC Ag [], .vC AN [],I (Du aA)]:=
 Zjx (Zfv hlen)
def Lh (aA:List Itm):Nat->Option Nat
 |0=>none
 |i+1=>if(vE aA i).aP=10 then Lh aA i else some i
noncomputable def JX (aA:List Itm):Int:=
 match Lh aA aA.length with
 |some i=>if smI (vE aA i)/\(vE aA i).bJ≠0 then Av (AQ aA).aF-AK (Bu (vE aA i)) (AE (vE aA i).to)else Av (AQ aA).aF
 |none=>Av (AQ aA).aF
theorem Qa1 {aA:List Itm} {i:Nat}:∀{n:Nat},Lh aA n=some i->i<n/\(vE aA i).aP≠10/\∀j,i<j->j<n->(vE aA j).aP=10
 |0,h=>by cases h
 |n+1,h=>by
  unfold Lh at h;split at h
  ·rename_i c;obtain⟨G,D,E⟩:=Qa1 h;refine⟨by omega,D,λj g1 g2=> ?_⟩;by_cases e:j=n
   ·rw[e];exact c
   ·exact E j g1 (by omega)
  ·rename_i c;cases h
   exact⟨by omega,c,λj g1 g2=>by omega⟩
theorem Zu5 {aA:List Itm} (h:(vE aA i).aP=10):(Aq aA (i+1)).len=(Aq aA i).len/\Do aA (i+1)=Do aA i:=by
 have D: ¬AF (vE aA i):=λg=>by have:=g.2;omega
 constructor
 ·rw[Aq];unfold Dv;rw[ab D]
 ·rw[Do,ab D]
theorem Q39 {aA:List Itm} {i:Nat}:∀(k:Nat),(∀j,i<=j->j<i+k->(vE aA j).aP=10)->(Aq aA (i+k)).len=(Aq aA i).len/\Do aA (i+k)=Do aA i
 |0,_=>⟨rfl,rfl⟩
 |k+1,h=>by
  obtain⟨D,E⟩:=Q39 k λj g1 g2=>h j g1 (by omega);obtain⟨G,I⟩:=Zu5 (h (i+k) (by omega) (by omega));exact⟨G.trans D,I.trans E⟩
theorem Zn8 {aA:List Itm} (D:∀j<aA.length,¬B6 (vE aA j)):Av (AQ aA).aF=(Aq aA aA.length).len:=by
 have h:=IY D aA.length (cx _);unfold AQ;by_cases hb:(Aq aA aA.length).bK=true
 ·exact(h.bK hb).2.2.2
 ·obtain⟨g1,g2,-⟩:=h.empty (by simpa using hb);simp only[g1,g2];rfl
theorem Zq5 {it:Itm} (h:it.fr≠it.to):AE it.to≠Bu it:=by
 intro g;unfold AE Bu at g;injection g with g1 g2 D;exact h (D6.2 ⟨by omega,by omega,by omega⟩)
theorem Zpp (it:Itm) (h:smI it) (aU aZ aX:Int) (s:(List Sgm×Int×Pt)×Int):
  (EC it aU aZ aX (EC it aU aZ aX s (Bu it)) (AE it.to)).2=(EC it aU aZ aX (EC it aU aZ aX s (Bu it)) (AE it.to)).1.2.1-AK (Bu it) (AE it.to):=by
 have D:=Zq5 h.2;have G:(EC it aU aZ aX s (Bu it)).2=(Bc aU aZ aX s.1 (Bu it)).2.1:=aa ⟨h,rfl⟩;have E:(Bc aU aZ aX s.1 (Bu it)).2.2=Bu it:=by
  unfold Bc;split
  ·rename_i c;exact c.symm
  ·rfl
 have I:(EC it aU aZ aX s (Bu it)).1=Bc aU aZ aX s.1 (Bu it):=rfl;generalize EC it aU aZ aX s (Bu it)=t at*;have J:(EC it aU aZ aX t (AE it.to)).2=t.2:=ab λg=>D g.2;have L:(EC it aU aZ aX t (AE it.to)).1=Bc aU aZ aX t.1 (AE it.to):=rfl;rw[J,L,G,I];rw[<-E]at D⊢;rw[E];generalize Bc aU aZ aX s.1 (Bu it)=u at*;have M:Bc aU aZ aX u (AE it.to)=(u.1++[⟨AE it.to,AK u.2.2 (AE it.to),aU,aZ,aX⟩],u.2.1+AK u.2.2 (AE it.to),AE it.to):=ab D;rw[M,E];simp only;omega
theorem Z5b {aA:List Itm} (J:Lh aA aA.length=some i) (E:smI (vE aA i)):Do aA aA.length=(Aq aA aA.length).len-AK (Bu (vE aA i)) (AE (vE aA i).to):=by
 obtain⟨M,-,G⟩:=Qa1 J;obtain⟨k,L⟩:∃k,aA.length=i+1+k:=⟨aA.length-(i+1),by omega⟩;have I:AF (vE aA i):=⟨by have:=E.1;omega,by have:=E.1;omega⟩;obtain⟨g1,g2⟩:=Q39 (aA:=aA) (i:=i+1) k λj e1 e2=>G j (by omega) (by omega);have D: ¬0<=CA aA i:=by
  intro c;have N:=UD c;rcases Qau aA i with h|⟨-,-,m,m1,m2,m3,m4,m5⟩
  ·omega
  ·have:=G m m2 m3;have:=m4.1;omega
 rw[L,g1,g2];have e1:Do aA (i+1)=(F8 aA i (Aq aA i) (Do aA i)).2:=aa I;have e2:(Aq aA (i+1)).len=(F8 aA i (Aq aA i) (Do aA i)).1.2.1:=by
  rw[Zel,Aq];unfold Dv;rw[aa I]
 rw[e1,e2];unfold F8;have e3:C3 aA i (Aq aA i).frm=JN aA i (Aq aA i).frm++[Bu (vE aA i)]++[AE (vE aA i).to]:=by
  unfold C3;rw[aa E];unfold NB;rw[ab D];unfold CV;rw[ab (by have:=E.1;omega)];rfl
 rw[e3,ky,ky,fh,List.foldl_nil,fh,List.foldl_nil];exact Zpp _ E _ _ _ _
theorem Q7a {N T:Fn} {aA:List Itm} {aF aD:Rw} {E:Pt} {b:Bool} {len sp D:Int} (X:aA.length<=1000) (U:∀it,N (Ah it)=some [B (decide (smI it))]):
  ∀n:Nat,n<=aA.length->∃o:Nat×List AC,Am (Qe N T) [.vC Ag aF, .vC AN aD, .vC Ak (aA.map Ah),I ((n:Int)-1),I E.x,I E.y,I E.z,B b,I len,I sp,I D]=some o/\
   match Lh aA n with
   |some i=>o=(1,[I (if smI (vE aA i)/\(vE aA i).bJ≠0 then D else len)])
   |none=>o=(2,[.vC Ag aF, .vC AN aD,I E.x,I E.y,I E.z,B b,I len,I sp,I D])
 |0,_=>by
  refine⟨_,Bg (o:=(2,_)) ?_ (by simp),rfl⟩;rw[Zbg,Bi (by omega)]
 |n+1,hn=>by
  have O:n<aA.length:=by omega
  have Y:=F0 O;have V:=U (vE aA n);simp only[Ah]at V;have S:(0:Int)<=(n:Int)/\(n:Int)<(aA.length:Int):=by omega
  have e:((n+1:Nat):Int)-1=n:=by omega
  have G:Qe N T [.vC Ag aF, .vC AN aD, .vC Ak (aA.map Ah),I n,I E.x,I E.y,I E.z,B b,I len,I sp,I D]=
    if(vE aA n).aP=10 then some (0,[.vC Ag aF, .vC AN aD, .vC Ak (aA.map Ah),I ((n:Int)-1),I E.x,I E.y,I E.z,B b,I len,I sp,I D])
    else some (1,[I (if smI (vE aA n)/\(vE aA n).bJ≠0 then D else len)]):=by
   rw[Zbg];simp only[go_sem,ac,aj,Y,V,aa S];rw[aa,Ae];by_cases J:(vE aA n).aP=10
   ·rw[aa J,aa J]
   ·rw[ab J,ab J];by_cases L:smI (vE aA n)
    ·rw[aa L];by_cases M:(vE aA n).bJ≠0
     ·rw[aa M,aa ⟨L,M⟩]
     ·rw[ab M,ab (λg=>M g.2)]
    ·rw[ab L,ab (λg=>L g.1)]
  rw[e];unfold Lh;by_cases J:(vE aA n).aP=10
  ·rw[aa J]at G⊢;rw[BE G];exact Q7a X U n (by omega)
  ·rw[ab J]at G⊢;exact⟨_,Bg G (by simp),rfl⟩
theorem Zwi {aA:List Itm} (hl:aA.length<=15) (X:∀it,M (Ah it)=some [B (decide (smI it))]) (h:∃o,Z [.vC Ak (aA.map Ah)]=some o/\Kt aA o):
  Qml M Z (Am (Qe M Z)) [.vC Ak (aA.map Ah)]=some [I (if Du aA=0 then JX aA else 0)]:=by
 obtain⟨o,U,G⟩:=h;unfold Kt at G;by_cases c:Du aA=0
 ·rw[aa c]at G⊢;have D:=(NQ c).2;have J:=Zn8 D;have L:=λi O Y=>Z5b (aA:=aA) (i:=i) O Y;have T:= @Q7a M Z aA ((AQ aA).aF.map Ax) ((AQ aA).aD.map Aw) (AQ aA).aQ (Aq aA aA.length).bK (Aq aA aA.length).len (Aq aA aA.length).aS (Do aA aA.length) (by omega) X aA.length (by omega);obtain⟨r,r1,E⟩:=T;rw[Zb2,U];subst G;have hw:V ((aA.length:Int)-1)=(aA.length:Int)-1:=Ae;unfold JX;rw[J];generalize Am (Qe M Z)=N at*;simp only[go_sem,ac,hw,r1];rw[ab (by simp)];cases O:Lh aA aA.length with
  |none=>
   rw[O]at E;simp only at E;subst E;rfl
  |some i=>
   rw[O]at E;simp only at E;subst E;simp only[go_sem];by_cases S:smI (vE aA i)/\(vE aA i).bJ≠0
   ·rw[aa S,aa S,L i O S.1]
   ·rw[ab S,ab S]
 ·rw[ab c]at G⊢;subst G;rw[Zb2,U];simp only[go_sem];rw[aa c]
theorem Zq0 {aA:List Itm} (D:aA.length<=15):Ot [.vC Ak (aA.map Ah)]=some [I (if Du aA=0 then JX aA else 0)]:=Zwi D Vm (Zfv D)
def okU (s:Spk):Prop:=s.u.natAbs<=1000000/\s.w.natAbs<=1000000/\(0<=s.r/\s.r<=1000000)/\s.h.natAbs<=200000
theorem okU.s {s:Spk} (h:okU s):okS s:=⟨by have:=h.1;omega,by have:=h.2.1;omega,⟨h.2.2.1.1,by have:=h.2.2.1.2;omega⟩,by have:=h.2.2.2;omega⟩
theorem Zwz {a b:Spk} (D:okU a) (hb:okU b) {u w:Int} (E:u.natAbs<=100000000) (G:w.natAbs<=100000000):okU (Id a b u w):=by
 unfold Id;split
 ·exact⟨by simp,by simp,by simp,by simp⟩
 ·rename_i h;have I:=D.2.2;have J:=hb.2.2
  have L:0<=hf a.r b.r/\hf a.r b.r<=1000000:=by unfold hf;omega
  have M:(hf a.h b.h).natAbs<=200000:=by unfold hf;omega
  obtain⟨⟨-,N⟩,-,O⟩:=Zfu E G (r:=hf a.r b.r) (by omega) h;exact⟨by simp only;omega,by simp only;omega,L,M⟩
theorem Zgx {a b:Spk} (D:okU a) (hb:okU b) {dir:Int} (E:dir=1\/dir= -1) (bI:Bool):okU (Ft a b dir bI):=
 Zwz D hb (Pf D.s hb.s E bI).1 (Pf D.s hb.s E bI).2
theorem Yx {dir:Int} (E:dir=1\/dir= -1):∀(k:Nat) (bI:Bool) {a b:Spk},okU a->okU b->∀s∈Ev dir k bI a b,okU s
 |0,_,a,b,_,hb,s,D=>by simp[Ev]at D;subst D;exact hb
 |k+1,bI,a,b,G,hb,s,D=>by
  unfold Ev at D;have I:=Zgx G hb E bI;split at D
  ·simp at D;subst D;exact hb
  ·rcases ba.1 D with D|D
   ·exact Yx E k false G I s D
   ·exact Yx E k false I hb s D
theorem Z67 {n:Nat} (I:n<=300000000000):0<=Gm n/\Gm n<=1000000:=by
 obtain⟨r,-,D,E,-⟩:=VT (n:=n) (by omega);have G:=Ux D E;rw[T1 G];have:r<1000000:=by
  by_cases c:r<1000000
  ·exact c
  ·have:=fv (show 1000000<=r by omega) (show 1000000<=r by omega);omega
 split<;>omega
theorem Qly {pl:Int} (h:bd i q):(plU pl q).natAbs<=i/\(plW pl q).natAbs<=i/\(plH pl q).natAbs<=i:=Iz h
theorem Qrl {it:Itm} (D:bd 4200 it.ce) (E:bd 4200 q):okU (Fg it q):=by
 obtain⟨M,N,O⟩:=Qly (pl:=it.aG) D;obtain⟨S,T,U⟩:=Qly (pl:=it.aG) E;have G:(dU it q*16).natAbs<=134400:=by unfold dU;omega
 have I:(dW it q*16).natAbs<=134400:=by unfold dW;omega
 have V:=Eg G;have X:=Eg I;obtain⟨-,-,L,-⟩:=Rz (Bf D (by omega)) (Bf E (by omega));obtain⟨n,J⟩:=cg L;refine⟨cq G (by decide),cq I (by decide),?_,?_⟩
 ·show 0<=Gm _/\Gm _<=_;rw[J];refine Z67 ?_;unfold sq2 at J;omega
 ·show(plH it.aG q*16).natAbs<=_;omega
theorem Z7w {it:Itm} {s:Spk} (D:bd 4200 it.ce) (E:okU s):bd B24 (J5 it s):=by
 obtain⟨G,I,-⟩:=Qly (pl:=it.aG) (FW D);obtain⟨s1,s2,-,J⟩:=E;exact Zag (by unfold B24;omega) (by unfold B24;omega) (by unfold B24;omega)
theorem Zy8 {it:Itm} (h:Made it) (hf:bd 4084 it.fr):∀p∈CV it,bd B24 p:=by
 have I:=Qwo h hf;intro p E;unfold CV at E;split at E
 ·rename_i J;simp only[bc]at E;obtain⟨s,G,rfl⟩:=E;have D:bd 4200 it.ce:=Bf (Ql2 (h.arc J) (by omega) hf).2 (by omega);refine Z7w D ?_;rcases ao.1 G with rfl|G
  ·exact Qrl D (Bf hf (by omega))
  ·exact Yx (h.arc J).dir 16 _ (Qrl D (Bf hf (by omega))) (Qrl D (Bf I (by omega))) s G
 ·simp at E;rcases E with rfl|rfl
  ·exact Bf (FW hf) (by decide)
  ·exact Bf (FW I) (by decide)
def V6 (n:Nat) (g:Sgm):Prop:=bd B24 g.to/\0<=g.aU/\g.aU<n/\i64 g.aX
theorem Q9r {n:Nat} {aU aZ aX:Int} (G:0<=aU/\aU<n) (J:i64 aX):∀(D:List Pt) (s:List Sgm×Int×Pt),(∀p∈D,bd B24 p)->(∀g∈s.1,V6 n g)->∀g∈(D.foldl (Bc aU aZ aX) s).1,V6 n g
 |[],s,_,h=>h
 |q::D,s,L,h=>by
  rw[fh];refine Q9r G J D _ (λp I=>L p (by simp[I])) ?_;unfold Bc;split
  ·exact h
  ·intro g E;simp only[ba,fa]at E;rcases E with E|rfl
   ·exact h g E
   ·exact⟨L q (by simp),G.1,G.2,J⟩
structure PIn (n : Nat) (s : BSt) : Prop where
 aQ:bd B24 s.aQ
 aF:∀g∈s.aF,V6 n g
 aD:∀m∈s.aD,0<=m.aU/\m.aU<n/\i64 m.at_
theorem Zz4 {aA:List Itm} (G:drawn (vE aA i)) (hf:Ne aA i a) (E:∀k<aA.length,AF (vE aA k)->drawn (vE aA k)) (I:∀p∈CV (vE aA i),bd B24 p):∀p∈C3 aA i a,bd B24 p:=by
 unfold C3;by_cases M:smI (vE aA i)
 ·rw[aa M];intro p D;rcases ba.1 D with D|D
  ·rcases ba.1 D with D|D
   ·unfold JN at D;rcases hf with rfl|⟨f,rfl,N,J⟩
    ·rw[ab]at D;exact I p (dx D)
    ·rw[aa]at D;exact(Ma (aA:=aA) (i:=(f:Int).toNat) (k:=i) (by simpa using J) G).1 p (dp D)
   ·simp at D;subst D;exact L5 G.1.2.1 G.1.2.2.1
  ·unfold NB at D;by_cases h:0<=CA aA i
   ·rw[aa h]at D;obtain⟨k,O,S,L⟩:=V8 E h;exact(Ma (aA:=aA) (i:=i) (k:=(CA aA i).toNat) G (by rw[O];simpa using L)).1 p (dx D)
   ·rw[ab h]at D;exact I p (dp D)
 ·rw[ab M];exact I
theorem Z89 {it:Itm} (hf:it.aP=1\/1<=it.aZ/\it.aZ<=60000000):i64 (Jl it):=by
 unfold Jl;split
 ·rename_i h;unfold syI at h;unfold mn i64;split<;>omega
 ·unfold i64;omega
theorem Zs0 {aA:List Itm} {s:BSt} (M:i<aA.length) (T:aA.length<=15) (D:∀j<aA.length,¬B6 (vE aA j)) (N:∀j<aA.length,AF (vE aA j)->∀p∈CV (vE aA j),bd B24 p) (J:BOK aA i s) (h:PIn aA.length s):PIn aA.length (Dv aA i s):=by
 have I:∀k<aA.length,AF (vE aA k)->drawn (vE aA k):=λk S E=>(Mg (D k S) E).1;have L:=Zd2 M D J;have hlen:=J.len;have G:=L.len;unfold Dv at G⊢;by_cases E:AF (vE aA i)
 ·rw[aa E]at G⊢;have O:=I i M E;refine⟨?_,Q9r ⟨by omega,by omega⟩ (Z89 (Mg (D i M) E).2) _ _ (Zz4 O J.frm I (N i M E)) h.aF,?_⟩
  ·show bd B24 (if s.bK=true then s.aQ else AE (vE aA i).fr);split
   ·exact h.aQ
   ·exact FW O.1.2.1
  ·intro m E;simp only[ba,fa]at E;rcases E with E|rfl
   ·exact h.aD m E
   ·refine⟨by simp only;omega,by simp only;omega,?_⟩;simp only at G⊢;unfold i64;omega
 ·rw[ab E];refine⟨h.aQ,h.aF,?_⟩;intro m E;simp only[ba,fa]at E;rcases E with E|rfl
  ·exact h.aD m E
  ·refine⟨by simp only;omega,by simp only;omega,?_⟩;simp only;unfold i64;omega
theorem Q4d {aA:List Itm} (G:aA.length<=15) (D:∀j<aA.length,¬B6 (vE aA j)) (E:∀j<aA.length,AF (vE aA j)->∀p∈CV (vE aA j),bd B24 p):∀i,i<=aA.length->PIn aA.length (Aq aA i)
 |0,_=>by rw[Aq];exact⟨by unfold bd;simp,λg h=>(by cases h),λg h=>(by cases h)⟩
 |i+1,I=>by rw[Aq];exact Zs0 (by omega) G D E (O7 D i (by omega)) (Q4d G D E i (by omega))
theorem Zv3 {aA:List Itm} (I:aA.length<=15) (J:Du aA=0) (E:∀j<aA.length,AF (vE aA j)->∀p∈CV (vE aA j),bd B24 p):bd B24 (AQ aA).aQ/\(∀g∈(AQ aA).aF,V6 aA.length g)/\(∀m∈(AQ aA).aD,0<=m.aU/\m.aU<aA.length/\i64 m.at_)/\(AQ aA).aD.length=aA.length:=by
 have D:=(NQ J).2;have G:=Q4d I D E aA.length (cx _);exact⟨G.aQ,G.aF,G.aD,(O7 D aA.length (cx _)).aD⟩
theorem Zrf {aA:List Itm} (M:aA.length<=15) (J:Du aA=0):i64 (JX aA):=by
 have G:=WJ M J;have S:=Qrp (Vv G.aQ G.aF);have E:=G.count;have D:=(NQ J).2;have L:i64 (Av (AQ aA).aF):=by unfold i64;omega
 unfold JX;split
 ·rename_i i e;split
  ·rename_i c;obtain⟨N,-,-⟩:=Qa1 e;have O:AF (vE aA i):=⟨by have:=c.1.1;omega,by have:=c.1.1;omega⟩;obtain⟨I,-⟩:=Mg (D i N) O;have:=I5 (Bf (L5 I.1.2.1 I.1.2.2.1) (by decide)) (Bf (FW I.1.2.2.1) (by decide));unfold i64;omega
  ·exact L
 ·exact L
theorem UR (n D E:Int):HA [I n,I D,I E]=some [B (decide (D<=n/\n<=E))]:=by
 show Qdc [I n,I D,I E]=_;rw[Zh4];by_cases G:D<=n<;>by_cases J:n<=E<;>simp[G,J]
theorem Zk5 (J:∀n L D:Int,M [I n,I L,I D]=some [B (decide (L<=n/\n<=D))]) {a:Axs} (h:AxOK a) (E:a.aW≠[]):
  ∃o,Am (Qbk M) (.vC Aa (a.aW.map Ai)::I a.aW.length::I 0::BC a)=some o/\o.1=2:=by
 have U:=h.aO E;refine(?_:Out (λo:Nat×List AC=>o.1=2) _);refine BZ (λi:Nat=> .vC Aa (a.aW.map Ai)::I a.aW.length::I (i:Int)::BC a) (λi=>i<=a.aW.length) (λi=>a.aW.length-i) _ ?_ 0 (by simp);intro i D;have hc:=h.count;rw[Zqv];dsimp only[jA,gA,bA,wA];have N:∀j:Nat,j<a.aW.length->Af (nth .vD (nth [] (a.aW.map Ai) j) 0)=a.aW.getD j 0:=λj O=>by
  have e:nth [] (a.aW.map Ai) j=Ai a.aW[j]:=by
   rw[HH [] (a.aW.map Ai) j (by rw[ac];exact O),gj]
  rw[e,List.getD,ag O];rfl
 refine .cond (λk=> ?_) λ_=> .some (.inr ⟨by simp,rfl⟩);have k:(i:Int)<(a.aW.length:Int):=A0 k;have S:((a.aW.map Ai).length:Int)=a.aW.length:=by rw[ac]
 refine .cond (λ_=> ?_) λe=>(inB (by omega) (by rw[S];exact k) e).elim;have V: -4096<=a.aW.getD i 0/\a.aW.getD i 0<=4096:=by
  refine h.aW.1 _ ?_;rw[List.getD,ag (by omega)];exact bf _
 rw[aj,N i (by omega),J];simp only[ah,gA,wA,bA,jA,Dl,CU];rw[al V];refine .cond (λe=>by cases e) λ_=> ?_;have T:∀{x:List AC},x= .vC Aa (a.aW.map Ai)::I a.aW.length::I ((i:Int)+1)::BC a->Out (λo:Nat×List AC=>(o.1=0/\∃G:Nat,o.2= .vC Aa (a.aW.map Ai)::I a.aW.length::I (G:Int)::BC a/\G<=a.aW.length/\a.aW.length-G<a.aW.length-i)\/(o.1≠0/\o.1=2)) (some (0,x)):=λe=>
  .some (.inl ⟨rfl,i+1,by rw[e];rfl,by omega,by omega⟩)
 rw[Ae (x:=(i:Int)+1)];refine .cond (λg=> ?_) λ_=>T rfl;have g:(i:Int)>0:=A0 g;rw[Ae (x:=(i:Int)-1)];refine .cond (λ_=> ?_) λe=>(inB (by omega) (by rw[S];omega) e).elim;obtain⟨j,rfl⟩:∃j:Nat,i=j+1:=⟨i-1,by omega⟩;have hd:=h.aW.2 j (by omega);have X: -4096<=a.aW.getD j 0/\a.aW.getD j 0<=4096:=by
  refine h.aW.1 _ ?_;rw[List.getD,ag (by omega)];exact bf _
 have Y:(((j+1:Nat):Int)-1).toNat=j:=by omega
 rw[Y,N j (by omega),J];simp only[ah,gA,wA,bA,jA,Dl,CU];have q1:a.aO.tdiv 4=a.aO/4:=ap (by omega);rw[q1,Ae (x:=a.aO/4),Ae (x:=0-a.aO/4),Ae (x:=a.aW.getD (j+1) 0-a.aW.getD j 0)];refine .cond (λe=> ?_) λ_=>T rfl;rw[al (show 0-a.aO/4<=a.aW.getD (j+1) 0-a.aW.getD j 0/\a.aW.getD (j+1) 0-a.aW.getD j 0<=a.aO/4 by omega)]at e;cases e
theorem Ycs (E:∀n G J:Int,M [I n,I G,I J]=some [B (decide (G<=n/\n<=J))]) {a:Axs} (h:AxOK a)
  (O:a.aW≠[]->∃o,N (.vC Aa (a.aW.map Ai)::I a.aW.length::I 0::BC a)=some o/\o.1=2):Qa3 M N (BC a)=some [B true]:=by
 have L:=h.aO;have U:=h.aV;have V:=h.count
 rw[Znt];by_cases e:a.aW=[]
 ·rw[e];rfl
 ·have X:0<a.aW.length:=List.length_pos_iff.2 e;obtain⟨o,S,T⟩:=O e;have L:=L e;have D:N [.vC Aa (a.aW.map Ai),I (a.aW.map Ai).length,I 0,I a.step,I a.aS,I a.bF,I a.bG,I a.low,I a.aY,I a.bB,I a.aV,I a.aO, .vC Aa (a.aW.map Ai)]=some o:=by rw[ac];exact S
  rw[BG (by rw[ac];simp;omega),BG (by rw[ac];simp;omega),E,E,D];simp only[ah,gA,wA,bA,jA,Dl,CU];rw[al (show-16777216<=a.aV/\a.aV<=16777216 by omega),al (show 4<=a.aO/\a.aO<=16777216 by omega),T];rfl
theorem Zwf {a:Axs} (h:AxOK a):Q5 (BC a)=some [B true]:=Ycs UR h λD=>Zk5 UR h D
theorem Zoe (G:∀n D E:Int,Z [I n,I D,I E]=some [B (decide (D<=n/\n<=E))]) {a:Axs} (h:AxOK a) (J:M (BC a)=some [B true]):Qga M Z (BC a)=some [B true]:=by
 have L:=h.step;have hb:=h.bB;obtain⟨N,O,S,T,U,V,X,Y⟩:=h.lim
 rw[Yak];simp only[G,ah,Dl,CU];rw[al (show 4<=a.step/\a.step<=4096 by omega),al (show 1<=a.aS/\a.aS<=1048576 by omega),al (show 2<=a.bF/\a.bF<=1048576 by omega),al (show 4<=a.bG/\a.bG<=1048576 by omega),al (show a.low>= -16777216 by omega),al (show a.aY<=16777216 by omega),al (show a.low<=a.aY by omega),al (show 0<=a.bB/\a.bB<=64 by omega)];simp only[ai];rw[J];rfl
theorem Zjd {a:Axs} (h:AxOK a):Rn (BC a)=some [B true]:=Zoe UR h (Zwf h)
theorem Zqw (G:∀n D E:Int,M [I n,I D,I E]=some [B (decide (D<=n/\n<=E))]) {a:Axs} (h:AxOK a) {q:Int} (J:q.natAbs<=B24):Qll M (BC a++[I q])=some [B true]:=by
 obtain⟨-,-,-,-,-,-,L,N⟩:=h.lim;refine co (Zlh M ..) ?_;rw[G,al (show a.low<=q/\q<=a.aY by unfold B24 at J;omega)];rfl
theorem Znn {a:Axs} (h:AxOK a) {q:Int} (D:q.natAbs<=B24):Iq (BC a++[I q])=some [B true]:=Zqw UR h D
theorem Zlk {x:Ax3} (L:bd B24 p.aQ) (N:∀g∈p.aF,bd B24 g.to) (V:p.aF.length<=1000000):
  Out (λo:Nat×List AC=>o.1=1/\∃D:List Pt,o.2= .vC kPt (D.map ptR)::AL x/\(∀q∈D,bd B24 q)/\D.length<=1000001) (Am (Q3 M) (.vC kPt [ptR p.aQ]:: .vC Ag (p.aF.map Ax)::I (p.aF.map Ax).length::I 0::AL x)):=by
 refine BZ (λs:Nat×List Pt=> .vC kPt (s.2.map ptR):: .vC Ag (p.aF.map Ax)::I (p.aF.map Ax).length::I (s.1:Int)::AL x) (λs=>s.1<=p.aF.length/\(∀q∈s.2,bd B24 q)/\s.2.length=s.1+1) (λs=>p.aF.length-s.1) _ ?_ (0,[p.aQ]) ⟨by simp,by simpa using L,rfl⟩;rintro⟨i,D⟩ ⟨O,J,S⟩;dsimp only at O J S;refine Out.eqv (Zw5 M ..) ?_;have G:((p.aF.map Ax).length:Int)=p.aF.length:=by rw[ac]
 refine .cond (λk=> ?_) λ_=> .some (.inr ⟨by simp,rfl,D,rfl,J,by omega⟩);have k:(i:Int)<((p.aF.map Ax).length:Int):=A0 k;rw[G]at k;refine .cond (λ_=> ?_) λe=>(inB (by omega) (by rw[G];exact k) e).elim;have T:nth [] (p.aF.map Ax) (i:Int).toNat=Ax p.aF[i]:=by
  rw[aj,HH [] _ i (by rw[ac];omega),gj]
 rw[T];have U:=N _ (bf (show i<p.aF.length by omega));refine .cond (λ_=> ?_) λe=>by rw[BM (by simp;omega)]at e;cases e
 refine .some (.inl ⟨rfl,(i+1,D++[p.aF[i].to]),?_,⟨by dsimp only;omega,?_,by simp;omega⟩,by dsimp only;omega⟩)
 ·rw[Ae (x:=(i:Int)+1),bn];rfl
 ·intro q E;dsimp only at E;simp only[ba,fa]at E;rcases E with E|rfl
  ·exact J q E
  ·exact U
theorem Zue (G:∀{a:Axs} {q:Int},AxOK a->q.natAbs<=B24->M (BC a++[I q])=some [B true]) {x:Ax3} (J:Ax3M x) {D:List Pt} (L:∀q∈D,bd B24 q) (V:D.length<=1000001):
  Out (λo:Nat×List AC=>o.1=2) (Am (VE M N) (.vC kPt (D.map ptR)::I (D.map ptR).length::I 0::AL x)):=by
 refine BZ (λi:Nat=> .vC kPt (D.map ptR)::I (D.map ptR).length::I (i:Int)::AL x) (λi=>i<=D.length) (λi=>D.length-i) _ ?_ 0 (by simp);intro i X;refine Out.eqv (Zz9 M N ..) ?_;have E:((D.map ptR).length:Int)=D.length:=by rw[ac]
 refine .cond (λk=> ?_) λ_=> .some (.inr ⟨by simp,rfl⟩);have k:(i:Int)<((D.map ptR).length:Int):=A0 k;rw[E]at k;refine .cond (λ_=> ?_) λe=>(inB (by omega) (by rw[E];exact k) e).elim;have O:nth [] (D.map ptR) (i:Int).toNat=ptR D[i]:=by
  rw[aj,HH [] _ i (by rw[ac];omega),gj]
 rw[O];obtain⟨S,T,U⟩:=L _ (bf (show i<D.length by omega));refine .bind (p:=λo=>o=[B true]) ⟨_,G J.a S,rfl⟩ λo e=> ?_;subst e;refine .cond (λe=>by cases e) λ_=> ?_;refine .bind (p:=λo=>o=[B true]) ⟨_,G J.b T,rfl⟩ λo e=> ?_;subst e;refine .cond (λe=>by cases e) λ_=> ?_;refine .bind (p:=λo=>o=[B true]) ⟨_,G J.c U,rfl⟩ λo e=> ?_;subst e;refine .cond (λe=>by cases e) λ_=> ?_;exact .some (.inl ⟨rfl,i+1,by rw[Ae (x:=(i:Int)+1)];rfl,by omega,by omega⟩)
theorem Ztw {N3 N8:Lp} {x:Ax3}
  (J:Out (λo:Nat×List AC=>o.1=1/\∃D:List Pt,o.2= .vC kPt (D.map ptR)::AL x/\(∀q∈D,bd B24 q)/\D.length<=1000001) (N3 (.vC kPt [ptR p.aQ]:: .vC Ag (p.aF.map Ax)::I (p.aF.map Ax).length::I 0::AL x)))
  (L:∀{D:List Pt},(∀q∈D,bd B24 q)->D.length<=1000001->Out (λo:Nat×List AC=>o.1=2) (N8 (.vC kPt (D.map ptR)::I (D.map ptR).length::I 0::AL x))):
  Out (λo=>o=[B true]) (Qax M N3 N8 (AL x++Bv p)):=by
 refine Out.eqv (Zwa M N3 N8 ..) ?_;refine .bind J λo q=> ?_;obtain⟨o1,o2⟩:=o;obtain⟨E,D,G,N,O⟩:=q;dsimp only at E G;subst E G;refine .cond (λ_=> ?_) λe=>by cases e
 refine .bind (L N O) λo q=> ?_;rw[q];exact .some rfl
theorem Zhq {x:Ax3} (D:Ax3M x) (E:bd B24 p.aQ) (G:∀g∈p.aF,bd B24 g.to) (I:p.aF.length<=1000000):QF (AL x++Bv p)=some [B true]:=by
 obtain⟨o,h,rfl⟩:=Ztw (M:=Iq) (N3:=Am (Q3 Iq)) (N8:=Am (VE Iq (Am (Q3 Iq)))) (Zlk (x:=x) E G I) (λJ L=>Zue (λN O=>Znn N O) D J L);exact h
theorem Z9t:∃v:Int,FP [I 30000]=some [I v]/\60000<=v:=by
 have key:∀{M:Fn} {v:Int},M [I 30000,I 1048576,I 60000,I 2]=some [I v,B true]->Uy M [I 30000]=some [I v]:=λh=>by
  rw[Q5m,h];rfl
 refine⟨_,key (Uv (by unfold i64;omega) (by unfold i64;omega) (by omega) (by decide)),?_⟩;unfold BF;omega
theorem Zqd {x:Ax3} (D:Ax3M x) {pa pb pc bH lag:Int} (S:Plan3 pa pb pc) (G:1<=bH/\bH<=60000) (J:0<=lag/\lag<=40)
  (E:∀{a:Axs},AxOK a->W (BC a)=some [B true]) (L:Z [I pa,I pb,I pc]=some [B true]) (N:∃v:Int,M [I 30000]=some [I v]/\60000<=v):Out (λo=>o=[B true]) (Xm M Z W (AL x++[I pa,I pb,I pc,I bH,I lag])):=by
 refine Out.eqv (Z2a M Z W ..) ?_;refine .bind (p:=λo=>o=[B true]) ⟨_,E D.a,rfl⟩ λo e=> ?_;subst e;refine .cond (λe=>by cases e) λ_=> .bind (p:=λo=>o=[B true]) ⟨_,E D.b,rfl⟩ λo e=> ?_;subst e;refine .cond (λe=>by cases e) λ_=> .bind (p:=λo=>o=[B true]) ⟨_,E D.c,rfl⟩ λo e=> ?_;subst e;refine .cond (λe=>by cases e) λ_=> .bind (p:=λo=>o=[B true]) ⟨_,L,rfl⟩ λo e=> ?_;subst e;obtain⟨v,O,T⟩:=N;refine .cond (λ_=> .cond (λ_=> ?_) λe=>absurd G.1 (AU e)) λe=>by cases e
 refine .bind (p:=λo=>o=[I v]) ⟨_,O,rfl⟩ λo e=> ?_;subst e;refine .cond (λ_=> .cond (λ_=> ?_) λe=>absurd J.1 (AU e)) λe=>absurd (show bH<=v by omega) (AU e);exact .some (by rw[al (show lag<=1048576 by omega)])
theorem Z1r {x:Ax3} (E:Ax3M x) {pa pb pc bH lag:Int} (D:Plan3 pa pb pc) (G:1<=bH/\bH<=60000) (J:0<=lag/\lag<=40):R6 (AL x++[I pa,I pb,I pc,I bH,I lag])=some [B true]:=by
 have L:FO [I pa,I pb,I pc]=some [B true]:=by rw[Rp,al (show 1<=pa/\pa<=65536/\2<=pb/\pb<=65536/\1<=pc/\pc<=16777216 from⟨D.a.1,D.a.2,D.b.1,D.b.2,D.c.1,D.c.2⟩)]
 obtain⟨o,h,rfl⟩:=Zqd E D G J Zjd L Z9t;exact h
theorem Z4e {x:Ax3} (M:Ax3M x) (D E G J L:Int):QY (AL x++[I D,I E,I G,I J,I L])=some (AL x++[I D,I E,I G,I J,I L]):=by
 have N:=M.a.count;have hb:=M.b.count;have O:=M.c.count
 have key:Qc3 (AL x++[I D,I E,I G,I J,I L])=some (AL x++[I D,I E,I G,I J,I L]):=by
  refine co (Zgu ..) ?_;rw[BM (by rw[ac];omega),BM (by rw[ac];omega),BM (by rw[ac];omega)];rfl
 exact key
abbrev Q2m (K:Kf):Kf:=⟨K.x,K.pa,K.pb,K.pc,K.bH,K.lag,[],false,⟨⟨0,0,0⟩,[],[]⟩,0,0,⟨[],0,0,⟨0,0,0⟩⟩⟩
abbrev Y9 (K:Kf):Kf:=⟨K.x,K.pa,K.pb,K.pc,K.bH,K.lag,K.aA,K.closed,K.p,K.len,K.set,⟨[],0,0,⟨0,0,0⟩⟩⟩
abbrev B4:Cv:=⟨0,0,0,0,0,0,100,100,false,false,false,0,0,-1,1,0,0,0,0,0,0,0,0,false,0,false,0,false,0,-1,0,0,0,0,0,0,0,false,false,false⟩
noncomputable abbrev kfP (x:Ax3) (pa pb pc bH lag:Int) (aA:List Itm) (closed:Bool):Kf:=⟨x,pa,pb,pc,bH,lag,aA,closed,AQ aA,Av (AQ aA).aF,JX aA,AR (AQ aA) x ⟨1,1,1⟩ 0 (Av (AQ aA).aF)⟩
theorem Zwg (U:K.aA.length<=15) (i0:List Itm) (E:Bool) (G:Pth) (J s0:Int) (D:Trk) (c:Cv)
  (L:T [.vC Ak (K.aA.map Ah)]=some (Bv K.p++[I 0])) (N:W (AL K.x++Bv K.p)=some [B true]) (O:Z (Bv K.p)=some [I K.len]) (S:M [.vC Ak (K.aA.map Ah)]=some [I K.set]):
  Rf M Z W T (.vC Ak (K.aA.map Ah)::B K.closed::Ab ⟨K.x,K.pa,K.pb,K.pc,K.bH,K.lag,i0,E,G,J,s0,D⟩ c)=some (I 0::Ab ⟨K.x,K.pa,K.pb,K.pc,K.bH,K.lag,K.aA,K.closed,K.p,K.len,K.set,D⟩ c):=by
 have key:Out (λo=>o=I 0::Ab ⟨K.x,K.pa,K.pb,K.pc,K.bH,K.lag,K.aA,K.closed,K.p,K.len,K.set,D⟩ c) (Rf M Z W T (.vC Ak (K.aA.map Ah)::B K.closed::Ab ⟨K.x,K.pa,K.pb,K.pc,K.bH,K.lag,i0,E,G,J,s0,D⟩ c)):=by
  refine Out.eqv (Zkd M Z W T _ _ ⟨K.x,K.pa,K.pb,K.pc,K.bH,K.lag,i0,E,G,J,s0,D⟩ c) ?_;refine .bind (p:=λo=>o=_) ⟨_,L,rfl⟩ λo e=> ?_;subst e;refine .cond (λe=>by cases e) λ_=> ?_;refine .bind (p:=λo=>o=_) ⟨_,N,rfl⟩ λo e=> ?_;subst e;refine .cond (λe=>by cases e) λ_=> .cond (λ_=> ?_) λe=>by rw[BM (by rw[ac];omega)]at e;cases e
  refine .bind (p:=λo=>o=_) ⟨_,O,rfl⟩ λo e=> ?_;subst e;refine .bind (p:=λo=>o=_) ⟨_,S,rfl⟩ λo e=> ?_;subst e;exact .some rfl
 obtain⟨o,h,rfl⟩:=key;exact h
theorem Zgi (D:K.aA.length<=15) (c:Cv)
  (E:T [.vC Ak (K.aA.map Ah)]=some (Bv K.p++[I 0])) (G:W (AL K.x++Bv K.p)=some [B true]) (J:Z (Bv K.p)=some [I K.len]) (L:M [.vC Ak (K.aA.map Ah)]=some [I K.set]):
  Rf M Z W T (.vC Ak (K.aA.map Ah)::B K.closed::Ab (Q2m K) c)=some (I 0::Ab (Y9 K) c):=
 Zwg D [] false ⟨⟨0,0,0⟩,[],[]⟩ 0 0 ⟨[],0,0,⟨0,0,0⟩⟩ c E G J L
theorem Zv4
  (D:O (AL K.x++[I K.pa,I K.pb,I K.pc,I K.bH,I K.lag])=some [B true]) (E:P (AL K.x++[I K.pa,I K.pb,I K.pc,I K.bH,I K.lag])=some (AL K.x++[I K.pa,I K.pb,I K.pc,I K.bH,I K.lag]))
  (G:S []=some [I 100,I 100,B false,B false,B false]) (J:T []=some [I 0,I 0,I (-1)])
  (L:W (.vC Ak (K.aA.map Ah)::B K.closed::Ab (Q2m K) B4)=some (I 0::Ab (Y9 K) B4))
  (N:Z (Bv K.p++AL K.x++[I 1,I 1,I 1,I 0,I K.len])=some (A4 K.t)) (U:M [I 0]=some [I 0,I 0,I 0,I 0,I 0,I 0]):
  TW M Z W T S P O (AL K.x++[I K.pa,I K.pb,I K.pc,I K.bH,I K.lag]++[.vC Ak (K.aA.map Ah),B K.closed])=some (I 0::Ab K B4):=by
 have key:Out (λo=>o=I 0::Ab K B4) (TW M Z W T S P O (AL K.x++[I K.pa,I K.pb,I K.pc,I K.bH,I K.lag]++[.vC Ak (K.aA.map Ah),B K.closed])):=by
  refine Out.eqv (Zhd M Z W T S P O ..) ?_;refine .bind (p:=λo=>o=_) ⟨_,D,rfl⟩ λo e=> ?_;subst e;refine .cond (λe=>by cases e) λ_=> ?_;refine .bind (p:=λo=>o=_) ⟨_,E,rfl⟩ λo e=> ?_;subst e;refine .bind (p:=λo=>o=_) ⟨_,G,rfl⟩ λo e=> ?_;subst e;refine .bind (p:=λo=>o=_) ⟨_,J,rfl⟩ λo e=> ?_;subst e;refine .bind (p:=λo=>o=I 0::Ab (Y9 K) B4) ⟨_,L,rfl⟩ λo e=> ?_;subst e;refine .cond (λe=>by cases e) λ_=> ?_;refine .bind (p:=λo=>o=_) ⟨_,N,rfl⟩ λo e=> ?_;subst e;refine .bind (p:=λo=>o=_) ⟨_,U,rfl⟩ λo e=> ?_;subst e;exact .some (by kernel_rfl)
 obtain⟨o,h,rfl⟩:=key;exact h
structure MachOK (x : Ax3) (pa pb pc bH lag : Int) : Prop where
 x:Ax3M x
 plan:Plan3 pa pb pc
 bH:1<=bH/\bH<=60000
 lag:0<=lag/\lag<=40
theorem Z78 {x:Ax3} (D:MachOK x a k b u v) {aA:List Itm} (J:aA.length<=15) (L:Du aA=0) (N:∀j<aA.length,AF (vE aA j)->∀p∈CV (vE aA j),bd B24 p) (O:∀it∈aA,it.aP=8->i64 it.aS) (closed:Bool):
  Hb (AL x++[I a,I k,I b,I u,I v]++[.vC Ak (aA.map Ah),B closed])=some (I 0::Ab (kfP x a k b u v aA closed) B4)/\KOK (kfP x a k b u v aA closed):=by
 have E:=WJ J L;obtain⟨i1,T,U,i4⟩:=Zv3 J L N;have hs:=Qrp (Vv E.aQ E.aF);have M:=E.count;refine⟨?_,?_⟩
 ·have V:On [.vC Ak (aA.map Ah)]=some (Bv (AQ aA)++[I 0]):=by rw[Zvg J,aa L]
  have X:Ot [.vC Ak (aA.map Ah)]=some [I (JX aA)]:=by rw[Zq0 J,aa L]
  have Y:=Zhq D.x i1 (λg h=>(T g h).1) (by omega);have hT:=Zbk (d:=⟨1,1,1⟩) (from_:=0) (to:=Av (AQ aA).aF) E D.x.ok;have G:=Zgi (K:=kfP x a k b u v aA closed) J B4 V Y (Zay E.ok) X;have hO:QU []=some [I 100,I 100,B false,B false,B false]:=by show Qhq []=_;rw[Z51]
  have hG:KD []=some [I 0,I 0,I (-1)]:=by show Qs []=_;rw[X1]
  have S:HK [I 0]=some [I 0,I 0,I 0,I 0,I 0,I 0]:=Qd1 0;exact Zv4 (K:=kfP x a k b u v aA closed) (Z1r D.x D.plan D.bH D.lag) (Z4e D.x ..) hO hG G hT S
 ·refine⟨⟨E,D.x,Q0c _ _ _ D.x.ok E⟩,D.plan,λg h=>(T g h).2,U,?_,?_,?_,Zrf J L⟩
  ·show(AQ aA).aD.length<=1000000;omega
  ·exact O
  ·show i64 (Av (AQ aA).aF);unfold i64;omega
theorem Qrj {x:Ax3} (D:MachOK x a k b u v) {aA:List Itm} (J:aA.length<=15) {L:Pt} (E:Items 4084 L aA) (closed:Bool):
  Hb (AL x++[I a,I k,I b,I u,I v]++[.vC Ak (aA.map Ah),B closed])=some (I 0::Ab (kfP x a k b u v aA closed) B4)/\KOK (kfP x a k b u v aA closed):=
 Z78 D J (Q8f (by omega) E (show aA.length <= 20000 by omega)) (λj M D => by
  rcases E.made _ (Zfh M)with⟨-,g2,-,N,-⟩|g
  ·exact Zy8 g2 N
  ·exact absurd D (Oz g)) (λit G O=>by
  rcases E.made it G with⟨-,-,g,-⟩|g
  ·rw[g.2.2.2.1];unfold i64;omega
  ·have:=g.spin O;unfold i64;omega) closed
end Go.Bm
namespace Go.Bm
structure Evn where
 (cycle aP n:Int)
abbrev evR (e:Evn):List AC:=[I e.cycle,I e.aP,I e.n]
structure EvOK (e : Evn) : Prop where
 aP:1<=e.aP/\e.aP<=13
 n: -5<=e.n/\e.n<=4194304
theorem Qho (E:List Evn) {i:Nat} (h:i<E.length):nth [] (E.map evR) (i:Int).toNat=evR E[i]:=by
 rw[aj,HH [] _ i (by rw[ac];exact h),gj]
theorem Zln {α:Type} (P:α->Bool) (E:List α) {i:Nat} (h:i<E.length):(E.take (i+1)).filter P=(E.take i).filter P++(if P E[i]=true then [E[i]]else []):=by
 rw[fo,List.filter_append,ag h];congr 1;by_cases c:P E[i]=true
 ·rw[aa c];simp[c]
 ·rw[ab c];simp[c]
theorem Zpv {P:Evn->Bool} {E:List Evn} (J:E.length<=1000000) {D:Lp} {enc:Rw->Nat->List AC}
  (G:∀(l:Rw) (i:Nat),i<=E.length->l.length<=i->D (enc l i)=if h:i<E.length then some (0,enc (l++(if P E[i]=true then [evR E[i]]else [])) (i+1))else some (1,[.vC kPt l])):
  Am D (enc [] 0)=some (1,[.vC kPt ((E.filter P).map evR)]):=by
 have key:Out (λo=>o=(1,[.vC kPt ((E.filter P).map evR)])) (Am D (enc [] 0)):=by
  refine BZ (λi:Nat=>enc (((E.take i).filter P).map evR) i) (λi=>i<=E.length) (λi=>E.length-i) _ ?_ 0 (by simp);intro i I;rw[G _ _ I (by rw[ac];exact cq (j8 _ _) (by simp;omega))];by_cases h:i<E.length
  ·rw[kz h];refine .some (.inl ⟨rfl,i+1,?_,by omega,by omega⟩);rw[Zln P E h];by_cases c:P E[i]=true
   ·rw[aa c,aa c,bn];rfl
   ·rw[ab c,ab c,jv,jv]
  ·rw[dif_neg h];refine .some (.inr ⟨by simp,?_⟩);rw[ip (by omega)]
 obtain⟨o,h,rfl⟩:=key;exact h
theorem Zdz {E:List Evn} (D:E.length<=1000000) (k:Int):LG [.vC kPt (E.map evR),I k]=some [.vC kPt ((E.filter λe=>e.cycle==k).map evR)]:=by
 have G:Am UC [.vC kPt [],I k, .vC kPt (E.map evR),I E.length,I ((0:Nat):Int)]=some (1,[.vC kPt ((E.filter λe=>e.cycle==k).map evR)]):=by
  refine Zpv (P:=λe=>e.cycle==k) D (enc:=λl i=>[.vC kPt l,I k, .vC kPt (E.map evR),I E.length,I (i:Int)]) λl i L J=> ?_;rw[Zrv];by_cases h:i<E.length
  ·rw[kz h,BX (by simp;omega),BX (by simp;omega),Qho E h,Ae (x:=(i:Int)+1)];by_cases c:(E[i].cycle==k)=true
   ·rw[BX (show(gA (evR E[i]) 0==k)=true from c),BM (by simp;omega),aa c];rfl
   ·rw[BG (show(gA (evR E[i]) 0==k)=false from Bool.eq_false_iff.2 c),ab c,jv];rfl
  ·rw[dif_neg h,BG (by simp;omega)]
 show Qis (Am UC) [.vC kPt (E.map evR),I k]=_;rw[Zl5,ac];rw[show(0:Int)=((0:Nat):Int)from rfl,G];rfl
theorem Ybl (E:Ht l M) (cycle:Int) (k:Nat):
  ∃(e:Evn) (k':Nat),Y5 M [I cycle, .vC Aa l,I k]=some (evR e++[.vC Aa l,I k'])/\EvOK e/\k<=k':=by
 obtain⟨v,D,O,v0,Y,hk,-⟩:=E k (n:=15) (by omega);rw[Zo7,O];simp only[ah,Se,gA,wA,bA,jA,Dl,E3,Ef,B_];have all:∀(n:Nat),n<15->∃aP:Int,nth [] [[I 4],[I 1],[I 2],[I 3],[I 4],[I 5],[I 6],[I 7],[I 4],[I 8],[I 9],[I 11],[I 12],[I 13],[I 10]] n=[I aP]/\1<=aP/\aP<=13:=by
  intro n J
  match n,J with
  |0,_=>exact⟨4,rfl,by omega⟩
  |1,_=>exact⟨1,rfl,by omega⟩
  |2,_=>exact⟨2,rfl,by omega⟩
  |3,_=>exact⟨3,rfl,by omega⟩
  |4,_=>exact⟨4,rfl,by omega⟩
  |5,_=>exact⟨5,rfl,by omega⟩
  |6,_=>exact⟨6,rfl,by omega⟩
  |7,_=>exact⟨7,rfl,by omega⟩
  |8,_=>exact⟨4,rfl,by omega⟩
  |9,_=>exact⟨8,rfl,by omega⟩
  |10,_=>exact⟨9,rfl,by omega⟩
  |11,_=>exact⟨11,rfl,by omega⟩
  |12,_=>exact⟨12,rfl,by omega⟩
  |13,_=>exact⟨13,rfl,by omega⟩
  |14,_=>exact⟨10,rfl,by omega⟩
 obtain⟨aP,L,b1,b2⟩:=all v.toNat (by omega);have hlen:([[I 4],[I 1],[I 2],[I 3],[I 4],[I 5],[I 6],[I 7],[I 4],[I 8],[I 9],[I 11],[I 12],[I 13],[I 10]]:Rw).length=15:=rfl;clear all;generalize([[I 4],[I 1],[I 2],[I 3],[I 4],[I 5],[I 6],[I 7],[I 4],[I 8],[I 9],[I 11],[I 12],[I 13],[I 10]]:Rw)=T at*;have S:v<(T.length:Int):=by omega
 simp only[v0,S,decide_true,Bool.and_self,ai,L,Dl,Ef];have one:∀(n d:Int),0<n/\n<=1000->0<=d/\d<=5->∃(e:Evn) (k':Nat),((M [I n, .vC Aa l,I D]).bind λo=>some [I cycle,I aP,I (V (gA o 0-d)), .vC Aa (wA o 1),jA o 2])=some (evR e++[.vC Aa l,I k'])/\EvOK e/\k<=k':=λn d J hd=>by
  obtain⟨w,G,g1,w0,N,g2,-⟩:=E D (n:=n) (by omega);rw[g1];refine⟨⟨cycle,aP,w-d⟩,G,?_,⟨⟨b1,b2⟩,by simp only;omega⟩,by omega⟩;simp only[ah,gA,wA,jA,Dl,E3,Ef,B_];rw[Ae];rfl
 have two:∀(n:Int),0<n/\n<=1000->∃(e:Evn) (k':Nat),((M [I n, .vC Aa l,I D]).bind λo=>some [I cycle,I aP,jA o 0, .vC Aa (wA o 1),jA o 2])=some (evR e++[.vC Aa l,I k'])/\EvOK e/\k<=k':=λn J=>by
  obtain⟨w,G,g1,w0,N,g2,-⟩:=E D (n:=n) (by omega);rw[g1];exact⟨⟨cycle,aP,w⟩,G,rfl,⟨⟨b1,b2⟩,by simp only;omega⟩,by omega⟩
 cases c1:(aP==1)
 ·cases c2:(aP==2)
  ·cases c3:(aP==5)
   ·cases c4:(aP==6)
    ·cases c5:(aP==7)
     ·cases c6:(aP==8)
      ·cases c7:(aP==13)
       ·exact⟨⟨cycle,aP,0⟩,D,rfl,⟨⟨b1,b2⟩,by simp⟩,by omega⟩
       ·obtain⟨w,G,g1,w0,N,g2,-⟩:=E D (n:=4) (by omega);obtain⟨y,U,X,y0,y1,g4,-⟩:=E G (n:=60) (by omega);simp only[aq,ai];rw[g1];simp only[ah,Dl,E3,Ef];rw[X];refine⟨⟨cycle,aP,w*1048576+y⟩,U,?_,⟨⟨b1,b2⟩,by simp only;omega⟩,by omega⟩;simp only[ah,Dl,E3,Ef];rw[Ae (x:=w*1048576),Ae];rfl
      ·exact one 5 1 (by omega) (by omega)
     ·exact one 300 5 (by omega) (by omega)
    ·exact two 3 (by omega)
   ·exact two 3 (by omega)
  ·exact one 220 5 (by omega) (by omega)
 ·exact one 220 5 (by omega) (by omega)
theorem Zy6 {ME J L MF:Fn} (hl:l.length<=100000) (N:Ht l J) (O:∀k:Nat,L [.vC Aa l,I k]=some [B (decide (k<l.length)), .vC Aa l,I k])
  (S:∀(cycle:Int) (k:Nat),∃(e:Evn) (k':Nat),ME [I cycle, .vC Aa l,I k]=some (evR e++[.vC Aa l,I k'])/\EvOK e/\k<=k'):
  Out (λo=>∃E:List Evn,o=(1,[.vC kPt (E.map evR)])/\E.length<=l.length/\∀e∈E,EvOK e) (Am (Qrh ME J L MF) [.vC kPt [],I 0, .vC Aa l,I 0]):=by
 refine BZ (λs:List Evn×Int×Nat=>[.vC kPt (s.1.map evR),I s.2.1, .vC Aa l,I (s.2.2:Int)]) (λs=>(∀e∈s.1,EvOK e)/\s.1.length<=s.2.2/\s.1.length<=l.length) (λs=>l.length-s.2.2) _ ?_ ([],0,0) (by simp);rintro⟨E,cycle,k⟩ ⟨G,T,M⟩;dsimp only at G T M;rw[Zq2,O];simp only[ah,gA,wA,bA,jA,Dl,E3,Ef,B_,CU];by_cases c:k<l.length
 ·rw[al c];obtain⟨v,U,g1,v0,v1,-,g2,-⟩:=N k (n:=40) (by omega);have g2:=g2 c;rw[ai,g1];simp only[ah,Dl,E3,Ef];obtain⟨e,X,Y,q2,q3⟩:=S (V (cycle+v)) U;rw[Y];simp only[ah,ay,az,Dl,E3,Ef];rw[BM (by simp;omega)];refine .some (.inl ⟨rfl,(E++[e],V (cycle+v),X),?_,⟨?_,by simp;omega,by simp;omega⟩,by dsimp only;omega⟩)
  ·rw[bn];rfl
  ·intro x D;dsimp only at D;rcases ba.1 D with D|D
   ·exact G x D
   ·rw[fa]at D;subst D;exact q2
 ·rw[am c];exact .some (.inr ⟨by simp,E,rfl,M,G⟩)
theorem Ztb (D:Src l) (J:l.length<=60):∃E:List Evn,Me [.vC Aa l]=some [.vC kPt (E.map evR)]/\E.length<=60/\∀e∈E,EvOK e:=by
 obtain⟨o,G,E,rfl,L,I⟩:=Zy6 (ME:=No) (MF:=C6) (by omega) (H0 D) (Qwv l) λcycle k=>Ybl (H0 D) cycle k;refine⟨E,?_,by omega,I⟩;show Qg6 No BY GH C6 (Am _) [.vC Aa l]=_;rw[Z9q,Rh];simp only[ah,gA,wA,bA,jA,Dl,E3,Ef,B_];rw[G];rfl
theorem Zoo {D MF:Fn} (E:Ht l D) (L:MF [.vC Aa l]=some [.vC Aa l,I 0]):
  ∃a b c:Int,Wo D MF [.vC Aa l]=some [I a,I b,I c]/\(1<=a/\a<=900)/\(2<=b/\b<=201)/\(1<=c/\c<=16000):=by
 obtain⟨v,J,g1,v0,O,-⟩:=E 0 (n:=900) (by omega);obtain⟨w,M,g2,w0,S,-⟩:=E J (n:=200) (by omega);obtain⟨y,T,N,y0,y1,-⟩:=E M (n:=16000) (by omega);have G:D [I 900, .vC Aa l,I 0]=some [I v, .vC Aa l,I J]:=g1;refine⟨1+v,2+w,1+y,?_,by omega,by omega,by omega⟩;rw[Z1s,L];simp only[ah,gA,wA,bA,jA,Dl,E3,Ef,B_];rw[G];simp only[ah,Dl,E3,Ef];rw[g2];simp only[ah,Dl,E3,Ef];rw[N];simp only[ah,Dl,E3,Ef];rw[Ae (x:=1+v),Ae (x:=2+w),Ae (x:=1+y)]
theorem Zmf {E MP G MF:Fn} {l m:Rw} (J:Ht m E) (L:MF [.vC Aa m]=some [.vC Aa m,I 0]) {x:Ax3} (M:G [.vC Aa l]=some (AL x)) (N:Ax3M x) {a b c:Int} (O:MP [.vC Aa m]=some [I a,I b,I c]) (U:1<=a/\a<=900) (V:2<=b/\b<=201) (X:1<=c/\c<=16000) (S:m.length<=100000):
  ∃bH lag:Int,Za E MP G MF [.vC Aa l, .vC Aa m]=some (AL x++[I a,I b,I c,I bH,I lag])/\MachOK x a b c bH lag:=by
 obtain⟨k0,D⟩:∃k0:Nat,mn 3 (m.length:Int)=k0:=⟨(mn 3 (m.length:Int)).toNat,by unfold mn;split<;>omega⟩;obtain⟨v,T,g1,v0,Y,-⟩:=J k0 (n:=60000) (by omega);obtain⟨w,k2,g2,w0,w1,-⟩:=J T (n:=40) (by omega);refine⟨1+v,w,?_,⟨N,⟨by omega,by omega,by omega⟩,by omega,by omega⟩⟩;rw[Z1l,L,M,O];simp only[ah,gA,wA,bA,jA,Dl,E3,Ef,B_];rw[D,g1];simp only[ah,Dl,E3,Ef];rw[g2];simp only[ah,Dl,E3,Ef];rw[Ae (x:=1+v)];rfl
theorem Zjf {l m:Rw} (E:Src l) (D:Src m) (G:m.length<=100000):∃(x:Ax3) (a b c bH lag:Int),KU [.vC Aa l, .vC Aa m]=some (AL x++[I a,I b,I c,I bH,I lag])/\MachOK x a b c bH lag:=by
 obtain⟨x,J,L⟩:=Z1y E;obtain⟨a,b,c,M,N,O,S⟩:=Zoo (MF:=C6) (H0 D) (Rh m);obtain⟨bH,lag,g1,g2⟩:=Zmf (MP:=Sy) (MF:=C6) (H0 D) (Rh m) J L M N O S G;exact⟨x,a,b,c,bH,lag,g1,g2⟩
theorem Z59 (L:List (Rw)) (D:L.length<=1000):Out (λo=>o.1=1/\o.2=[B false]\/o.1=2/\∀l∈L,l.length<=60) (Am Uj [.vC [Kd.sl Aa] (L.map λl=>[.vC Aa l]),I L.length,I ((0:Nat):Int)]):=by
 refine BZ (λi:Nat=>[.vC [Kd.sl Aa] (L.map λl=>[.vC Aa l]),I L.length,I (i:Int)]) (λi=>i<=L.length/\∀l∈L.take i,l.length<=60) (λi=>L.length-i) _ ?_ 0 (by simp);rintro i ⟨J,E⟩;rw[Z18];refine .cond (λc=> ?_) λc=> .some (.inr ⟨by simp, .inr ⟨rfl,?_⟩⟩)
 ·have c:(i:Int)<(L.length:Int):=A0 c;have G:i<L.length:=by omega
  refine .cond (λ_=> ?_) λe=>(inB (by omega) (by rw[ac];exact c) e).elim;rw[aj,HH [] _ i (by rw[ac];exact G),gj];refine .cond (λ_=> .some (.inr ⟨by simp, .inl ⟨rfl,rfl⟩⟩)) λq=> ?_;have q: ¬(L[i].length:Int)>60:=AU q;rw[Ae (x:=(i:Int)+1)];refine .some (.inl ⟨rfl,i+1,rfl,⟨by omega,?_⟩,by omega⟩);intro l D;rw[fo,ag G]at D;rcases ba.1 D with D|D
  ·exact E l D
  ·simp at D;subst D;omega
 ·have c: ¬(i:Int)<(L.length:Int):=AU c;rw[ip (by omega)]at E;exact E
theorem Z5t {L:List (Rw)} (G:L.length<=1000):∃b:Bool,Ls [.vC [Kd.sl Aa] (L.map λl=>[.vC Aa l])]=some [B b]/\(b=true->∀l∈L,l.length<=60):=by
 obtain⟨o,I,J⟩:=Z59 L G;have e:Ls [.vC [Kd.sl Aa] (L.map λl=>[.vC Aa l])]=W7 (Am Uj) [.vC [Kd.sl Aa] (L.map λl=>[.vC Aa l])]:=rfl;rw[e,Z1i,ac];rw[show(0:Int)=((0:Nat):Int)from rfl,I];obtain⟨o1,o2⟩:=o;rcases J with⟨D,E⟩|⟨D,E⟩
 ·dsimp only at D E;subst D E;exact⟨false,rfl,λh=>by cases h⟩
 ·dsimp only at D E;subst D;exact⟨true,rfl,λ_=>E⟩
theorem Zg3 (a b c d:Rw):∃q:Bool,NJ [.vC Aa a, .vC Aa b, .vC Aa c, .vC Aa d]=some [B q]/\(q=true->a.length<=60/\b.length<=60/\c.length<=60/\d.length<=60):=by
 obtain⟨q,G,D⟩:=Z5t (L:=[a,b,c,d]) (by simp);refine⟨q,?_,λh=>⟨D h a (by simp),D h b (by simp),D h c (by simp),D h d (by simp)⟩⟩;show Qqe Ls _=_;rw[Z03];have E:Ls [.vC [Kd.sl Aa] [[.vC Aa a],[.vC Aa b],[.vC Aa c],[.vC Aa d]]]=some [B q]:=G;rw[E];rfl
abbrev Q0g:Itm:=⟨0,0,⟨0,0,0⟩,⟨0,0,0⟩,0,⟨0,0,0⟩,0,false,0,false,0,0,0,0,0,false⟩
def itK (K:Kf) (i:Int):Itm:=K.aA.getD i.toNat Q0g
def mkK (K:Kf) (i:Int):Mrk:=K.p.aD.getD i.toNat ⟨0,0,0⟩
theorem J7 (D:0<=a) (E:a<K.aA.length):nth [] (K.aA.map Ah) a.toNat=Ah (itK K a):=by
 have h:a.toNat<K.aA.length:=by omega
 rw[Q1y K h];unfold itK;rw[List.getD,ag h];rfl
theorem Ol (D:0<=a) (E:a<K.p.aD.length):nth [] (K.p.aD.map Aw) a.toNat=Aw (mkK K a):=by
 have h:a.toNat<K.p.aD.length:=by omega
 rw[Z50 K h];unfold mkK;rw[List.getD,ag h];rfl
theorem VA (h:KOK K) {i:Int} (E:0<=i) (G:i<K.p.aD.length):0<=(mkK K i).aU/\(mkK K i).aU<K.aA.length/\i64 (mkK K i).at_:=by
 have D:i.toNat<K.p.aD.length:=by omega
 unfold mkK;rw[List.getD,ag D];exact h.aD _ (bf D)
theorem inR {n:Nat} (D:0<=a) (E:a<(n:Int)):(decide (0<=a)&&decide (a<(n:Int)))=true:=by
 rw[al D,al E];rfl
theorem inM {β:Type} {f:β->List AC} {i:Int} {l:List β} (D:0<=i) (E:i<(l.length:Int)):(decide (0<=i)&&decide (i<((l.map f).length:Int)))=true:=inR D (by rw[ac];exact E)
def D8 (K:Kf) (c:Cv):Option Sgm:=K.p.aF[(A5 K.p.aF (max (Ay K c) 0)).1]?
def vF (K:Kf) (c:Cv):Sgm:=(D8 K c).getD sg0
theorem SP {c:Cv} (h:D8 K c=some g):g∈K.p.aF:=cd h
theorem FG (h:KOK K) {c:Cv} (D:(vF K c).aX≠0):0<=(vF K c).aU/\(vF K c).aU<K.aA.length/\i64 (vF K c).aX:=by
 unfold vF at D⊢;cases e:D8 K c with
 |none=>rw[e]at D;exact absurd rfl D
 |some g=>exact h.aF g (SP e)
theorem Z53 {c:Cv} (E:Z (Ab K c)=some [I (Ay K c)])
  (G:M (Bv K.p++[I (Ay K c)])=if K.p.aF=[]then some [I (-1),I 0]else some [I (A5 K.p.aF (max (Ay K c) 0)).1,I (A5 K.p.aF (max (Ay K c) 0)).2]):
  Qsu M Z (Ab K c)=some (Ax (vF K c)++[B (D8 K c).isSome]):=by
 rw[Zm2];refine eB E (co (ik (λz=>Option.bind z _) (show M (Bv K.p++[I (Ay K c)])=_ from G)) ?_);by_cases e:K.p.aF=[]
 ·have e2:D8 K c=none:=by unfold D8;rw[e];rfl
  unfold vF;rw[aa e,e2];rfl
 ·have D:=Qcs K.p.aF (max (Ay K c) 0) e;have e2:D8 K c=some K.p.aF[(A5 K.p.aF (max (Ay K c) 0)).1]:=ag D;unfold vF;rw[ab e,e2];refine eB rfl (eF (am (show¬((A5 K.p.aF (max (Ay K c) 0)).1:Int)<0 by omega)) (eT (inM (f:=Ax) (l:=K.p.aF) (i:=((A5 K.p.aF (max (Ay K c) 0)).1:Int)) (by omega) (by omega)) ?_));have J:nth [] (K.p.aF.map Ax) ((A5 K.p.aF (max (Ay K c) 0)).1:Int).toNat=Ax K.p.aF[(A5 K.p.aF (max (Ay K c) 0)).1]:=by
   rw[aj,HH [] _ _ (by rw[ac];exact D),gj]
  show some (AV Ag (nth [] (K.p.aF.map Ax) ((A5 K.p.aF (max (Ay K c) 0)).1:Int).toNat)++[B true])=_;rw[J];rfl
theorem VK (h:KOK K) (c:Cv):Fu (Ab K c)=some (Ax (vF K c)++[B (D8 K c).isSome]):=
 Z53 (NA h c) (Wl h.f.p.ok (VW h.f _))
def H5 (K:Kf) (c:Cv):Bool:=(D8 K c).isSome&&((itK K (vF K c).aU).aP==6&&c.y0==(vF K c).aU)
theorem Zha {c:Cv} (h:KOK K) (G:M (Ab K c)=some (Ax (vF K c)++[B (D8 K c).isSome])):V_ M (Ab K c)=some [B (H5 K c)]:=by
 rw[Zgp,G];unfold H5 vF;cases e:D8 K c with
 |none=>rfl
 |some g=>
  obtain⟨D,E,-⟩:=h.aF g (SP e);refine eB rfl (eT rfl (eT (inM (f:=Ah) D E) ?_));show cond (gA (nth [] (K.aA.map Ah) g.aU.toNat) 0==6) (some [B (c.y0==g.aU)]) (some [B false])=some [B (true&&((itK K g.aU).aP==6&&c.y0==g.aU))];rw[J7 D E];show cond ((itK K g.aU).aP==6) (some [B (c.y0==g.aU)]) (some [B false])=_;cases((itK K g.aU).aP==6)<;>rfl
theorem Q8c (h:KOK K) (c:Cv):Ly (Ab K c)=some [B (H5 K c)]:=Zha h (VK h c)
def spV (c:Cv) (bH:Int):Int:=if c.s1<c.s2 then mn (V (c.s1+bH)) c.s2 else mx (V (c.s1-bH)) c.s2
def spS (c:Cv) (bH:Int):Cv:={c with s1:=spV c bH,s3:=V (c.s3+V (c.s0*spV c bH))}
theorem Q86 (c:Cv) (bH:Int):KC [I c.s0,I c.s1,I c.s2,I c.s3,I bH]=some [I (spS c bH).s0,I (spS c bH).s1,I (spS c bH).s2,I (spS c bH).s3]:=by
 show YX _=_;rw[Zvf];show _=some [I c.s0,I (spV c bH),I c.s2,I (V (c.s3+V (c.s0*spV c bH)))];unfold spV;by_cases h:c.s1<c.s2
 ·rw[BX (al h),aa h]
 ·rw[BG (am h),ab h]
def AP (c:Cv):Bool:=c.m1==0&&(c.m2==0&&(c.m3==c.m0&&c.m4==c.m0))
theorem Qk8 (c:Cv):Ic [I c.m0,I c.m1,I c.m2,I c.m3,I c.m4,I c.m5]=some [B (AP c)]:=by
 show Qdt _=_;rw[Z2t];unfold AP;cases(c.m1==0)<;>cases(c.m2==0)<;>cases(c.m3==c.m0)<;>rfl
def Qk (b:Bool) (n:Int):Bool:=if n=0 then false else if n=1 then true else b
theorem Qt3 (b:Bool) (n:Int):Qw [B b,I n]=some [B (Qk b n)]:=by
 show ZC _=_;rw[Zle];unfold Qk;by_cases h:n=0
 ·rw[aa h,BX (by simpa using h)]
 ·rw[ab h,BG (by simpa using h)];by_cases h:n=1
  ·rw[aa h,BX (by simpa using h)]
  ·rw[ab h,BG (by simpa using h)]
def KG (k n:Int):Bool:=k==9||(k==8&&(decide (0<=n)&&decide (n<=2)))
def evC (c:Cv) (k n:Int):Cv:={c with
 o0:=if k=1/\0<=n/\n<=200 then n else c.o0
 o1:=if k=2/\0<=n/\n<=100 then n else c.o1
 o2:=if k=3\/k=11 then true else if k=4 then false else c.o2
 o3:=if k=5 then Qk c.o3 n else c.o3
 o4:=if k=6 then Qk c.o4 n else c.o4
 g0:=if k=10 then 2 else if k=11 then 0 else if KG k n=true then(if c.g0=2 then 2 else 1)else c.g0
 g1:=if k=10 then 22 else if k=11 then 0 else if KG k n=true/\c.g0≠2/\c.g1=0 then(if k=9 then 21 else 20)else c.g1
 g2:=if k=10 then-1 else if k=11 then-1 else if KG k n=true/\c.g0≠2/\c.g1=0 then(if k=9 then-1 else n)else c.g2
 aJ:=if k=4 then true else c.aJ}
theorem Quz (O:∀(b:Bool) (n:Int),M [B b,I n]=some [B (Qk b n)]) (c:Cv) (x k n:Int) (S:k≠11):
  S2 M [I c.o0,I c.o1,B c.o2,B c.o3,B c.o4,I x,I k,I n]=some [I (evC c k n).o0,I (evC c k n).o1,B (evC c k n).o2,B (evC c k n).o3,B (evC c k n).o4]:=by
 rw[Q34];unfold evC;simp only[O];by_cases D:k=1
 ·subst D;by_cases a:0<=n<;>by_cases b:n<=200<;>simp[a,b]
 ·by_cases E:k=2
  ·subst E;by_cases a:0<=n<;>by_cases b:n<=100<;>simp[a,b]
  ·by_cases G:k=3
   ·subst G;simp
   ·by_cases J:k=4
    ·subst J;simp
    ·by_cases L:k=5
     ·subst L;simp[gA,bA,nth,CU]
     ·by_cases N:k=6
      ·subst N;simp[gA,bA,nth,CU]
      ·simp only[beF D,beF E,beF G,beF J,beF L,beF N,aq];simp[D,E,G,J,L,N,S]
theorem Ybd (c:Cv) (x n:Int):
  S2 M [I c.o0,I c.o1,B c.o2,B c.o3,B c.o4,I x,I 11,I n]=some [I c.o0,I c.o1,B c.o2,B c.o3,B c.o4]:=by
 rw[Q34];rfl
theorem Q60 (a b d e f:Int):Ri [I a,I b,I d,I e,I f]=some (if a=2 then [I a,I b,I d]else if b=0 then [I 1,I e,I f]else [I 1,I b,I d]):=by
 show Y8 _=_;rw[Zvv];by_cases h:a=2
 ·rw[aa h,BX (by simpa using h)]
 ·rw[ab h,BG (by simpa using h)];by_cases h:b=0
  ·rw[aa h,BX (by simpa using h)]
  ·rw[ab h,BG (by simpa using h)]
theorem Qvp (L:M []=some [I 0,I 0,I (-1)]) (N:∀a b d e f:Int,Z [I a,I b,I d,I e,I f]=some (if a=2 then [I a,I b,I d]else if b=0 then [I 1,I e,I f]else [I 1,I b,I d])) (c:Cv) (x k n:Int):
  Qh3 M Z [I c.g0,I c.g1,I c.g2,I x,I k,I n]=some [I (evC c k n).g0,I (evC c k n).g1,I (evC c k n).g2]:=by
 rw[Zk7];unfold evC;simp only[N,L];by_cases D:k=10
 ·subst D;rfl
 ·by_cases E:k=9
  ·subst E;by_cases a:c.g0=2<;>by_cases b:c.g1=0<;>simp[KG,a,b,gA,jA,nth,Af]
  ·by_cases G:k=8
   ·subst G;by_cases u:0<=n<;>by_cases v:n<=2<;>by_cases a:c.g0=2<;>by_cases b:c.g1=0<;>simp[KG,a,b,u,v,gA,jA,nth,Af]
   ·by_cases J:k=11
    ·subst J;rfl
    ·simp only[beF D,beF E,beF G,beF J,aq];simp[KG,D,E,G,J]
theorem Z1d (c:Cv) (x:Int) {k:Int} (n:Int) (D:k≠7/\k≠12/\k≠13)
  (L:k≠11->S [I c.o0,I c.o1,B c.o2,B c.o3,B c.o4,I x,I k,I n]=some [I (evC c k n).o0,I (evC c k n).o1,B (evC c k n).o2,B (evC c k n).o3,B (evC c k n).o4])
  (E:k=11->S [I c.o0,I c.o1,B c.o2,B c.o3,B c.o4,I x,I k,I n]=some [I c.o0,I c.o1,B c.o2,B c.o3,B c.o4])
  (J:T [I c.g0,I c.g1,I c.g2,I x,I k,I n]=some [I (evC c k n).g0,I (evC c k n).g1,I (evC c k n).g2]):
  Tr M Z W T S (I x::I k::I n::Ab K c)=some (Ab K (evC c k n)):=by
 rw[Qzn];by_cases h:k=11
 ·rw[E h,J];subst h;rfl
 ·rw[L h,J];simp only[ah];rw[BG (by simpa using D.2.2),BG (by simpa using h),BG (by simpa using D.2.1),BG (by simpa using D.1)];by_cases G:k=4
  ·subst G;rfl
  ·rw[BG (by simpa using G)];have e:(evC c k n).aJ=c.aJ:=by unfold evC;simp[G]
   rw[<-e];rfl
theorem Qwp (c:Cv) (x:Int) {k:Int} (n:Int) (D:k≠7/\k≠12/\k≠13):JI (I x::I k::I n::Ab K c)=some (Ab K (evC c k n)):=
 Z1d c x n D (λh=>Quz Qt3 c x k n h) (λh=>by subst h;exact Ybd c x n) (Qvp (by show Qs []=_;rw[X1]) Q60 c x k n)
end Go.Bm
noncomputable section
namespace Go.Bm
open Classical
def Bl (l:List Int):List Int:=(List.range (l.length-1)).map λi=>V (l.getD (i+1) 0-l.getD i 0)
theorem Ih (l:List Int):(Bl l).length=l.length-1:=by unfold Bl;simp
theorem Qqp (h:i<L.length):nth [] (L.map Ai) i=Ai (L.getD i 0):=by
 rw[GK Ai [] L i h,List.getD,ag h];rfl
theorem Z47 (h:L.length<=100000):PY [.vC Aa (L.map Ai)]=some [.vC Aa ((Bl L).map Ai)]:=by
 show Tp (Am SD) [.vC Aa (L.map Ai)]=_;rw[Q0w];have key:Out (λo=>o=(1,[.vC Aa ((Bl L).map Ai)])) (Am SD [.vC Aa (([]:List Int).map Ai), .vC Aa (L.map Ai),I ((1:Nat):Int)]):=by
  refine BZ (λs:Nat=>[.vC Aa (((List.range (s-1)).map λi=>V (L.getD (i+1) 0-L.getD i 0)).map Ai), .vC Aa (L.map Ai),I (s:Int)]) (λs=>1<=s/\s<=max L.length 1) (λs=>L.length+1-s) _ ?_ 1 ⟨by omega,by omega⟩;rintro i ⟨g1,g2⟩;rw[Q9a];rw[Ae (x:=(i:Int)-1),Ae (x:=(i:Int)+1)];have E:((L.map Ai).length:Int)=L.length:=by rw[ac]
  refine .cond (λc=> ?_) (λc=> ?_)
  ·have c:=A0 c;refine .cond (λ_=> ?_) λe=>(inB (by omega) c e).elim;refine .cond (λ_=> ?_) λe=>(inB (by omega) (by omega) e).elim;refine .cond (λ_=> ?_) λc=>by rw[BM (by simp;omega)]at c;cases c
   have e1:((i:Int)-1).toNat=i-1:=by omega
   rw[aj,e1,Qqp (by omega),Qqp (by omega)];refine .some (.inl ⟨rfl,i+1,?_,⟨by omega,by omega⟩,by omega⟩);have e2:i+1-1=(i-1)+1:=by omega
   have e3:L.getD i 0=L.getD (i-1+1) 0:=by rw[show i-1+1=i by omega]
   dsimp only;rw[e2,List.range_succ,bn,bn];show _=[AC.vC Aa (_++[Ai (V (L.getD (i-1+1) 0-L.getD (i-1) 0))]),_,I ((i+1:Nat):Int)];rw[<-e3];rfl
  ·have c:=AU c;refine .some (.inr ⟨by simp,?_⟩);unfold Bl;have:i-1=L.length-1:=by omega
   rw[this]
 obtain⟨o,D,rfl⟩:=key;exact eB D rfl
def BdP (l:List Int) (n:Int):Prop:=∀v∈l,¬v>n/\ ¬v<V (0-n)
theorem Z3f (n:Int) (h:L.length<=100000):OB [.vC Aa (L.map Ai),I n]=some [B (decide (BdP L n))]:=by
 show SG (Am Qm) [.vC Aa (L.map Ai),I n]=_;rw[Qvx];have key:Out (λo=>(o=(1,[B false])/\ ¬BdP L n)\/(o=(2,[])/\BdP L n)) (Am Qm [I n, .vC Aa (L.map Ai),I ((L.map Ai).length:Int),I ((0:Nat):Int)]):=by
  refine BZ (λs:Nat=>[I n, .vC Aa (L.map Ai),I ((L.map Ai).length:Int),I (s:Int)]) (λs=>s<=L.length/\BdP (L.take s) n) (λs=>L.length-s) _ ?_ 0 ⟨by omega,λv D=>by simp at D⟩;rintro i ⟨g1,g2⟩;rw[Q7g];rw[Ae (x:=(i:Int)+1)];have S:((L.map Ai).length:Int)=L.length:=by rw[ac]
  refine .cond (λc=> ?_) (λc=> ?_)
  ·have c:=A0 c;refine .cond (λ_=> ?_) λe=>(inB (by omega) c e).elim;rw[aj,Qqp (by omega)];have M:i<L.length:=by omega
   have em:L.getD i 0=L[i]:=by rw[List.getD,ag M];rfl
   have N:L.getD i 0∈L:=by rw[em];exact bf M
   refine .cond (λE=> ?_) λE=> .cond (λG=> ?_) λG=> ?_
   ·have E:L.getD i 0>n:=A0 E;exact .some (.inr ⟨by simp, .inl ⟨rfl,λq=>(q _ N).1 E⟩⟩)
   ·have G:L.getD i 0<V (0-n):=A0 G;exact .some (.inr ⟨by simp, .inl ⟨rfl,λq=>(q _ N).2 G⟩⟩)
   ·have E: ¬L.getD i 0>n:=AU E;have G: ¬L.getD i 0<V (0-n):=AU G;refine .some (.inl ⟨rfl,i+1,rfl,⟨by omega,λv D=> ?_⟩,by omega⟩);rw[fo,ag M,ba]at D;rcases D with D|D
    ·exact g2 v D
    ·have:v=L.getD i 0:=by rw[em];simpa using D
     rw[this];exact⟨E,G⟩
  ·have c:=AU c;have:i=L.length:=by omega
   rw[this,gh]at g2;exact .some (.inr ⟨by simp, .inr ⟨rfl,g2⟩⟩)
 obtain⟨o,O,J⟩:=key;refine eB O ?_;rcases J with⟨rfl,J⟩|⟨rfl,J⟩
 ·rw[am J];rfl
 ·rw[al J];rfl
def WiP (a:Axs) (l:List Int):Prop:=BdP (Bl l) a.aS/\BdP (Bl (Bl l)) a.bF/\BdP (Bl (Bl (Bl l))) a.bG
theorem Zjr {a:Axs} {l:List Int} (h:l.length<=100000):LE (BC a++[.vC Aa (l.map Ai)])=some [B (decide (WiP a l))]:=by
 have key:∀{D E:Fn},(∀{l:List Int},l.length<=100000->E [.vC Aa (l.map Ai)]=some [.vC Aa ((Bl l).map Ai)])->(∀{l:List Int} (n:Int),l.length<=100000->D [.vC Aa (l.map Ai),I n]=some [B (decide (BdP l n))])->
   Ul D E [I a.step,I a.aS,I a.bF,I a.bG,I a.low,I a.aY,I a.bB,I a.aV,I a.aO, .vC Aa (a.aW.map Ai), .vC Aa (l.map Ai)]=some [B (decide (WiP a l))]:=by
  intro D E G J;rw[Zf1];have L:=Ih l;have M:=Ih (Bl l);have N:=Ih (Bl (Bl l));refine eB (G h) (eB (J a.aS (by omega)) ?_);by_cases b1:BdP (Bl l) a.aS
  ·refine eF (by rw[al b1];rfl) (eB (G (l:=Bl l) (by omega)) (eB (J a.bF (by omega)) ?_));by_cases b2:BdP (Bl (Bl l)) a.bF
   ·refine eF (by rw[al b2];rfl) (eB (G (l:=Bl (Bl l)) (by omega)) (eB (J a.bG (by omega)) ?_));by_cases b3:BdP (Bl (Bl (Bl l))) a.bG
    ·rw[al (show WiP a l from⟨b1,b2,b3⟩)];exact eF (by rw[al b3];rfl) rfl
    ·rw[am (show¬WiP a l from λq=>b3 q.2.2)];exact eT (by rw[am b3];rfl) rfl
   ·rw[am (show¬WiP a l from λq=>b2 q.2.1)];exact eT (by rw[am b2];rfl) rfl
  ·rw[am (show¬WiP a l from λq=>b1 q.1)];exact eT (by rw[am b1];rfl) rfl
 exact key Z47 Z3f
def De (x:Ax3) (l:List Pt):Prop:=WiP x.a (l.map (·.x))/\WiP x.b (l.map (·.y))/\WiP x.c (l.map (·.z))
theorem Zg5 {α:Type} (A:List α) (b y:α) (R:List α):(A++b::R).set A.length y=(A++[y])++R:=by simp
theorem Qta {x:Ax3} (T:0<=k/\k<=2) {l:List Pt} (U:l.length<=100000) {f:Pt->Int} (hf:f=if k=0 then(·.x)else if k=1 then(·.y)else(·.z)):
  Out (λo=>o=(1, .vC Aa ((l.map f).map Ai):: .vC kPt (l.map ptR)::I k::I k::AL x)) (Am (Iy M) (.vC Aa (((l.take 0).map f).map Ai++List.replicate (l.length-0) [I 0]):: .vC kPt (l.map ptR)::I k::I k::I ((l.map ptR).length:Int)::I ((0:Nat):Int)::AL x)):=by
 refine BZ (λs:Nat=> .vC Aa (((l.take s).map f).map Ai++List.replicate (l.length-s) [I 0]):: .vC kPt (l.map ptR)::I k::I k::I ((l.map ptR).length:Int)::I (s:Int)::AL x) (λs=>s<=l.length) (λs=>l.length-s) _ ?_ 0 (by omega);intro i g;refine Out.eqv (Q10 M _ (l.map ptR) k k ((l.map ptR).length:Int) i x.a.step x.a.aS x.a.bF x.a.bG x.a.low x.a.aY x.a.bB x.a.aV x.a.aO (x.a.aW.map Ai) x.b.step x.b.aS x.b.bF x.b.bG x.b.low x.b.aY x.b.bB x.b.aV x.b.aO (x.b.aW.map Ai) x.c.step x.c.aS x.c.bF x.c.bG x.c.low x.c.aY x.c.bB x.c.aV x.c.aO (x.c.aW.map Ai)) ?_;rw[Ae (x:=(i:Int)+1)];have V:((l.map ptR).length:Int)=l.length:=by rw[ac]
 refine .cond (λc=> ?_) (λc=> ?_)
 ·have c:=A0 c;have L:i<l.length:=by omega
  have hlen:(((l.take i).map f).map Ai++List.replicate (l.length-i) [I 0]).length=l.length:=by
   rw[an,ac,ac,dl,List.length_replicate];omega
  have N:(((l.take i).map f).map Ai).length=i:=by rw[ac,ac,dl];omega
  have O:nth [] (l.map ptR) (i:Int).toNat=ptR l[i]:=by rw[aj];exact GK _ _ _ _ L
  have J:∀y:Int,y=f l[i]->(((l.take i).map f).map Ai++List.replicate (l.length-i) [I 0]).set (i:Int).toNat [I y]=((l.take (i+1)).map f).map Ai++List.replicate (l.length-(i+1)) [I 0]:=λy S=>by
   have e1:l.length-i=(l.length-(i+1))+1:=by omega
   rw[aj,e1,jo];have:=Zg5 (((l.take i).map f).map Ai) [I 0] [I y] (List.replicate (l.length-(i+1)) [I 0]);rw[N]at this;rw[this,fo,ag L,S,bn,bn];rfl
  refine .cond (λ_=> ?_) λe=>(inB (by omega) c e).elim;rw[O];refine .cond (λD=> ?_) λD=> .cond (λE=> ?_) λE=> .cond (λG=> ?_) λG=> ?_
  ·have D:k=0:=A0 D;rw[aa D]at hf;refine .cond (λ_=> ?_) λe=>(inB (by omega) (by omega) e).elim;refine .some (.inl ⟨rfl,i+1,?_,by omega,by omega⟩);dsimp only;rw[<-J l[i].x (by rw[hf])];rfl
  ·have D: ¬k=0:=AU D;have E:k=1:=A0 E;rw[ab D,aa E]at hf;refine .cond (λ_=> ?_) λe=>(inB (by omega) (by omega) e).elim;refine .some (.inl ⟨rfl,i+1,?_,by omega,by omega⟩);dsimp only;rw[<-J l[i].y (by rw[hf])];rfl
  ·have D: ¬k=0:=AU D;have E: ¬k=1:=AU E;rw[ab D,ab E]at hf;refine .cond (λ_=> ?_) λe=>(inB (by omega) (by omega) e).elim;refine .some (.inl ⟨rfl,i+1,?_,by omega,by omega⟩);dsimp only;rw[<-J l[i].z (by rw[hf])];rfl
  ·have D:=AU D;have E:=AU E;have G:=AU G
   have D: ¬k=0:=D;have E: ¬k=1:=E;have G: ¬k=2:=G;omega
 ·have c:=AU c;have e:i=l.length:=by omega
  subst e;refine .some (.inr ⟨by simp,?_⟩);rw[gh,jq];simp
theorem Qiw {x:Ax3} {l:List Pt} (E:l.length<=100000):GF (AL x++[.vC kPt (l.map ptR)])=some [B (decide (De x l))]:=by
 have key:∀{M:Fn},(∀{a:Axs} {l:List Int},l.length<=100000->M (BC a++[.vC Aa (l.map Ai)])=some [B (decide (WiP a l))])->
   Ro M (Am (Iy M)) (Am (OD M (Am (Iy M)))) (AL x++[.vC kPt (l.map ptR)])=some [B (decide (De x l))]:=by
  intro M L;refine(Qyc M _ _ x.a.step x.a.aS x.a.bF x.a.bG x.a.low x.a.aY x.a.bB x.a.aV x.a.aO (x.a.aW.map Ai) x.b.step x.b.aS x.b.bF x.b.bG x.b.low x.b.aY x.b.bB x.b.aV x.b.aO (x.b.aW.map Ai) x.c.step x.c.aS x.c.bF x.c.bG x.c.low x.c.aY x.c.bB x.c.aV x.c.aO (x.c.aW.map Ai) (l.map ptR)).trans ?_;have G:Out (λo=>(o=(1,[B false])/\ ¬De x l)\/(o=(2,[])/\De x l)) (Am (OD M (Am (Iy M))) (.vC kPt (l.map ptR)::I ((0:Nat):Int)::AL x)):=by
   refine BZ (λs:Nat=> .vC kPt (l.map ptR)::I (s:Int)::AL x) (λs=>s<=3/\(0<s->WiP x.a (l.map (·.x)))/\(1<s->WiP x.b (l.map (·.y)))/\(2<s->WiP x.c (l.map (·.z)))) (λs=>3-s) _ ?_ 0 ⟨by omega,by omega,by omega,by omega⟩;rintro k ⟨T,g1,g2,O⟩;refine Out.eqv (Qzy M _ (l.map ptR) k x.a.step x.a.aS x.a.bF x.a.bG x.a.low x.a.aY x.a.bB x.a.aV x.a.aO (x.a.aW.map Ai) x.b.step x.b.aS x.b.bF x.b.bG x.b.low x.b.aY x.b.bB x.b.aV x.b.aO (x.b.aW.map Ai) x.c.step x.c.aS x.c.bF x.c.bG x.c.low x.c.aY x.c.bB x.c.aV x.c.aO (x.c.aW.map Ai)) ?_;refine .cond (λc=> ?_) (λc=> ?_)
   ·have c:=A0 c;refine .cond (λ_=> ?_) λc=>by simp at c
    refine .cond (λ_=> ?_) λc=>by simp at c;omega
    have N:k=0\/k=1\/k=2:=by omega
    rcases N with rfl|rfl|rfl
    ·have D:=Qta (M:=M) (x:=x) (k:=((0:Nat):Int)) (by omega) E (f:=(·.x)) (by simp);have e0:((l.take 0).map (·.x)).map Ai++List.replicate (l.length-0) [I 0]=List.replicate ((l.map ptR).length:Int).toNat [I 0]:=by simp
     rw[e0]at D;refine .bind (p:=λo=>o=_) D λo e=> ?_;subst e;refine .cond (λ_=> ?_) λc=>by simp at c
     refine .cond (λ_=> ?_) λc=>by simp[gA,nth,Af]at c
     refine .bind (p:=λo=>o=_) ⟨_,L (a:=x.a) (l:=l.map (λp:Pt=>p.x)) (by rw[ac];exact E),rfl⟩ λo e=> ?_;subst e;by_cases q:WiP x.a (l.map (·.x))
     ·rw[al q];exact .some (.inl ⟨rfl,1,rfl,⟨by omega,λ_=>q,by omega,by omega⟩,by omega⟩)
     ·rw[am q];exact .some (.inr ⟨by simp, .inl ⟨rfl,λa=>q a.1⟩⟩)
    ·have D:=Qta (M:=M) (x:=x) (k:=((1:Nat):Int)) (by omega) E (f:=(·.y)) (by simp);have e0:((l.take 0).map (·.y)).map Ai++List.replicate (l.length-0) [I 0]=List.replicate ((l.map ptR).length:Int).toNat [I 0]:=by simp
     rw[e0]at D;refine .bind (p:=λo=>o=_) D λo e=> ?_;subst e;refine .cond (λ_=> ?_) λc=>by simp at c
     refine .cond (λc=>by simp[gA,nth,Af]at c) λ_=> ?_;refine .cond (λ_=> ?_) λc=>by simp[gA,nth,Af]at c
     refine .bind (p:=λo=>o=_) ⟨_,L (a:=x.b) (l:=l.map (λp:Pt=>p.y)) (by rw[ac];exact E),rfl⟩ λo e=> ?_;subst e;by_cases q:WiP x.b (l.map (·.y))
     ·rw[al q];exact .some (.inl ⟨rfl,2,rfl,⟨by omega,λ_=>g1 (by omega),λ_=>q,by omega⟩,by omega⟩)
     ·rw[am q];exact .some (.inr ⟨by simp, .inl ⟨rfl,λa=>q a.2.1⟩⟩)
    ·have D:=Qta (M:=M) (x:=x) (k:=((2:Nat):Int)) (by omega) E (f:=(·.z)) (by simp);have e0:((l.take 0).map (·.z)).map Ai++List.replicate (l.length-0) [I 0]=List.replicate ((l.map ptR).length:Int).toNat [I 0]:=by simp
     rw[e0]at D;refine .bind (p:=λo=>o=_) D λo e=> ?_;subst e;refine .cond (λ_=> ?_) λc=>by simp at c
     refine .cond (λc=>by simp[gA,nth,Af]at c) λ_=> ?_;refine .cond (λc=>by simp[gA,nth,Af]at c) λ_=> ?_;refine .cond (λ_=> ?_) λc=>by simp[gA,nth,Af]at c
     refine .bind (p:=λo=>o=_) ⟨_,L (a:=x.c) (l:=l.map (λp:Pt=>p.z)) (by rw[ac];exact E),rfl⟩ λo e=> ?_;subst e;by_cases q:WiP x.c (l.map (·.z))
     ·rw[al q];exact .some (.inl ⟨rfl,3,rfl,⟨by omega,λ_=>g1 (by omega),λ_=>g2 (by omega),λ_=>q⟩,by omega⟩)
     ·rw[am q];exact .some (.inr ⟨by simp, .inl ⟨rfl,λa=>q a.2.2⟩⟩)
   ·have c:=AU c;exact .some (.inr ⟨by simp, .inr ⟨rfl,g1 (by omega),g2 (by omega),O (by omega)⟩⟩)
  obtain⟨o,S,J⟩:=G;refine eB S ?_;rcases J with⟨rfl,J⟩|⟨rfl,J⟩
  ·rw[am J];rfl
  ·rw[al J];rfl
 exact key Zjr
end Go.Bm
namespace Go.Bm
def one (M:Fn) (l:List AC):Int:=gA ((M l).getD []) 0
theorem Qmv {l:List AC} (h:M l=some [I v]):M l=some [I (one M l)]:=by
 unfold one;rw[h];rfl
def Cc (k:Int) (c:Cv):Bool:=k==1||(k==3||(k==6||(k==4&&(c.o4||c.o3)||k==2&&c.o3)))
theorem Qyh (at_ k it:Int) (c:Cv):Ji [I at_,I k,I it,I c.o0,I c.o1,B c.o2,B c.o3,B c.o4]=some [B (Cc k c)]:=by
 show Qn2 _=_;rw[Z94];unfold Cc;by_cases D:k=1
 ·subst D;rfl
 by_cases E:k=3
 ·subst E;rfl
 by_cases G:k=6
 ·subst G;rfl
 by_cases J:k=4
 ·subst J;cases c.o4<;>cases c.o3<;>rfl
 by_cases L:k=2
 ·subst L;cases c.o3<;>rfl
 simp[beF D,beF E,beF G,beF J,beF L]
def EM (c:Cv) (known frm:Int):List Mrk->Nat->Int×Int
 |[],_=>(known,-1)
 |m::l,i=>if Cc m.aP c=true/\frm<=m.at_/\m.at_<=known then(m.at_,i)else EM c known frm l (i+1)
def BA (K:Kf) (c:Cv) (known frm:Int):Int×Int:=EM c known frm (K.p.aD.drop (max c.next 0).toNat) (max c.next 0).toNat
theorem Zkj (S:K.p.aD.length<=1000000) (c:Cv) (T:∀at_ k it:Int,M [I at_,I k,I it,I c.o0,I c.o1,B c.o2,B c.o3,B c.o4]=some [B (Cc k c)]) (known frm:Int):
  Qhh M (Am (SH M)) [.vC kPt (K.p.aD.map Aw),I c.next,I c.o0,I c.o1,B c.o2,B c.o3,B c.o4,I known,I frm]=some [I (BA K c known frm).1,I (BA K c known frm).2]:=by
 rw[Zj7];have J:mx c.next 0=max c.next 0:=by unfold mx;split<;>omega
 have key:Out (λo=>(if o.1=1 then o.2=[I (BA K c known frm).1,I (BA K c known frm).2]else o.1=2/\o.2=[I (BA K c known frm).1]/\(BA K c known frm).2= -1)) (Am (SH M) [.vC kPt (K.p.aD.map Aw),I known,I frm,I (max c.next 0),I c.o0,I c.o1,B c.o2,B c.o3,B c.o4]):=by
  refine BZ (λs:Int=>[.vC kPt (K.p.aD.map Aw),I known,I frm,I s,I c.o0,I c.o1,B c.o2,B c.o3,B c.o4]) (λs=>0<=s/\BA K c known frm=EM c known frm (K.p.aD.drop s.toNat) s.toNat) (λs=>(K.p.aD.length-s).toNat) _ ?_ (max c.next 0) ⟨by omega,rfl⟩;rintro i ⟨g,D⟩;rw[Zqk];refine .cond (λk=> ?_) λk=> ?_
  ·have k:i<((K.p.aD.map Aw).length:Int):=A0 k;rw[ac]at k;have L:i.toNat<K.p.aD.length:=by omega
   rw[Ae (x:=i+1) (by have:=S;omega)];have em:mkK K i=K.p.aD[i.toNat]:=by unfold mkK;rw[List.getD,ag L];rfl
   rw[jj L,<-em]at D;unfold EM at D;refine .cond (λ_=> ?_) λe=>(inB g (by rw[ac];exact k) e).elim;rw[Ol g k];refine .bind (p:=λo=>o=_) ⟨_,T _ _ _,rfl⟩ λo e=> ?_;subst e;have next:BA K c known frm=EM c known frm (K.p.aD.drop (i.toNat+1)) (i.toNat+1)->Out (λo:Nat×List AC=>(o.1=0/\∃E:Int,o.2=[.vC kPt (K.p.aD.map Aw),I known,I frm,I E,I c.o0,I c.o1,B c.o2,B c.o3,B c.o4]/\(0<=E/\BA K c known frm=EM c known frm (K.p.aD.drop E.toNat) E.toNat)/\(K.p.aD.length-E).toNat<(K.p.aD.length-i).toNat)\/(o.1≠0/\(if o.1=1 then o.2=[I (BA K c known frm).1,I (BA K c known frm).2]else o.1=2/\o.2=[I (BA K c known frm).1]/\(BA K c known frm).2= -1))) (some (0,[.vC kPt (K.p.aD.map Aw),I known,I frm,I (i+1),I c.o0,I c.o1,B c.o2,B c.o3,B c.o4])):=λe=>
    .some (.inl ⟨rfl,i+1,rfl,⟨by omega,by rw[e,show(i+1).toNat=i.toNat+1 by omega]⟩,by omega⟩)
   refine .cond (λa=> .cond (λb=> .cond (λd=> ?_) λd=> ?_) λb=> ?_) λa=> ?_
   ·have a:Cc (mkK K i).aP c=true:=a;have b:frm<=(mkK K i).at_:=A0 b;have d:(mkK K i).at_<=known:=A0 d;rw[aa ⟨a,b,d⟩]at D;refine .some (.inr ⟨by simp,?_⟩);rw[aa rfl,D];show [I (mkK K i).at_,I i]=[I (mkK K i).at_,I (i.toNat:Int)];rw[Int.toNat_of_nonneg g]
   ·have d: ¬(mkK K i).at_<=known:=AU d;rw[ab (λh=>d h.2.2)]at D;exact next D
   ·have b: ¬frm<=(mkK K i).at_:=AU b;rw[ab (λh=>b h.2.1)]at D;exact next D
   ·have a:Cc (mkK K i).aP c=false:=a;rw[ab (λh=>by rw[a]at h;cases h.1)]at D;exact next D
  ·have k: ¬i<((K.p.aD.map Aw).length:Int):=AU k;rw[ac]at k;rw[d9 (by omega)]at D;refine .some (.inr ⟨by simp,?_⟩);rw[ab (by simp),D];exact⟨rfl,rfl,rfl⟩
 obtain⟨⟨o1,o2⟩,U,G⟩:=key;rw[J];refine eB U ?_;by_cases e:o1=1
 ·subst e;have G:o2=_:=G;subst G;rfl
 ·rw[ab e]at G;obtain⟨N,O,V⟩:=G;dsimp only at N O;subst N O;rw[V];rfl
theorem Z40 (h:KOK K) (c:Cv) (known frm:Int):QI [.vC kPt (K.p.aD.map Aw),I c.next,I c.o0,I c.o1,B c.o2,B c.o3,B c.o4,I known,I frm]=some [I (BA K c known frm).1,I (BA K c known frm).2]:=
 Zkj h.count c (λat_ k it=>Qyh at_ k it c) known frm
theorem Q5y {c:Cv} {known frm:Int} (D:i64 known):∀{l:List Mrk} {i:Nat},(∀m∈l,i64 m.at_)->i64 (EM c known frm l i).1
 |[],_,_=>D
 |m::l,i,h=>by
  unfold EM;split
  ·exact h m (by simp)
  ·exact Q5y D λq E=>h q (by simp[E])
theorem Q9d {c:Cv} {known frm:Int}:∀{l:List Mrk} {i:Nat},(EM c known frm l i).2= -1\/((i:Int)<=(EM c known frm l i).2/\(EM c known frm l i).2<(i+l.length:Nat))
 |[],_=> .inl rfl
 |m::l,i=>by
  unfold EM;split
  ·exact .inr ⟨bz _,by simp only[bh];omega⟩
  ·rcases Q9d (l:=l) (i:=i+1) (c:=c) (known:=known) (frm:=frm)with h|⟨D,E⟩
   ·exact .inl h
   ·exact .inr ⟨by omega,by simp only[bh];omega⟩
theorem Zwo {c:Cv} {known frm:Int}:(BA K c known frm).2= -1\/(0<=(BA K c known frm).2/\c.next<=(BA K c known frm).2/\(BA K c known frm).2<K.p.aD.length):=by
 unfold BA;rcases Q9d (c:=c) (known:=known) (frm:=frm) (l:=K.p.aD.drop (max c.next 0).toNat) (i:=(max c.next 0).toNat)with h|⟨E,D⟩
 ·exact .inl h
 ·rw[bq]at D;exact .inr ⟨by omega,by omega,by omega⟩
def KE (K:Kf) (c:Cv):Int:=one Gj [I K.pa,I K.pb,I K.pc,I c.m0,I c.m1,I c.m2,I c.m3,I c.m4,I c.m5]
def Ew (K:Kf):Int:=if K.closed=true then K.len else K.set
def CQ (r:Int):Int:=V ((V (V (r+256)-1)).tdiv 256)
def DM (K:Kf) (r:Int):Int:=if AO K.t (AA K.t (CQ r))≠CQ r then V (AA K.t (CQ r)+1)else AA K.t (CQ r)
def AG (K:Kf) (c:Cv):Int×Int:=(AO K.t (BA K c (Ew K) (DM K (KE K c))).1,(BA K c (Ew K) (DM K (KE K c))).2)
theorem Qwr (K:Kf) (c:Cv):(AG K c).2= -1\/(0<=(AG K c).2/\c.next<=(AG K c).2/\(AG K c).2<K.p.aD.length):=Zwo
theorem Z6v (h:KOK K):i64 (Ew K):=by unfold Ew;split;exact h.len;exact h.set
theorem Qww (h:KOK K) {c:Cv} {frm:Int}:i64 (BA K c (Ew K) frm).1:=by
 unfold BA;exact Q5y (Z6v h) λm D=>(h.aD m (dp D)).2.2
theorem Zj8 {c:Cv} {b:Bool} (h:KOK K)
  (J:T [I K.pa,I K.pb,I K.pc,I c.m0,I c.m1,I c.m2,I c.m3,I c.m4,I c.m5]=some [I r,B b])
  (L:∀u,W (A4 K.t++[I u])=some [I (AA K.t u)]) (E:∀{z:Int},i64 z->Z (A4 K.t++[I z])=some [I (AO K.t z)])
  (G:∀known frm,M [.vC kPt (K.p.aD.map Aw),I c.next,I c.o0,I c.o1,B c.o2,B c.o3,B c.o4,I known,I frm]=some [I (BA K c known frm).1,I (BA K c known frm).2]):
  Qbc M Z W T (Ab K c)=some (I (AO K.t (BA K c (Ew K) (DM K r)).1)::I (BA K c (Ew K) (DM K r)).2::Ab K c):=by
 have key:∀known:Int,known=Ew K->Vf T K c W Z M (I known)=some (I (AO K.t (BA K c (Ew K) (DM K r)).1)::I (BA K c (Ew K) (DM K r)).2::Ab K c):=λknown N=>by
  subst N;refine eB J (eB (L (CQ r)) (eB (E (VW h.f _)) ?_));have e1:DM K r=if AO K.t (AA K.t (CQ r))≠CQ r then V (AA K.t (CQ r)+1)else AA K.t (CQ r):=rfl;by_cases D:AO K.t (AA K.t (CQ r))=CQ r
  ·rw[ab (by simpa using D)]at e1;refine eF (bnF D) ?_;exact eB (G (Ew K) (AA K.t (CQ r))) (by rw[<-e1];exact eB (E (Qww h)) rfl)
  ·rw[aa D]at e1;refine eT (bnT D) ?_;exact eB (G (Ew K) (V (AA K.t (CQ r)+1))) (by rw[<-e1];exact eB (E (Qww h)) rfl)
 rw[Ybe];refine eC (λe=>key _ ?_) λe=>key _ ?_
 ·unfold Ew;rw[aa e]
 ·unfold Ew;rw[ab (by rw[e];simp)]
theorem Z44 {l:List AC} (h:Out (λo=>(wA o 0).length<=4096) (M l)) {E G J D L N O S T:Int} (e:l=[I E,I G,I J,I D,I L,I N,I O,I S,I T]):∃(r:Int) (b:Bool),LI M l=some [I r,B b]:=by
 subst e;have key:Out (λo=>∃(r:Int) (b:Bool),o=[I r,B b]) (LI M [I E,I G,I J,I D,I L,I N,I O,I S,I T]):=by
  rw[VV];refine .bind h λo g=> .cond (λ_=> .some ⟨0,false,rfl⟩) λ_=> ?_;generalize wA o 0=sp at*;refine .cond (λ_=> .some ⟨D,true,rfl⟩) λc=> .cond (λ_=> .some ⟨_,true,rfl⟩) λd=> ?_;have c: ¬((sp.length:Int)=0):=by simpa using c
  rw[Ae]at d;simp at d;omega
 obtain⟨o,U,r,b,rfl⟩:=key;exact⟨r,b,U⟩
theorem Zxo (D E G J L N O S T:Int):∃b:Bool,Gj [I D,I E,I G,I J,I L,I N,I O,I S,I T]=some [I (one Gj [I D,I E,I G,I J,I L,I N,I O,I S,I T]),B b]:=by
 obtain⟨r,b,h⟩:=Z44 (M:=Fc) (V3 D E G J L N O S T) rfl;have h:Gj [I D,I E,I G,I J,I L,I N,I O,I S,I T]=some [I r,B b]:=h;refine⟨b,?_⟩;unfold one;rw[h];rfl
theorem Zxy (h:KOK K) (c:Cv):RK (Ab K c)=some (I (AG K c).1::I (AG K c).2::Ab K c):=by
 obtain⟨b,hb⟩:=Zxo K.pa K.pb K.pc c.m0 c.m1 c.m2 c.m3 c.m4 c.m5;exact Zj8 h hb (P8 h.f.t.q) (λD=>Zkq h.f.t.q D) (Z40 h c)
def Vc (c:Cv) (v:Int):Cv:={c with m0:=V (c.m0+v),m1:=v,m2:=V (v-c.m1),m3:=c.m0,m4:=c.m3,m5:=c.m4}
def Cy (K:Kf) (c:Cv) (l:Int):Cv:=Vc c (nxV K c l)
theorem Vp {c:Cv} {n:Int} (h:KOK K) (g:Gd K n c) (l:Int):
  EW (nxL K c l)=some (DK c.m0 c.m1 c.m3 c.m4 (nxV K c l))/\((AJ K.pa K.pb (nxV K c l) (V (nxV K c l-c.m1))).2=true\/∃r:Int,nxV K c l=V (c.m1+r)/\r=AH K.pa K.pb c.m1 c.m2):=by
 obtain⟨o,D,v,rfl,E⟩:=Q7u h g.mo l c.o2;have D:EW (nxL K c l)=some (DK c.m0 c.m1 c.m3 c.m4 v):=D;have e:nxV K c l=v:=by unfold nxV;rw[D];rfl
 rw[e];exact⟨D,E⟩
theorem Zgq {c:Cv} (h:M (nxL K c a)=some (DK c.m0 c.m1 c.m3 c.m4 v)):Qs8 M (I a::Ab K c)=some (Ab K (Vc c v)):=by
 rw[Zli];exact eB h rfl
theorem Qg5 {c:Cv} {n:Int} (h:KOK K) (g:Gd K n c) (l:Int):Is (I l::Ab K c)=some (Ab K (Cy K c l)):=Zgq (Vp h g l).1
theorem ZR {c:Cv} {n:Int} (h:KOK K) (g:Gd K n c) (D:0<=n/\n<=10000) (l:Int):Gd K (n+1) (Cy K c l):=g.bD h D (Vp h g l).2
def GV (c:Cv):Cv:={c with next:=V (c.idx+1),on:=false,idx:=0,aN:=false,cnt:=0}
def P9 (c:Cv) (n sp:Int):List AC:=(LJ [I c.s0,I c.s1,I c.s2,I c.s3,I n,I sp]).getD []
def HY (c:Cv) (n sp:Int):Cv:={c with s0:=gA (P9 c n sp) 0,s1:=gA (P9 c n sp) 1,s2:=gA (P9 c n sp) 2,s3:=gA (P9 c n sp) 3}
def Zcu (c:Cv) (n sp:Int):Bool:=bA ((NT [I c.s0,I c.s1,I c.s2,I c.s3,I n,I sp]).getD []) 0
def FL (K:Kf) (c:Cv):Int×Cv:=
 if c.aN=true then(if c.cnt>1/\c.aJ=true then(3,GV c)else(2,c))
 else if(mkK K c.idx).aP≠3 then(3,GV c)
 else if(itK K (mkK K c.idx).aU).aP=7 then(if c.cnt<(itK K (mkK K c.idx).aU).n then(3,c)else(3,GV c))
 else if(itK K (mkK K c.idx).aU).aP=8 then(if Zcu (HY c (itK K (mkK K c.idx).aU).n (itK K (mkK K c.idx).aU).aS) (itK K (mkK K c.idx).aU).n (itK K (mkK K c.idx).aU).aS=true then(3,GV (HY c (itK K (mkK K c.idx).aU).n (itK K (mkK K c.idx).aU).aS))else(3,HY c (itK K (mkK K c.idx).aU).n (itK K (mkK K c.idx).aU).aS))
 else if(itK K (mkK K c.idx).aU).aP=14 then(7,{c with aI:=7})else(3,GV c)
def BT (c:Cv):Cv:={c with cnt:=V (c.cnt+1)}
def A3 (K:Kf) (c:Cv):Int×Cv:=FL K (BT c)
theorem Z6y {c:Cv} (h:KOK K) (O:0<=c.idx) (S:c.idx<K.p.aD.length)
  (J:∀c:Cv,W (Ab K c)=some (I 3::Ab K (GV c)))
  (T:∀(c:Cv) (L E:Int),i64 E->Z [I c.s0,I c.s1,I c.s2,I c.s3,I L,I E]=some (P9 c L E)) (U:∀(c:Cv) (L E:Int),i64 E->Out (λo=>bA o 0=Zcu c L E) (M [I c.s0,I c.s1,I c.s2,I c.s3,I L,I E])):
  W2 M Z W (Ab K c)=some (I (A3 K c).1::Ab K (A3 K c).2):=by
 rw[Zv5];have G:=VA h O S;unfold A3 FL;refine eC (λa=> ?_) λa=> ?_
 ·rw[aa (show(BT c).aN=true from a)];refine eC (λb=>eC (λe=> ?_) λe=> ?_) λb=> ?_
  ·rw[aa (show(BT c).cnt>1/\(BT c).aJ=true from⟨A0 b,e⟩)];exact eB (J (BT c)) rfl
  ·rw[ab (show¬((BT c).cnt>1/\(BT c).aJ=true)from λq=>by have:=q.2;rw[show(BT c).aJ=false from e]at this;cases this)];rfl
  ·rw[ab (show¬((BT c).cnt>1/\(BT c).aJ=true)from λq=>AU b q.1)];rfl
 ·rw[ab (show¬(BT c).aN=true by rw[show(BT c).aN=false from a];simp)];refine eT (inM (f:=Aw) O S) ?_;rw[Ol O S];rw[show(BT c).idx=c.idx from rfl];refine eC (λb=> ?_) λb=> ?_
  ·have b:(mkK K c.idx).aP≠3:=by simpa [gA,nth,Af]using b
   rw[aa b];exact eB (J (BT c)) rfl
  ·have b:(mkK K c.idx).aP=3:=by simpa [gA,nth,Af]using b
   rw[ab (by rw[b];simp)];refine eT (inM (f:=Ah) (l:=K.aA) (i:=(mkK K c.idx).aU) G.1 G.2.1) ?_;have V:nth [] (K.aA.map Ah) (gA (Aw (mkK K c.idx)) 2).toNat=Ah (itK K (mkK K c.idx).aU):=J7 G.1 G.2.1;rw[V];have N:(itK K (mkK K c.idx).aU).aP=8->i64 (itK K (mkK K c.idx).aU).aS:=λD=>by
    have:=Zto h (mkK K c.idx).aU.toNat;rw[J7 G.1 G.2.1]at this;exact this D
   generalize itK K (mkK K c.idx).aU=it at*;refine eC (λk=> ?_) λk=> ?_
   ·have k:it.aP=7:=eq_of_beq k;rw[aa k];refine eC (λq=> ?_) λq=> ?_
    ·rw[aa (show(BT c).cnt<it.n from A0 q)];rfl
    ·rw[ab (show¬(BT c).cnt<it.n from AU q)];exact eB (J (BT c)) rfl
   ·have k:it.aP≠7:=by simpa [gA,nth,Af]using k
    rw[ab k];refine eC (λD=> ?_) λD=> ?_
    ·have D:it.aP=8:=eq_of_beq D;rw[aa D];refine eB (T (BT c) it.n it.aS (N D)) ?_;obtain⟨o,X,Y⟩:=U (HY (BT c) it.n it.aS) it.n it.aS (N D);refine eB X ?_;rw[<-Y];refine eC (λq=> ?_) λq=> ?_
     ·rw[ab (show¬bA o 0=true by simpa using q)];rfl
     ·rw[aa (show bA o 0=true by simpa using q)];exact eB (J (HY (BT c) it.n it.aS)) rfl
    ·have D:it.aP≠8:=by simpa [gA,nth,Af]using D
     rw[ab D];refine eC (λk=> ?_) λk=> ?_
     ·rw[aa (show it.aP=14 from eq_of_beq k)];rfl
     ·rw[ab (show it.aP≠14 by simpa [gA,nth,Af]using k)];exact eB (J (BT c)) rfl
theorem Qhu {l:Option (List AC)} (h:l.isSome=true):l=some (l.getD []):=by
 cases l with
 |none=>cases h
 |some o=>rfl
theorem Zp8 (c:Cv) (E:Int) {D:Int} (h:i64 D):LJ [I c.s0,I c.s1,I c.s2,I c.s3,I E,I D]=some (P9 c E D):=Qhu (Zm6 _ _ _ _ _ h)
theorem Zws (K:Kf) (c:Cv):Ps (Ab K c)=some (I 3::Ab K (GV c)):=Zwb K c
theorem Qbm {c:Cv} (h:KOK K) (E:0<=c.idx) (G:c.idx<K.p.aD.length):K4 (Ab K c)=some (I (A3 K c).1::Ab K (A3 K c).2):=
 Z6y h E G (Zws K) (λc D _ h=>Zp8 c D h) λc D J h=>⟨_,Qhu (Z85 _ _ _ _ _ h),rfl⟩
def Ec (K:Kf) (c:Cv) (i:Int):Bool:=
 if(mkK K i).aP=1\/(mkK K i).aP=2\/(mkK K i).aP=6 then c.o3 else if(mkK K i).aP=4 then true
 else if(mkK K i).aP=3 then((itK K (mkK K i).aU).aP==11||(itK K (mkK K i).aU).aP==12)else false
def Cl (K:Kf) (c:Cv) (i:Int):Int×Cv:=A3 K {c with on:=true,idx:=i,aN:=Ec K c i,cnt:=0}
theorem Z3b {c:Cv} (h:KOK K) (L:0<=a) (N:a<K.p.aD.length)
  (S:∀w:Bool,M (Ab K {c with on:=true,idx:=a,aN:=w,cnt:=0})=some (I (A3 K {c with on:=true,idx:=a,aN:=w,cnt:=0}).1::Ab K (A3 K {c with on:=true,idx:=a,aN:=w,cnt:=0}).2)):
  Qiz M (I a::Ab K c)=some (I (Cl K c a).1::Ab K (Cl K c a).2):=by
 rw[Yba];have G:=VA h L N;unfold Cl;refine eT (inM (f:=Aw) L N) ?_;rw[Ol L N];have fin:∀{w:Bool} {f:List AC->List AC},w=Ec K c a->(∀(m:Int) (c:Cv),f (I m::Ab K c)=I m::Ab K c)->((M (Ab K {c with on:=true,idx:=a,aN:=w,cnt:=0})).bind λo=>some (f o))=some (I (A3 K {c with on:=true,idx:=a,aN:=Ec K c a,cnt:=0}).1::Ab K (A3 K {c with on:=true,idx:=a,aN:=Ec K c a,cnt:=0}).2):=λJ hf=>by
  subst J;refine eB (S _) ?_;rw[hf]
 have D:∀{n:Int},(gA (Aw (mkK K a)) 1==n)=false->(mkK K a).aP≠n:=λe=>by simpa [gA,nth,Af]using e
 have E:∀{n:Int},(gA (Aw (mkK K a)) 1==n)=true->(mkK K a).aP=n:=λe=>eq_of_beq e;refine eC (λe=>fin (by unfold Ec;rw[aa (.inl (E e))]) λ_ _=>rfl) λT=> ?_;refine eC (λe=>fin (by unfold Ec;rw[aa (.inr (.inl (E e)))]) λ_ _=>rfl) λU=> ?_;refine eC (λe=>fin (by unfold Ec;rw[aa (.inr (.inr (E e)))]) λ_ _=>rfl) λV=> ?_;have no: ¬((mkK K a).aP=1\/(mkK K a).aP=2\/(mkK K a).aP=6):=by
  intro q;rcases q with q|q|q
  ·exact D T q
  ·exact D U q
  ·exact D V q
 refine eC (λe=>fin (by unfold Ec;rw[ab no,aa (E e)]) λ_ _=>rfl) λO=> ?_;refine eC (λe=> ?_) λX=>fin (by unfold Ec;rw[ab no,ab (D O),ab (D X)]) λ_ _=>rfl;refine eT (inM (f:=Ah) (l:=K.aA) (i:=(mkK K a).aU) G.1 G.2.1) ?_;have Y:nth [] (K.aA.map Ah) (gA (Aw (mkK K a)) 2).toNat=Ah (itK K (mkK K a).aU):=J7 G.1 G.2.1;rw[Y];have J:Ec K c a=((itK K (mkK K a).aU).aP==11||(itK K (mkK K a).aU).aP==12):=by unfold Ec;rw[ab no,ab (D O),aa (E e)]
 refine eC (λk=>fin (by rw[J,show((itK K (mkK K a).aU).aP==11)=true from k];rfl) λ_ _=>rfl) λk=>fin (by rw[J,show((itK K (mkK K a).aU).aP==11)=false from k];rfl) λ_ _=>rfl
theorem Zxm {c:Cv} (h:KOK K) (D:0<=a) (E:a<K.p.aD.length):Qj (I a::Ab K c)=some (I (Cl K c a).1::Ab K (Cl K c a).2):=
 Z3b h D E λ_=>Qbm h D E
def Bx (c:Cv):Cv:=if c.g0=0 then{c with o2:=true,g0:=1,g1:=18,g2:= -1}else c
theorem XK (K:Kf) (c:Cv):Hm (Ab K c)=some (Ab K (Bx c)):=Zw6 K c
def Oy (c:Cv):Int:=one La [I c.before,I c.s0]
theorem Z8j (c:Cv):La [I c.before,I c.s0]=some [I (Oy c)]:=by
 have key:∃v,La [I c.before,I c.s0]=some [I v]:=by
  have e:La [I c.before,I c.s0]=Qki KB [I c.before,I c.s0]:=rfl;have h:∀a,(KB [I a,I 1048576]).isSome=true:=λa=>Zq3 (by omega);rw[e,Z3p];generalize KB=M at*;have E:∀a,∃o,M [I a,I 1048576]=some o:=λa=>Option.isSome_iff_exists.1 (h a);cases(c.s0== -1)
  ·obtain⟨o,D⟩:=E (V (0-c.before));exact⟨_,eB D rfl⟩
  ·obtain⟨o,D⟩:=E c.before;exact⟨_,eB D rfl⟩
 obtain⟨v,h⟩:=key;exact Qmv h
def goC (K:Kf) (c:Cv) (g:Sgm):Cv:={c with y0:=g.aU,y1:=Ay K c,y2:=c.s3,e0:=1,e1:=c.m0,e2:=Oy c,e3:=0}
def Er (K:Kf) (c:Cv) (g:Sgm):Bool:=(itK K g.aU).aP==6||(c.s1 !=0&& !decide (V (V (c.s3-Oy c)*c.s0)<0))
theorem Zsm {c:Cv} {s:Sgm} (E:0<=s.aU) (G:s.aU<K.aA.length) (L:Z [I c.before,I c.s0]=some [I (Oy c)]) (J:M (Ab K c)=some [I (Ay K c)]):
  Qnm M Z (I s.to.x::I s.to.y::I s.to.z::I s.len::I s.aU::I s.aZ::I s.aX::Ab K c)=some (B (Er K c s)::Ab K (if Er K c s=true then goC K c s else c)):=by
 rw[Zz5];refine eB L (eT (inM (f:=Ah) E G) ?_);rw[J7 E G];refine eC (λe=> ?_) λe=> ?_
 ·have e:(itK K s.aU).aP≠6:=by simpa [gA,nth,Af]using e
  refine eC (λa=> ?_) λa=>eC (λb=> ?_) λb=> ?_
  ·have D:Er K c s=false:=by unfold Er;rw[beF e,bnF (eq_of_beq a)];rfl
   rw[D];rfl
  ·have D:Er K c s=false:=by unfold Er;rw[beF e,show decide (V (V (c.s3-Oy c)*c.s0)<0)=true from b];simp
   rw[D];rfl
  ·have D:Er K c s=true:=by
    unfold Er;rw[show decide (V (V (c.s3-Oy c)*c.s0)<0)=false from b];simp only[bne,a];simp
   rw[D];exact eB J rfl
 ·have e:(itK K s.aU).aP=6:=by simpa [gA,nth,Af]using e
  have D:Er K c s=true:=by unfold Er;rw[beT e];rfl
  rw[D];exact eB J rfl
theorem Z0i {c:Cv} {s:Sgm} (h:KOK K) (D:0<=s.aU) (E:s.aU<K.aA.length):
  Rk (I s.to.x::I s.to.y::I s.to.z::I s.len::I s.aU::I s.aZ::I s.aX::Ab K c)=some (B (Er K c s)::Ab K (if Er K c s=true then goC K c s else c)):=
 Zsm D E (Z8j c) (NA h c)
def Qqi (aX way:Int):Int:=one KW [I aX,I way]
theorem Znu (D:i64 a) (hb:i64 b):KW [I a,I b]=some [I (Qqi a b)]:=by
 have key:∃v,KW [I a,I b]=some [I v]:=by
  have e:KW [I a,I b]=Y4 BO [I a,I b]:=rfl;have h:=Qli (show i64 4096 by unfold i64;omega) hb D 0;rw[e,Zl2];generalize BO=M at*;obtain⟨o,E⟩:=Option.isSome_iff_exists.1 h;exact⟨_,eB E rfl⟩
 obtain⟨v,h⟩:=key;exact Qmv h
def Qyd (K:Kf) (d:Cv) (g:Sgm):Int:=V (d.y2+V (V ((if(itK K g.aU).n=3 then 1 else-1)*Qqi g.aX (V (Ay K d-d.y1)))*256))
def RN (K:Kf) (c:Cv) (l:Int) (g:Sgm):Cv:={Cy K c l with s3:=Qyd K (Cy K c l) g}
theorem Zqe {c:Cv} {s:Sgm} (D:0<=s.aU) (E:s.aU<K.aA.length)
  (G:∀v,i64 v->M [I s.aX,I v]=some [I (Qqi s.aX v)]) (J:∀c,Z (Ab K c)=some [I (Ay K c)]) (L:W (I a::Ab K c)=some (Ab K (Cy K c a))):
  Qq2 M Z W (I a::I s.to.x::I s.to.y::I s.to.z::I s.len::I s.aU::I s.aZ::I s.aX::Ab K c)=some (Ab K (RN K c a s)):=by
 rw[Zg6];unfold RN;generalize Cy K c a=d at*;refine eB L (eT (inM (f:=Ah) D E) ?_);show cond (gA (nth [] (K.aA.map Ah) s.aU.toNat) 19==3) _ _=_;rw[J7 D E];unfold Qyd;refine eC (λe=> ?_) λe=> ?_
 ·rw[aa (show(itK K s.aU).n=3 from eq_of_beq e)];exact eB (J d) (eB (G _ (Vz _)) rfl)
 ·rw[ab (show(itK K s.aU).n≠3 by simpa [gA,nth,Af]using e)];exact eB (J d) (eB (G _ (Vz _)) rfl)
theorem Qxy {c:Cv} {n:Int} (h:KOK K) (g:Gd K n c) (G:0<=n/\n<=10000) (l:Int) {s:Sgm} (D:0<=s.aU/\s.aU<K.aA.length/\i64 s.aX):
  Rg (I l::I s.to.x::I s.to.y::I s.to.z::I s.len::I s.aU::I s.aZ::I s.aX::Ab K c)=some (Ab K (RN K c l s)):=
 Zqe D.1 D.2.1 (λv E=>Znu D.2.2 E) (NA h) (Qg5 h g l)
def thL (K:Kf) (c:Cv) (l aX:Int):List AC:=pxt K.p K.x K.t [I K.pa,I K.pb,I K.pc,I c.o0,I c.o1,B c.o2,B c.o3,B c.o4,I c.m0,I c.m1,I c.m2,I c.m3,I c.m4,I c.m5,I l,I aX,I c.e0,I c.e1,I c.e2,I c.e3,I c.before,I c.s3]
def thO (K:Kf) (c:Cv) (l aX:Int):List AC:=(G8 (thL K c l aX)).getD []
def GG (c:Cv) (o:List AC):Cv:={Vc c (gA o 1)with e0:=gA o 6,e1:=gA o 7,e2:=gA o 8,e3:=gA o 9}
def Gb (K:Kf) (c:Cv) (l aX:Int):Cv:=
 if c.g0≠0 then{Cy K c l with e0:=3}else if gA (thO K c l aX) 10≠0 then Bx (GG c (thO K c l aX))else GG c (thO K c l aX)
theorem Qr2 {c:Cv} {n:Int} (h:KOK K) (g:Gd K n c) (l:Int) {aX:Int} (E:i64 aX):
  G8 (thL K c l aX)=some (thO K c l aX)/\∃v s b z y e:Int,thO K c l aX=DK c.m0 c.m1 c.m3 c.m4 v++[I s,I b,I z,I y,I e]/\((AJ K.pa K.pb v (V (v-c.m1))).2=true\/∃r:Int,v=V (c.m1+r)/\r=AH K.pa K.pb c.m1 c.m2):=by
 obtain⟨o,D,v,s,b,z,y,e,rfl,G⟩:=Zzo h g.mo l E;have D:G8 (thL K c l aX)=some (DK c.m0 c.m1 c.m3 c.m4 v++[I s,I b,I z,I y,I e]):=D;have e2:thO K c l aX=DK c.m0 c.m1 c.m3 c.m4 v++[I s,I b,I z,I y,I e]:=by unfold thO;rw[D];rfl
 rw[e2];exact⟨D,v,s,b,z,y,e,rfl,G⟩
theorem Zvb {c:Cv} {s:Sgm} (G:∀c,M (Ab K c)=some (Ab K (Bx c)))
  (J:Z (thL K c a s.aX)=some (thO K c a s.aX)) (L:∃v D b z y e:Int,thO K c a s.aX=DK c.m0 c.m1 c.m3 c.m4 v++[I D,I b,I z,I y,I e]) (N:W (I a::Ab K c)=some (Ab K (Cy K c a))):
  YQ M Z W (I a::I s.to.x::I s.to.y::I s.to.z::I s.len::I s.aU::I s.aZ::I s.aX::Ab K c)=some (Ab K (Gb K c a s.aX)):=by
 rw[Zqa];unfold Gb;refine eC (λe=> ?_) λe=> ?_
 ·rw[aa (show c.g0≠0 by simpa using e)];generalize Cy K c a=d at*;exact eB N rfl
 ·rw[ab (show¬c.g0≠0 by simpa using e)];obtain⟨v,D,b,z,y,E,O⟩:=L;generalize thO K c a s.aX=o at*;subst O;refine eB J ?_;refine eC (λq=> ?_) λq=> ?_
  ·rw[aa (show gA (DK c.m0 c.m1 c.m3 c.m4 v++[I D,I b,I z,I y,I E]) 10≠0 by simpa using q)];refine co (ik (λz=>Option.bind z _) (G (GG c (DK c.m0 c.m1 c.m3 c.m4 v++[I D,I b,I z,I y,I E])))) rfl
  ·rw[ab (show¬gA (DK c.m0 c.m1 c.m3 c.m4 v++[I D,I b,I z,I y,I E]) 10≠0 by simpa using q)];rfl
theorem Qzi {c:Cv} {n:Int} (h:KOK K) (g:Gd K n c) (L:0<=n/\n<=10000) (l:Int) {s:Sgm} (D:i64 s.aX):
  Qo (I l::I s.to.x::I s.to.y::I s.to.z::I s.len::I s.aU::I s.aZ::I s.aX::Ab K c)=some (Ab K (Gb K c l s.aX)):=by
 obtain⟨E,v,G,b,z,y,e,J,-⟩:=Qr2 h g l D;exact Zvb (XK K) E ⟨v,G,b,z,y,e,J⟩ (Qg5 h g l)
def DS (K:Kf) (c:Cv) (l:Int) (g:Sgm):Cv:=if(itK K g.aU).aP=6 then RN K c l g else Gb K c l g.aX
def BB (K:Kf) (c:Cv) (l:Int):Cv:=
 if(vF K c).aX=0\/(c.o2=true/\c.y0≠(vF K c).aU)then Cy K c l
 else if c.y0=(vF K c).aU then DS K c l (vF K c)
 else if Er K c (vF K c)=true then DS K (goC K c (vF K c)) l (vF K c)
 else if c.s1=0 then Bx c else c
theorem Gd.go {n:Int} {c:Cv} (g:Gd K n c) (s:Sgm):Gd K n (goC K c s):=⟨g.way,g.pass,g.task,g.mo,g.m0⟩
theorem Z2i {c:Cv} (E:(vF K c).aX≠0->0<=(vF K c).aU/\(vF K c).aU<K.aA.length)
  (Y:P (Ab K c)=some (Ax (vF K c)++[B (D8 K c).isSome])) (N:S (I u::Ab K c)=some (Ab K (Cy K c u)))
  (G:(vF K c).aX≠0->T (I (vF K c).to.x::I (vF K c).to.y::I (vF K c).to.z::I (vF K c).len::I (vF K c).aU::I (vF K c).aZ::I (vF K c).aX::Ab K c)=some (B (Er K c (vF K c))::Ab K (if Er K c (vF K c)=true then goC K c (vF K c)else c)))
  (hF:W (Ab K c)=some (Ab K (Bx c)))
  (J:(vF K c).aX≠0->∀d,d=c\/d=goC K c (vF K c)->Z (I u::I (vF K c).to.x::I (vF K c).to.y::I (vF K c).to.z::I (vF K c).len::I (vF K c).aU::I (vF K c).aZ::I (vF K c).aX::Ab K d)=some (Ab K (RN K d u (vF K c))))
  (L:(vF K c).aX≠0->∀d,d=c\/d=goC K c (vF K c)->M (I u::I (vF K c).to.x::I (vF K c).to.y::I (vF K c).to.z::I (vF K c).len::I (vF K c).aU::I (vF K c).aZ::I (vF K c).aX::Ab K d)=some (Ab K (Gb K d u (vF K c).aX))):
  Qbt M Z W T S P (I u::Ab K c)=some (Ab K (BB K c u)):=by
 rw[Zki];unfold BB;generalize vF K c=s at*;refine eB Y ?_;refine eC (λe=> ?_) λe=> ?_
 ·rw[aa (.inl (show s.aX=0 from eq_of_beq e))];generalize Cy K c u=d at*;exact eB N rfl
 ·have e:s.aX≠0:=by simpa [gA,nth,Af]using e
  obtain⟨O,U⟩:=E e;have G:=G e;have J:=J e;have L:=L e
  have D:∀{d:Cv} {f1 f2:List AC->List AC},d=c\/d=goC K c s->(∀c,f1 (Ab K c)=Ab K c)->(∀c,f2 (Ab K c)=Ab K c)->
    (bif decide (0<=s.aU)&&decide (s.aU<((K.aA.map Ah).length:Int))then(bif gA (nth [] (K.aA.map Ah) s.aU.toNat) 0==6 then(Z (I u::I s.to.x::I s.to.y::I s.to.z::I s.len::I s.aU::I s.aZ::I s.aX::Ab K d)).bind λo=>some (f1 o)else(M (I u::I s.to.x::I s.to.y::I s.to.z::I s.len::I s.aU::I s.aZ::I s.aX::Ab K d)).bind λo=>some (f2 o))else none)=some (Ab K (DS K d u s)):=λV h1 h2=>by
   refine eT (inM (f:=Ah) O U) ?_;rw[J7 O U];unfold DS;refine eC (λk=> ?_) λk=> ?_
   ·rw[aa (show(itK K s.aU).aP=6 from eq_of_beq k)];exact eB (J _ V) (ik some (h1 _))
   ·rw[ab (show(itK K s.aU).aP≠6 by simpa [gA,nth,Af]using k)];exact eB (L _ V) (ik some (h2 _))
  have X:UE c (Ax s++[B (D8 K c).isSome]) T K W Z u M=some (Ab K (if c.y0=s.aU then DS K c u s else if Er K c s=true then DS K (goC K c s) u s else if c.s1=0 then Bx c else c)):=by
   refine eC (λy=> ?_) λy=> ?_
   ·have y:c.y0≠s.aU:=by simpa [gA,nth,Af]using y
    rw[ab y];refine eB G ?_;cases hm:Er K c s
    ·refine eT rfl ?_;rw[ab (by simp),ab (by simp)];refine eC (λz=> ?_) λz=> ?_
     ·rw[aa (show c.s1=0 from eq_of_beq z)];generalize Bx c=d at*;exact eB hF rfl
     ·rw[ab (show c.s1≠0 by simpa [gA,nth,Af]using z)];rfl
    ·refine eF rfl ?_;rw[aa rfl,aa rfl];have h:=D (d:=goC K c s) (f1:=λo=>cR 0 o) (f2:=λo=>cR 0 o) (.inr rfl) (λ_=>rfl) (λ_=>rfl);generalize goC K c s=d at*;exact h
   ·have y:c.y0=s.aU:=by simpa [gA,nth,Af]using y
    rw[aa y];exact D (f1:=λo=>cR 0 o) (f2:=λo=>cR 0 o) (.inl rfl) (λ_=>rfl) (λ_=>rfl)
  refine eC (λa=>eC (λb=> ?_) λb=> ?_) λa=> ?_
  ·have b:c.y0≠s.aU:=by simpa [gA,nth,Af]using b
   rw[aa (.inr ⟨a,b⟩)];generalize Cy K c u=d at*;exact eB N rfl
  ·have b:c.y0=s.aU:=by simpa [gA,nth,Af]using b
   rw[ab (λq=>by rcases q with q|q;exact e q;exact q.2 b)];exact X
  ·rw[ab (λq=>by rcases q with q|q;exact e q;rw[a]at q;cases q.1)];exact X
theorem Zl9 {c:Cv} {n:Int} (h:KOK K) (g:Gd K n c) (D:0<=n/\n<=10000) (l:Int):Qt (I l::Ab K c)=some (Ab K (BB K c l)):=
 Z2i (λe=>⟨(FG h e).1,(FG h e).2.1⟩) (VK h c) (Qg5 h g l) (λe=>Z0i h (FG h e).1 (FG h e).2.1) (XK K c)
  (λe d E=>by rcases E with rfl|rfl;exact Qxy h g D l (FG h e);exact Qxy h (g.go _) D l (FG h e))
  (λe d E=>by rcases E with rfl|rfl;exact Qzi h g D l (FG h e).2.2;exact Qzi h (g.go _) D l (FG h e).2.2)
def CM (K:Kf) (c:Cv):Int×Cv:=
 if c.aM=true/\c.m0=V ((AG K c).1*256)then
  (if 0 <= (AG K c).2 then
   (if(mkK K (AG K c).2).aU=(Cl K c (AG K c).2).2.y0/\(itK K (mkK K (AG K c).2).aU).aP=5/\(Cl K c (AG K c).2).2.e0=1 then((Cl K c (AG K c).2).1,Bx (Cl K c (AG K c).2).2)else Cl K c (AG K c).2)
  else if K.closed=true then(7,{c with aI:=7})else(1,c))
 else(if c.g0≠0/\c.aM=true then 6 else 1,BB K c (AG K c).1)
theorem Ycn {c:Cv} (h:KOK K) (J:(AG K c).2= -1\/0<=(AG K c).2/\c.next<=(AG K c).2/\(AG K c).2<K.p.aD.length)
  (hL:T (Ab K c)=some (I (AG K c).1::I (AG K c).2::Ab K c)) (X:0<=(AG K c).2->(AG K c).2<K.p.aD.length->W (I (AG K c).2::Ab K c)=some (I (Cl K c (AG K c).2).1::Ab K (Cl K c (AG K c).2).2))
  (hF:∀c,Z (Ab K c)=some (Ab K (Bx c))) (L:M (I (AG K c).1::Ab K c)=some (Ab K (BB K c (AG K c).1))):
  YV M Z W T (Ab K c)=some (I (CM K c).1::Ab K (CM K c).2):=by
 rw[Z11];unfold CM;generalize BB K c (AG K c).1=mv at*;have a0:=X;generalize hb:Cl K c (AG K c).2=E at*;clear hb;generalize AG K c=D at*;refine eB hL ?_;have G:∀{a:Prop} [Decidable a],¬(c.aM=true/\c.m0=V (D.1*256))->∀{x:Option (List AC)},x=some (I (if c.g0≠0/\c.aM=true then 6 else 1)::Ab K mv)->
   x=some (I (if c.aM=true/\c.m0=V (D.1*256)then(if 0<=D.2 then(if(mkK K D.2).aU=E.2.y0/\(itK K (mkK K D.2).aU).aP=5/\E.2.e0=1 then(E.1,Bx E.2)else E)else if K.closed=true then(7,{c with aI:=7})else(1,c))else(if c.g0≠0/\c.aM=true then 6 else 1,mv)).1::Ab K (if c.aM=true/\c.m0=V (D.1*256)then(if 0<=D.2 then(if(mkK K D.2).aU=E.2.y0/\(itK K (mkK K D.2).aU).aP=5/\E.2.e0=1 then(E.1,Bx E.2)else E)else if K.closed=true then(7,{c with aI:=7})else(1,c))else(if c.g0≠0/\c.aM=true then 6 else 1,mv)).2):=λhn _ hx=>by
  rw[ab hn];exact hx
 refine eC (λs=>eC (λe=> ?_) λe=> ?_) λs=> ?_
 ·have s:c.aM=true:=s;have e:c.m0=V (D.1*256):=eq_of_beq e;rw[aa ⟨s,e⟩];refine eC (λk=> ?_) λk=> ?_
  ·have k:0<=D.2:=A0 k;rw[aa k];have N:D.2<K.p.aD.length:=by
    rcases J with J|J
    ·omega
    ·exact J.2.2
   have O:=VA h k N;refine eB (X k N) (eT (inM (f:=Aw) k N) ?_);have S:nth [] (K.p.aD.map Aw) D.2.toNat=Aw (mkK K D.2):=Ol k N;have U:nth [] (K.aA.map Ah) (mkK K D.2).aU.toNat=Ah (itK K (mkK K D.2).aU):=J7 O.1 O.2.1;refine eC (λy=> ?_) λy=> ?_
   ·have y:(mkK K D.2).aU=E.2.y0:=by
     have:=eq_of_beq (show(gA (nth [] (K.p.aD.map Aw) D.2.toNat) 2==E.2.y0)=true from y);rw[S]at this;exact this
    refine eT (show(decide (0<=gA (nth [] (K.p.aD.map Aw) D.2.toNat) 2)&&decide (gA (nth [] (K.p.aD.map Aw) D.2.toNat) 2<((K.aA.map Ah).length:Int)))=true by rw[S];exact inM (f:=Ah) (l:=K.aA) (i:=(mkK K D.2).aU) O.1 O.2.1) ?_;have Y:gA (nth [] (K.aA.map Ah) (gA (nth [] (K.p.aD.map Aw) D.2.toNat) 2).toNat) 0=(itK K (mkK K D.2).aU).aP:=by
     rw[S];show gA (nth [] (K.aA.map Ah) (mkK K D.2).aU.toNat) 0=_;rw[U];rfl
    refine eC (λq=> ?_) λq=> ?_
    ·have q:(itK K (mkK K D.2).aU).aP=5:=by rw[<-Y];exact eq_of_beq q
     refine eC (λz=> ?_) λz=> ?_
     ·have z:E.2.e0=1:=eq_of_beq z;rw[aa ⟨y,q,z⟩];exact eB (hF E.2) rfl
     ·have z:E.2.e0≠1:=λe=>by have:(E.2.e0==1)=false:=z;rw[beT e]at this;cases this
      rw[ab (λw=>z w.2.2)];rfl
    ·have q:(itK K (mkK K D.2).aU).aP≠5:=λe=>by
      have:(gA (nth [] (K.aA.map Ah) (gA (nth [] (K.p.aD.map Aw) D.2.toNat) 2).toNat) 0==5)=false:=q;rw[Y,beT e]at this;cases this
     rw[ab (λw=>q w.2.1)];rfl
   ·have y:(mkK K D.2).aU≠E.2.y0:=λe=>by
     have:(gA (nth [] (K.p.aD.map Aw) D.2.toNat) 2==E.2.y0)=false:=y;rw[S]at this;rw[show(gA (Aw (mkK K D.2)) 2==E.2.y0)=true from beT e]at this;cases this
    rw[ab (λw=>y w.1)];rfl
  ·have k: ¬0<=D.2:=AU k;rw[ab k];refine eC (λq=> ?_) λq=> ?_
   ·rw[aa (show K.closed=true from q)];rfl
   ·rw[ab (show¬K.closed=true by rw[show K.closed=false from q];simp)];rfl
 ·have e:c.m0≠V (D.1*256):=λe'=>by
   have:(c.m0==V (D.1*256))=false:=e;rw[beT e']at this;cases this
  refine G (a:=True) (λw=>e w.2) ?_;refine eC (λq=> ?_) λq=> ?_
  ·have q:c.g0≠0:=λe=>by
    have:(c.g0 !=0)=true:=q;rw[bnF e]at this;cases this
   refine eB L (eT (show c.aM=true from s) ?_);rw[aa ⟨q,show c.aM=true from s⟩];rfl
  ·have q:c.g0=0:=bp λe=>by
    have:(c.g0 !=0)=false:=q;rw[bnT e]at this;cases this
   refine eB L ?_;rw[ab (λw=>w.1 q)];rfl
 ·have s:c.aM=false:=s;refine G (a:=True) (λw=>by rw[s]at w;cases w.1) ?_;refine eC (λq=> ?_) λq=> ?_
  ·refine eB L (eF (show c.aM=false from s) ?_);rw[ab (λw=>by rw[s]at w;cases w.2)];rfl
  ·refine eB L ?_;rw[ab (λw=>by rw[s]at w;cases w.2)];rfl
theorem Zdk {c:Cv} {n:Int} (h:KOK K) (g:Gd K n c) (D:0<=n/\n<=10000):Kw (Ab K c)=some (I (CM K c).1::Ab K (CM K c).2):=
 Ycn h (Qwr K c) (Zxy h c) (λE G=>Zxm h E G) (XK K) (Zl9 h g D _)
def swI (s:Int) (it:Itm):Int:=one Le (I s::Ah it)
theorem Zzv (s:Int) (it:Itm):Le (I s::Ah it)=some [I (swI s it)]:=by
 have key:∃v,Le (I s::Ah it)=some [I v]:=by
  show∃v,Qn7 (I s::Ah it)=some [I v];rw[Ybp];by_cases D:it.aP=10
  ·rw[BG (bnF D)];by_cases E:it.n<0
   ·rw[BX (al E)];exact⟨_,rfl⟩
   ·rw[BG (am E)];by_cases G:it.n>=16
    ·rw[BX (al G)];exact⟨_,rfl⟩
    ·rw[BG (am G),BG (am (by simp[V,IntKind.wrap,IntKind.signed,IntKind.bits];omega))];cases it.on<;>exact⟨_,rfl⟩
  ·rw[BX (bnT D)];exact⟨_,rfl⟩
 obtain⟨v,h⟩:=key;exact Qmv h
def E0 (K:Kf) (s:Int):List Mrk->Cv->List Int×Cv
 |[],c=>([],c)
 |m::l,c=>if m.at_>s\/(m.at_=s/\c.next<=c.aK/\Cc m.aP c=true)then([],c)
  else if m.aP=5 then(m.aU::(E0 K s l {c with outs:=swI c.outs (itK K m.aU),aK:=c.aK+1}).1,(E0 K s l {c with outs:=swI c.outs (itK K m.aU),aK:=c.aK+1}).2)
  else E0 K s l {c with aK:=c.aK+1}
def BU (K:Kf) (c:Cv) (s:Int):List Int×Cv:=E0 K s (K.p.aD.drop c.aK.toNat) c
theorem Z7q {c:Cv} (h:KOK K) (S:0<=c.aK/\c.aK<=K.p.aD.length) (s:Int)
  (U:∀(c:Cv) (at_ k it:Int),Z [I at_,I k,I it,I c.o0,I c.o1,B c.o2,B c.o3,B c.o4]=some [B (Cc k c)]) (X:∀(s:Int) (it:Itm),M (I s::Ah it)=some [I (swI s it)]):
  Qr0 M Z (Am (ST M Z)) (I s::Ab K c)=some (.vC Aa ((BU K c s).1.map Ai)::Ab K (BU K c s).2):=by
 rw[Ych];have key:Out (λo=>o=(1, .vC Aa ((BU K c s).1.map Ai)::Ab K (BU K c s).2)) (Am (ST M Z) (.vC Aa (([]:List Int).map Ai)::I s::Ab K c)):=by
  have hc:=h.count;refine BZ (λz:List Int×Cv=> .vC Aa (z.1.map Ai)::I s::Ab K z.2)
   (λz=>0<=z.2.aK/\z.2.aK<=K.p.aD.length/\(z.1.length:Int)<=z.2.aK/\(BU K c s).1=z.1++(E0 K s (K.p.aD.drop z.2.aK.toNat) z.2).1/\(BU K c s).2=(E0 K s (K.p.aD.drop z.2.aK.toNat) z.2).2)
   (λz=>(K.p.aD.length-z.2.aK).toNat) _ ?_ ([],c) ⟨S.1,S.2,by simp;omega,rfl,rfl⟩
  rintro⟨l,d⟩ ⟨g1,g2,Y,E,G⟩;dsimp only at g1 g2 Y E G;refine Out.eqv (Zrr M Z _ _ K d) ?_;refine .cond (λk=> ?_) λk=> ?_
  ·have k:d.aK<((K.p.aD.map Aw).length:Int):=A0 k;rw[ac]at k;have T:d.aK.toNat<K.p.aD.length:=by omega
   have em:mkK K d.aK=K.p.aD[d.aK.toNat]:=by unfold mkK;rw[List.getD,ag T];rfl
   have J:=VA h g1 k;rw[jj T,<-em]at E G;unfold E0 at E G;refine .cond (λ_=> ?_) λe=>(inB g1 (by rw[ac];exact k) e).elim;rw[Ol g1 k];generalize N:mkK K d.aK=m at*;have wp:V (d.aK+1)=d.aK+1:=Ae;have L:(d.aK+1).toNat=d.aK.toNat+1:=by omega
   have stop:(m.at_>s\/(m.at_=s/\d.next<=d.aK/\Cc m.aP d=true))->∀{x:List AC},x= .vC Aa (l.map Ai)::Ab K d->Out (λo:Nat×List AC=>(o.1=0/\∃D:List Int×Cv,o.2= .vC Aa (D.1.map Ai)::I s::Ab K D.2/\(0<=D.2.aK/\D.2.aK<=K.p.aD.length/\(D.1.length:Int)<=D.2.aK/\(BU K c s).1=D.1++(E0 K s (K.p.aD.drop D.2.aK.toNat) D.2).1/\(BU K c s).2=(E0 K s (K.p.aD.drop D.2.aK.toNat) D.2).2)/\(K.p.aD.length-D.2.aK).toNat<(K.p.aD.length-d.aK).toNat)\/(o.1≠0/\o=(1, .vC Aa ((BU K c s).1.map Ai)::Ab K (BU K c s).2))) (some (1,x)):=λO _ hx=>by
    rw[aa O]at E G;subst hx;refine .some (.inr ⟨by simp,?_⟩);rw[E,G,jv]
   have go: ¬(m.at_>s\/(m.at_=s/\d.next<=d.aK/\Cc m.aP d=true))->Out (λo:Nat×List AC=>(o.1=0/\∃D:List Int×Cv,o.2= .vC Aa (D.1.map Ai)::I s::Ab K D.2/\(0<=D.2.aK/\D.2.aK<=K.p.aD.length/\(D.1.length:Int)<=D.2.aK/\(BU K c s).1=D.1++(E0 K s (K.p.aD.drop D.2.aK.toNat) D.2).1/\(BU K c s).2=(E0 K s (K.p.aD.drop D.2.aK.toNat) D.2).2)/\(K.p.aD.length-D.2.aK).toNat<(K.p.aD.length-d.aK).toNat)\/(o.1≠0/\o=(1, .vC Aa ((BU K c s).1.map Ai)::Ab K (BU K c s).2))) (PW K d (l.map Ai) M s):=λO=>by
    rw[ab O]at E G;unfold PW;rw[Ol g1 k,N,wp];refine .cond (λq=> ?_) λq=> ?_
    ·have q:m.aP=5:=eq_of_beq q;rw[aa q]at E G;refine .cond (λ_=> ?_) λe=>by rw[BM (by simp;omega)]at e;cases e
     refine .cond (λ_=> ?_) λe=>(inB (show 0<=gA (Aw m) 2 from J.1) (show gA (Aw m) 2<((K.aA.map Ah).length:Int) by rw[ac];exact J.2.1) e).elim;rw[show nth [] (K.aA.map Ah) (gA (Aw m) 2).toNat=Ah (itK K m.aU)from J7 J.1 J.2.1];refine .bind (p:=λo=>o=_) ⟨_,X d.outs (itK K m.aU),rfl⟩ λo e=> ?_;subst e;refine .some (.inl ⟨rfl,(l++[m.aU],{d with outs:=swI d.outs (itK K m.aU),aK:=d.aK+1}),?_,⟨by dsimp only;omega,by dsimp only;omega,by simp;omega,?_,?_⟩,by dsimp only;omega⟩)
     ·rw[bn];rfl
     ·dsimp only;rw[E,L];simp
     ·dsimp only;rw[G,L]
    ·have q:m.aP≠5:=by simpa [gA,nth,Af]using q
     rw[ab q]at E G;refine .some (.inl ⟨rfl,(l,{d with aK:=d.aK+1}),rfl,⟨by dsimp only;omega,by dsimp only;omega,by dsimp only;omega,?_,?_⟩,by dsimp only;omega⟩)
     ·dsimp only;rw[E,L]
     ·dsimp only;rw[G,L]
   refine .cond (λa=>stop (.inl (A0 a)) rfl) λa=> ?_;have a: ¬m.at_>s:=AU a;refine .cond (λb=> .cond (λe=> ?_) λe=>go λw=> ?_) λb=>go λw=> ?_
   ·refine .bind (p:=λo=>o=_) ⟨_,U d _ _ _,rfl⟩ λo q=> ?_;subst q;refine .cond (λq=>stop (.inr ⟨eq_of_beq b,A0 e,q⟩) rfl) λq=>go λw=> ?_;have q:Cc m.aP d=false:=q;rcases w with w|w
    ·exact a w
    ·rw[q]at w;cases w.2.2
   ·rcases w with w|w
    ·exact a w
    ·exact AU e w.2.1
   ·rcases w with w|w
    ·exact a w
    ·have:(m.at_==s)=false:=b;rw[beT w.1]at this;cases this
  ·have k: ¬d.aK<((K.p.aD.map Aw).length:Int):=AU k;rw[ac]at k;rw[d9 (by omega)]at E G;refine .some (.inr ⟨by simp,?_⟩);rw[E,G];simp[E0]
 obtain⟨o,h1,rfl⟩:=key;exact eB h1 rfl
theorem Qz5 {c:Cv} (h:KOK K) (D:0<=c.aK/\c.aK<=K.p.aD.length) (s:Int):NY (I s::Ab K c)=some (.vC Aa ((BU K c s).1.map Ai)::Ab K (BU K c s).2):=
 Z7q h D s (λc at_ k it=>Qyh at_ k it c) Zzv
def Bk (K:Kf) (c:Cv):Int×Cv:=
 if c.g0=2 then(6,stand c)else if c.aI≠0 then(c.aI,c)
 else if c.aH=true/\c.aM=true then(8,{c with aI:=8})else if c.on=true then A3 K c else(0,c)
theorem Zqj (K:Kf) (c:Cv):(FL K c).1≠0:=by
 unfold FL
 (repeat' split)<;>simp
theorem Zca (K:Kf) (c:Cv):(A3 K c).1≠0:=Zqj K (BT c)
abbrev CT (K:Kf) (frm i:Int) (c:Cv):List AC:=I frm::I 5::I i::(Ci++(Ci++Ab K c))
abbrev LZ (K:Kf) (frm mode:Int) (c:Cv):List AC:=I frm::(Ci++([.vC kPt [], .vC Aa [],I mode,I 0,I 0,I 0,I 0,I 0,I 0]++Ab K c))
theorem Yb8 {L M D E G J MU O S T U X:Fn} {c:Cv} (frm:Int)
  (Y:MU (Ab K c)=some (if c.g0=2 then I 6::B true::Ab K (stand c)else I 0::B false::Ab K c))
  (hO:J (Ab K c)=some (I c.aI::B (c.aI !=0)::Ab K c))
  (hP:G (Ab K c)=some (if c.aH=true/\c.aM=true then I 8::B true::Ab K {c with aI:=8}else I 0::B false::Ab K c))
  (hB:E (Ab K c)=some (if c.on=true then I (A3 K c).1::B true::Ab K (A3 K c).2 else I 0::B false::Ab K c))
  (hG:D (Ab K c)=some (I 0::B false::Ab K c)):
  Am (Fl L M D E G J MU O S T U X N) (CT K frm 0 c)=some (1,LZ K frm (Bk K c).1 (Bk K c).2):=by
 have w:∀i:Int,0<=i->i<5->V (i+1)=i+1:=λi _ _=>Ae;have e:=λi=>Q9k L M D E G J MU O S T U X N frm 5 i [] [] 0 0 0 0 0 0 0 [] [] 0 0 0 0 0 0 0 K c;have s0:c.g0≠2->Fl L M D E G J MU O S T U X N (CT K frm 0 c)=some (0,CT K frm 1 c):=λh=>by
  refine co (e 0) (eT rfl (eT rfl (eB Y ?_)));rw[ab h];rfl
 have s1:c.aI=0->Fl L M D E G J MU O S T U X N (CT K frm 1 c)=some (0,CT K frm 2 c):=λh=>by
  refine co (e 1) (eT rfl (eF rfl (eT rfl (eB hO ?_))));rw[h];rfl
 have s2: ¬(c.aH=true/\c.aM=true)->Fl L M D E G J MU O S T U X N (CT K frm 2 c)=some (0,CT K frm 3 c):=λh=>by
  refine co (e 2) (eT rfl (eF rfl (eF rfl (eT rfl (eB hP ?_)))));rw[ab h];rfl
 have s3:c.on=false->Fl L M D E G J MU O S T U X N (CT K frm 3 c)=some (0,CT K frm 4 c):=λh=>by
  refine co (e 3) (eT rfl (eF rfl (eF rfl (eF rfl (eT rfl (eB hB ?_))))));rw[ab (by rw[h];simp)];rfl
 have s4:Fl L M D E G J MU O S T U X N (CT K frm 4 c)=some (0,CT K frm 5 c):=by
  refine co (e 4) (eT rfl (eF rfl (eF rfl (eF rfl (eF rfl (eT rfl (eB hG ?_)))))));rfl
 have s5:Fl L M D E G J MU O S T U X N (CT K frm 5 c)=some (1,LZ K frm 0 c):=by
  exact co (e 5) (eF rfl rfl)
 unfold Bk;by_cases h:c.g0=2
 ·rw[aa h];refine Bg (co (e 0) (eT rfl (eT rfl (eB Y ?_)))) (by simp);rw[aa h];rfl
 rw[ab h,BE (s0 h)];by_cases h:c.aI=0
 ·rw[ab (by simpa using h),BE (s1 h)];by_cases h:c.aH=true/\c.aM=true
  ·rw[aa h];refine Bg (co (e 2) (eT rfl (eF rfl (eF rfl (eT rfl (eB hP ?_)))))) (by simp);rw[aa h];rfl
  ·rw[ab h,BE (s2 h)];cases h:c.on
   ·rw[ab (by simp),BE (s3 h),BE s4];exact Bg s5 (by simp)
   ·rw[aa rfl];refine Bg (co (e 3) (eT rfl (eF rfl (eF rfl (eF rfl (eT rfl (eB hB ?_))))))) (by simp);rw[aa h];generalize A3 K c=wk;rfl
 ·rw[aa h];refine Bg (co (e 1) (eT rfl (eF rfl (eT rfl (eB hO ?_))))) (by simp);rw[bnT h];rfl
theorem Z9f {c:Cv} {n:Int} (h:KOK K) (g:Gd K n c):K6 (Ab K c)=some (if c.on=true then I (A3 K c).1::B true::Ab K (A3 K c).2 else I 0::B false::Ab K c):=by
 have key:∀{M:Fn},(c.on=true->M (Ab K c)=some (I (A3 K c).1::Ab K (A3 K c).2))->VM M (Ab K c)=some (if c.on=true then I (A3 K c).1::B true::Ab K (A3 K c).2 else I 0::B false::Ab K c):=by
  intro M D;rw[Q2v];cases e:c.on
  ·rw[ab (by simp)];rfl
  ·rw[aa rfl];have D:=D e;generalize A3 K c=E at*;exact eB D rfl
 exact key λe=>Qbm h (g.task e).1 (g.task e).2
abbrev Fs (c:Cv):Cv:={c with aJ:=false,aL:=false}
def D5 (c:Cv) (E:List Evn):Cv:=E.foldl (λc e=>evC c e.aP e.n) (Fs c)
def Qds (E:List Evn):Prop:=E.length<=1000000/\∀e∈E,e.aP≠7/\e.aP≠12/\e.aP≠13
theorem Zho {L M D N O S MU T U V X G:Fn} {c:Cv} {E:List Evn} (Y:Qds E)
  (hV:∀(c:Cv) (x:Int) {k:Int} (n:Int),k≠7/\k≠12/\k≠13->G (I x::I k::I n::Ab K c)=some (Ab K (evC c k n))):
  Am (NS L M D N O S MU T U V X G) (.vC kPt (E.map evR)::I (E.map evR).length::I 0::(Ci++Ab K (Fs c)))=some (1,Ci++Ab K (D5 c E)):=by
 have key:Out (λo=>o=(1,Ci++Ab K (D5 c E))) (Am (NS L M D N O S MU T U V X G) (.vC kPt (E.map evR)::I (E.map evR).length::I ((0:Nat):Int)::(Ci++Ab K (D5 c (E.take 0))))):=by
  refine BZ (λi:Nat=> .vC kPt (E.map evR)::I (E.map evR).length::I (i:Int)::(Ci++Ab K (D5 c (E.take i)))) (λi=>i<=E.length) (λi=>E.length-i) _ ?_ 0 (by simp);intro i J;have hl:=Y.1;refine Out.eqv (Q1s L M D N O S MU T U V X G (E.map evR) (E.map evR).length i [] [] 0 0 0 0 0 0 0 K (D5 c (E.take i))) ?_;refine .cond (λk=> ?_) λk=> ?_
  ·have k:(i:Int)<((E.map evR).length:Int):=A0 k;have J:i<E.length:=by rw[ac]at k;omega
   refine .cond (λ_=> ?_) λe=>(inB (by omega) k e).elim;rw[Qho E J];refine .bind (p:=λo=>o=_) ⟨_,hV (D5 c (E.take i)) E[i].cycle E[i].n (Y.2 _ (bf J)),rfl⟩ λo e=> ?_;subst e;have e1:D5 c (E.take (i+1))=evC (D5 c (E.take i)) E[i].aP E[i].n:=by
    unfold D5;rw[fo,ag J,ky];rfl
   rw[Ae (x:=(i:Int)+1)];refine .some (.inl ⟨rfl,i+1,?_,by omega,by omega⟩);rw[e1];have st:∀d:Cv,Ci++cR 0 (Ab K d)=Ci++Ab K d:=λ_=>rfl;exact ik (λz=>AC.vC kPt (E.map evR)::I (E.map evR).length::I ((i:Int)+1)::z) (st (evC (D5 c (E.take i)) E[i].aP E[i].n))
  ·have k: ¬(i:Int)<((E.map evR).length:Int):=AU k;rw[ac]at k;rw[ip (by omega)];generalize D5 c E=d;exact .some (.inr ⟨by simp,rfl⟩)
 obtain⟨o,h1,rfl⟩:=key;exact h1
def Nu (K:Kf) (frm u:Int):Rw:=wA ((Kx (pxt K.p K.x K.t [I frm,I u])).getD []) 0
theorem Q9z (h:KOK K) (frm u:Int) (D:u-frm<=1000000000000):Out (λo=>wA o 0=Nu K frm u) (Kx (pxt K.p K.x K.t [I frm,I u])):=
 ⟨_,Qhu (Ya7 h.f frm u D),rfl⟩
abbrev D0 (K:Kf) (c:Cv):Pt:=Co K.p K.x K.t (AB c)
theorem Ybv {D E G J MU:Fn} {c:Cv} (N:c.way=0) (O:c.aL=false) {frm mode:Int}
  (S:MU (Ab K c)=some [I (AB c)]) (T:J (Ab K c)=some [I (Ay K c)]) (L:Out (λo=>wA o 0=Nu K frm (AB c)) (G (pxt K.p K.x K.t [I frm,I (AB c)])))
  (M:∀s,E (I s::Ab K c)=some (.vC Aa ((BU K c s).1.map Ai)::Ab K (BU K c s).2)) (U:∀s,∃n q:Int,(BU K c s).2={c with aK:=n,outs:=q}) (V:∀u,D (pxt K.p K.x K.t [I u])=some (ptR (Co K.p K.x K.t u))):
  SR D E G J MU (I frm::(Ab K c++[.vC kPt [], .vC Aa [],I mode,I 0,I 0,I 0,I 0,I 0,I 0]))=
   some (Ab K (BU K c (Ay K c)).2++H7 (Nu K frm (AB c)) ((BU K c (Ay K c)).1.map Ai) mode (Ay K c) (D0 K c) c.s3 c.g1):=by
 refine co (Q75 D E G J MU frm [] [] mode 0 0 0 0 0 0 K c) ?_;obtain⟨o,L,X⟩:=L;rw[<-X];refine eB S (eB T (eT (show(!c.aL)=true by rw[O];rfl) (eB L (eT (show(c.way==0)=true from beT N) ?_))));have M:=M (Ay K c);obtain⟨n,q,Y⟩:=U (Ay K c);generalize BU K c (Ay K c)=ps at*;refine eB M ?_;rw[Y];refine eB (V (AB c)) ?_;rw[show D0 K c=Co K.p K.x K.t (AB c)from rfl];generalize Co K.p K.x K.t (AB c)=mt;rfl
theorem Qji (K:Kf) (s:Int):∀(l:List Mrk) (c:Cv),∃n q:Int,(E0 K s l c).2={c with aK:=n,outs:=q}
 |[],c=>⟨c.aK,c.outs,rfl⟩
 |m::l,c=>by
  unfold E0;split
  ·exact⟨c.aK,c.outs,rfl⟩
  ·split
   ·obtain⟨n,q,h⟩:=Qji K s l {c with outs:=swI c.outs (itK K m.aU),aK:=c.aK+1};exact⟨n,q,h⟩
   ·obtain⟨n,q,h⟩:=Qji K s l {c with aK:=c.aK+1};exact⟨n,q,h⟩
theorem R9 (K:Kf) (c:Cv) (s:Int):∃n q:Int,(BU K c s).2={c with aK:=n,outs:=q}:=Qji K s _ c
theorem Zo2 {c:Cv} {n:Int} (h:KOK K) (g:Gd K n c) (D:0<=n/\n<=10010) (E:c.aL=false) {frm mode:Int} (hf: -300000000000<=frm/\frm<=300000000000):
  LC (I frm::(Ab K c++[.vC kPt [], .vC Aa [],I mode,I 0,I 0,I 0,I 0,I 0,I 0]))=
   some (Ab K (BU K c (Ay K c)).2++H7 (Nu K frm (AB c)) ((BU K c (Ay K c)).1.map Ai) mode (Ay K c) (D0 K c) c.s3 c.g1):=
 Ybv g.way E (LP K c) (NA h c) (Q9z h frm (AB c) (by have:=Zb g D;omega)) (λs=>Qz5 h g.pass s) (R9 K c) (KI h.f)
def DR (c:Cv):Cv:=if c.aH=true\/c.g0≠0 then{c with o2:=true}else c
def A7 (c:Cv):Cv:={c with before:=c.s3}
def Dx (K:Kf) (c:Cv):Cv:=if H5 K c=true then c else spS c K.bH
def EL (c:Cv):Cv:={c with aM:=AP c}
def I1 (K:Kf) (c:Cv) (E:List Evn):Cv:=EL (Dx K (A7 (DR (D5 c E))))
def stC (K:Kf) (c:Cv) (E:List Evn):Int×Cv:=if(Bk K (I1 K c E)).1=0 then CM K (Bk K (I1 K c E)).2 else Bk K (I1 K c E)
def Lb (K:Kf) (c:Cv) (E:List Evn):Cv:=(BU K (stC K c E).2 (Ay K (stC K c E).2)).2
def Z2j (K:Kf) (c:Cv) (E:List Evn):List Int:=(BU K (stC K c E).2 (Ay K (stC K c E).2)).1
def tkC (K:Kf) (c:Cv) (E:List Evn):List AC:=
 H7 (Nu K (AB (D5 c E)) (AB (stC K c E).2)) ((Z2j K c E).map Ai) (stC K c E).1 (Ay K (stC K c E).2) (D0 K (stC K c E).2) (stC K c E).2.s3 (stC K c E).2.g1
theorem Z37 {o:Nat×List AC} (D:∃e,o.2=Ci++Ab K e)
  (G:N (CT K a 0 d)=some (1,LZ K a (Bk K d).1 (Bk K d).2))
  (L:(Bk K d).1=0->M (Ab K (Bk K d).2)=some (I (CM K (Bk K d).2).1::Ab K (CM K (Bk K d).2).2))
  {s:Int×Cv} (E:s=if(Bk K d).1=0 then CM K (Bk K d).2 else Bk K d)
  {pul outs:Rw} {pos sp ft:Int} {mt:Pt} {q:Cv}
  (J:Z (I a::(Ab K s.2++[.vC kPt [], .vC Aa [],I s.1,I 0,I 0,I 0,I 0,I 0,I 0]))=some (Ab K q++H7 pul outs s.1 pos mt sp ft)):
  G1 N o M Z (I a) (Ab K d)=some (H7 pul outs s.1 pos mt sp ft++Ab K q):=by
 obtain⟨o1,o2⟩:=o;obtain⟨e,D⟩:=D;dsimp only at D;subst D;refine eB G (eT rfl ?_);generalize Bk K d=r at*;generalize CM K r.2=w at*;by_cases h:r.1=0
 ·rw[aa h]at E;subst E;refine eT (show(r.1==0)=true from beT h) (eB (L h) (eB J rfl))
 ·rw[ab h]at E;subst E;exact eF (show(s.1==0)=false from beF h) (eB J rfl)
theorem Ycg {J L M V X Y MU N O S T MV:Fn} {U D:Lp} {c:Cv} {E:List Evn}
  (h3:U (.vC kPt (E.map evR)::I (E.map evR).length::I 0::(Ci++Ab K (Fs c)))=some (1,Ci++Ab K (D5 c E)))
  (hT:∀c,T (Ab K c)=some [B (H5 K c)]) (hX:∀(c:Cv) (bH:Int),S [I c.s0,I c.s1,I c.s2,I c.s3,I bH]=some [I (spS c bH).s0,I (spS c bH).s1,I (spS c bH).s2,I (spS c bH).s3])
  (hN:∀c,O (Ab K c)=some [I (AB c)]) (hS:∀c:Cv,N [I c.m0,I c.m1,I c.m2,I c.m3,I c.m4,I c.m5]=some [B (AP c)])
  (G:∀o:Nat×List AC,(∃e,o.2=Ci++Ab K e)->G1 D o L J (I (AB (D5 c E))) (Ab K (I1 K c E))=some (tkC K c E++Ab K (Lb K c E))):
  VB J L M V X Y MU N O S T MV U D (.vC kPt (E.map evR)::Ab K c)=some (tkC K c E++Ab K (Lb K c E)):=by
 refine co (Q19 J L M V X Y MU N O S T MV U D (E.map evR) K c) ?_;refine eB h3 (eT rfl ?_);unfold I1 at G;generalize tkC K c E=tk at*;generalize Lb K c E=sc at*;generalize D5 c E=d at*
 have rest:∀b:Cv,DR d=b->AB b=AB d->AP b=AP d->
   ((T (Ab K (A7 b))).bind λo => bif !bA o 0 then (S [I b.s0, I b.s1, I b.s2, I b.s3, I K.bH]).bind λo2 => (O (Ab K { A7 b with s0 := gA o2 0, s1 := gA o2 1, s2 := gA o2 2, s3 := gA o2 3 })).bind λo3 => (N [I d.m0, I d.m1, I d.m2, I d.m3, I d.m4, I d.m5]).bind λo4 => G1 D (1, Ci ++ Ab K d) L J (jA o3 0) (Ab K { A7 b with s0 := gA o2 0, s1 := gA o2 1, s2 := gA o2 2, s3 := gA o2 3, aM := bA o4 0 })
    else(O (Ab K (A7 b))).bind λo3=>(N [I d.m0,I d.m1,I d.m2,I d.m3,I d.m4,I d.m5]).bind λo4=>G1 D (1,Ci++Ab K d) L J (jA o3 0) (Ab K {A7 b with aM:=bA o4 0}))=some (tk++Ab K sc):=λb hb hu hs=>by
  have G:=G (1,Ci++Ab K d) ⟨d,rfl⟩;rw[hb]at G;refine eB (hT (A7 b)) ?_;cases ht:H5 K (A7 b)
  ·have e1:Dx K (A7 b)=spS (A7 b) K.bH:=by unfold Dx;rw[ab (by rw[ht];simp)]
   rw[e1]at G;refine eT rfl (eB (hX b K.bH) ?_);refine co (ik (λz=>Option.bind z _) (hN (spS (A7 b) K.bH))) (eB rfl (eB (hS d) ?_));have e2:AB (spS (A7 b) K.bH)=AB d:=hu;have e3:({spS (A7 b) K.bH with aM:=AP d}:Cv)=EL (spS (A7 b) K.bH):=by
    unfold EL;rw[show AP (spS (A7 b) K.bH)=AP b from rfl,hs]
   rw[<-e3,<-e2]at G;exact G
  ·have e1:Dx K (A7 b)=A7 b:=by unfold Dx;rw[aa ht]
   rw[e1]at G;refine eF rfl ?_;refine co (ik (λz=>Option.bind z _) (hN (A7 b))) (eB rfl (eB (hS d) ?_));have e2:AB (A7 b)=AB d:=hu;have e3:({A7 b with aM:=AP d}:Cv)=EL (A7 b):=by
    unfold EL;rw[show AP (A7 b)=AP b from rfl,hs]
   rw[<-e3,<-e2]at G;exact G
 refine eC (λt=> ?_) λt=>eC (λq=> ?_) λq=> ?_
 ·have t:d.aH=true:=t;exact rest {d with o2:=true} (by unfold DR;rw[aa (.inl t)]) rfl rfl
 ·have q:d.g0≠0:=λe=>by
   have:(d.g0 !=0)=true:=q;rw[bnF e]at this;cases this
  exact rest {d with o2:=true} (by unfold DR;rw[aa (.inr q)]) rfl rfl
 ·have t:d.aH=false:=t;have q:d.g0=0:=bp λe=>by
   have:(d.g0 !=0)=false:=q;rw[bnT e]at this;cases this
  exact rest d (by unfold DR;rw[ab (λw=>by rcases w with w|w;rw[t]at w;cases w;exact w q)]) rfl rfl
structure Kp (c d : Cv) : Prop where
 way:d.way=c.way
 aL:d.aL=c.aL
 aK:d.aK=c.aK
 outs:d.outs=c.outs
theorem Kp.rfl {c:Cv}:Kp c c:=⟨Eq.refl _,Eq.refl _,Eq.refl _,Eq.refl _⟩
theorem Kp.trans {a b c:Cv} (h:Kp a b) (g:Kp b c):Kp a c:=⟨g.way.trans h.way,g.aL.trans h.aL,g.aK.trans h.aK,g.outs.trans h.outs⟩
structure Sm (c d : Cv) : Prop where
 kp:Kp c d
 m0:d.m0=c.m0
 m1:d.m1=c.m1
 m2:d.m2=c.m2
 m3:d.m3=c.m3
 m4:d.m4=c.m4
 on:d.on=c.on
 idx:d.idx=c.idx
 aI:d.aI=c.aI
 aH:d.aH=c.aH
 next:d.next=c.next
theorem Sm.trans {a b c:Cv} (h:Sm a b) (g:Sm b c):Sm a c:=
 ⟨h.kp.trans g.kp,g.m0.trans h.m0,g.m1.trans h.m1,g.m2.trans h.m2,g.m3.trans h.m3,g.m4.trans h.m4,g.on.trans h.on,g.idx.trans h.idx,g.aI.trans h.aI,g.aH.trans h.aH,g.next.trans h.next⟩
theorem Sm.rfl {c:Cv}:Sm c c:=⟨Kp.rfl,Eq.refl _,Eq.refl _,Eq.refl _,Eq.refl _,Eq.refl _,Eq.refl _,Eq.refl _,Eq.refl _,Eq.refl _,Eq.refl _⟩
theorem Gd.sm {n:Int} {c d:Cv} (g:Gd K n c) (h:Sm c d):Gd K n d:=g.same h.kp.way h.kp.aK h.on h.idx h.m0 h.m1 h.m2
theorem T3 (c:Cv) (k n:Int):Sm c (evC c k n):=⟨⟨Eq.refl _,Eq.refl _,Eq.refl _,Eq.refl _⟩,Eq.refl _,Eq.refl _,Eq.refl _,Eq.refl _,Eq.refl _,Eq.refl _,Eq.refl _,Eq.refl _,Eq.refl _,Eq.refl _⟩
theorem Q06:∀(E:List Evn) (c:Cv),Sm c (E.foldl (λc e=>evC c e.aP e.n) c)
 |[],_=>Sm.rfl
 |e::E,c=>(T3 c e.aP e.n).trans (Q06 E _)
theorem Zfs (c:Cv) (E:List Evn):Sm (Fs c) (D5 c E):=Q06 E _
theorem Q6p (c:Cv):Sm c (DR c):=by
 unfold DR;split
 ·exact⟨⟨rfl,rfl,rfl,rfl⟩,rfl,rfl,rfl,rfl,rfl,rfl,rfl,rfl,rfl,rfl⟩
 ·exact Sm.rfl
theorem Zd7 (K:Kf) (c:Cv):Sm c (Dx K c):=by
 unfold Dx;split
 ·exact Sm.rfl
 ·exact⟨⟨rfl,rfl,rfl,rfl⟩,rfl,rfl,rfl,rfl,rfl,rfl,rfl,rfl,rfl,rfl⟩
theorem Q1j (K:Kf) (c:Cv) (E:List Evn):Sm (Fs c) (I1 K c E):=
 (Zfs c E).trans ((Q6p _).trans (Sm.trans (b:=A7 (DR (D5 c E))) ⟨⟨rfl,rfl,rfl,rfl⟩,rfl,rfl,rfl,rfl,rfl,rfl,rfl,rfl,rfl,rfl⟩ ((Zd7 K _).trans ⟨⟨rfl,rfl,rfl,rfl⟩,rfl,rfl,rfl,rfl,rfl,rfl,rfl,rfl,rfl,rfl⟩)))
theorem Gd.clear {n:Int} {c:Cv} (g:Gd K n c):Gd K n (Fs c):=⟨g.way,g.pass,g.task,g.mo,g.m0⟩
theorem Q8d {n:Int} {c:Cv} (g:Gd K n c) (E:List Evn):Gd K n (I1 K c E):=g.clear.sm (Q1j K c E)
theorem Zi4 {n:Int} {c:Cv} (g:Gd K n c):Gd K n (FL K c).2/\Kp c (FL K c).2:=by
 have done:∀d:Cv,Gd K n d->Kp c d->Gd K n (GV d)/\Kp c (GV d):=λd g k=>⟨⟨g.way,g.pass,λh=>(by cases h),g.mo,g.m0⟩,k.trans ⟨rfl,rfl,rfl,rfl⟩⟩;have cmd:∀D sp:Int,Gd K n (HY c D sp)/\Kp c (HY c D sp):=λD sp=>⟨⟨g.way,g.pass,g.task,g.mo,g.m0⟩,⟨rfl,rfl,rfl,rfl⟩⟩;unfold FL;split
 ·split
  ·exact done c g Kp.rfl
  ·exact⟨g,Kp.rfl⟩
 ·split
  ·exact done c g Kp.rfl
  ·split
   ·split
    ·exact⟨g,Kp.rfl⟩
    ·exact done c g Kp.rfl
   ·split
    ·split
     ·exact done _ (cmd _ _).1 (cmd _ _).2
     ·exact cmd _ _
    ·split
     ·exact⟨⟨g.way,g.pass,g.task,g.mo,g.m0⟩,⟨rfl,rfl,rfl,rfl⟩⟩
     ·exact done c g Kp.rfl
theorem Zcq {n:Int} {c:Cv} (g:Gd K n c):Gd K n (A3 K c).2/\Kp c (A3 K c).2:=by
 have h:=Zi4 (K:=K) (c:=BT c) ⟨g.way,g.pass,g.task,g.mo,g.m0⟩;exact⟨h.1,h.2.way,h.2.aL,h.2.aK,h.2.outs⟩
theorem Q28 {n:Int} {c:Cv} (g:Gd K n c) {i:Int} (D:0<=i) (E:i<K.p.aD.length):Gd K n (Cl K c i).2/\Kp c (Cl K c i).2:=by
 have h:=Zcq (K:=K) (c:={c with on:=true,idx:=i,aN:=Ec K c i,cnt:=0}) ⟨g.way,g.pass,λ_=>⟨D,E⟩,g.mo,g.m0⟩;exact⟨h.1,⟨h.2.way,h.2.aL,h.2.aK,h.2.outs⟩⟩
theorem OG {n:Int} {c:Cv} (g:Gd K n c):Gd K n (Bx c)/\Kp c (Bx c):=by
 unfold Bx;split
 ·exact⟨⟨g.way,g.pass,g.task,g.mo,g.m0⟩,⟨rfl,rfl,rfl,rfl⟩⟩
 ·exact⟨g,Kp.rfl⟩
theorem Z7c (K:Kf) (c:Cv) (l:Int):Kp c (Cy K c l):=⟨rfl,rfl,rfl,rfl⟩
theorem Gd.e0 {n:Int} {c:Cv} (g:Gd K n c) (x:Int):Gd K n {c with e0:=x}:=⟨g.way,g.pass,g.task,g.mo,g.m0⟩
theorem Gd.s3 {n:Int} {c:Cv} (g:Gd K n c) (x:Int):Gd K n {c with s3:=x}:=⟨g.way,g.pass,g.task,g.mo,g.m0⟩
theorem Zaw {n:Int} {c:Cv} (h:KOK K) (g:Gd K n c) (E:0<=n/\n<=10000) (l:Int) {s:Sgm} (I:i64 s.aX):Gd K (n+1) (DS K c l s)/\Kp c (DS K c l s):=by
 have G:=ZR h g E l;unfold DS;split
 ·exact⟨G.s3 _,⟨rfl,rfl,rfl,rfl⟩⟩
 ·obtain⟨-,v,M,b,z,y,e,J,L⟩:=Qr2 h g l I;have D:Gd K (n+1) (GG c (thO K c l s.aX)):=by
   have e1:gA (thO K c l s.aX) 1=v:=by rw[J];rfl
   have:=g.bD h E L;unfold GG Vc;rw[e1];generalize thO K c l s.aX=o;exact this.same rfl rfl rfl rfl rfl rfl rfl
  unfold Gb;split
  ·exact⟨G.e0 3,⟨rfl,rfl,rfl,rfl⟩⟩
  ·split
   ·exact⟨(OG D).1,Kp.trans (b:=GG c (thO K c l s.aX)) ⟨rfl,rfl,rfl,rfl⟩ (OG D).2⟩
   ·exact⟨D,⟨rfl,rfl,rfl,rfl⟩⟩
theorem Zt8 {n:Int} {c:Cv} (h:KOK K) (g:Gd K n c) (D:0<=n/\n<=10000) (l:Int):Gd K (n+1) (BB K c l)/\Kp c (BB K c l):=by
 unfold BB;split
 ·exact⟨ZR h g D l,Z7c K c l⟩
 ·rename_i G;have E:(vF K c).aX≠0:=λe=>G (.inl e);split
  ·exact Zaw h g D l (FG h E).2.2
  ·split
   ·have:=Zaw h (g.go (vF K c)) D l (FG h E).2.2;exact⟨this.1,Kp.trans (b:=goC K c (vF K c)) ⟨rfl,rfl,rfl,rfl⟩ this.2⟩
   ·split
    ·exact⟨(OG (g.up D.1)).1,(OG g).2⟩
    ·exact⟨g.up D.1,Kp.rfl⟩
theorem RH {n:Int} {c:Cv} (h:KOK K) (g:Gd K n c) (D:0<=n/\n<=10000):Gd K (n+1) (CM K c).2/\Kp c (CM K c).2:=by
 have E:=Qwr K c;unfold CM;split
 ·split
  ·rename_i k;have I:(AG K c).2<K.p.aD.length:=by
    rcases E with E|E
    ·omega
    ·exact E.2.2
   have G:=Q28 (g.up D.1) k I;split
   ·exact⟨(OG G.1).1,G.2.trans (OG G.1).2⟩
   ·exact G
  ·split
   ·exact⟨⟨g.way,g.pass,g.task,(g.up D.1).mo,(g.up D.1).m0⟩,⟨rfl,rfl,rfl,rfl⟩⟩
   ·exact⟨g.up D.1,Kp.rfl⟩
 ·exact Zt8 h g D _
theorem Q14 {n:Int} {c:Cv} (h:KOK K) (g:Gd K n c) (D:0<=n/\n<=10000):Gd K n (Bk K c).2/\Kp c (Bk K c).2:=by
 unfold Bk;split
 ·exact⟨(g.stand h D).1,⟨rfl,rfl,rfl,rfl⟩⟩
 ·split
  ·exact⟨g,Kp.rfl⟩
  ·split
   ·exact⟨⟨g.way,g.pass,g.task,g.mo,g.m0⟩,⟨rfl,rfl,rfl,rfl⟩⟩
   ·split
    ·exact Zcq g
    ·exact⟨g,Kp.rfl⟩
theorem Qxi {n:Int} {c:Cv} (h:KOK K) (g:Gd K n c) (D:0<=n/\n<=10000) (E:List Evn):Gd K (n+1) (stC K c E).2/\Kp (Fs c) (stC K c E).2:=by
 have G:=Q14 h (Q8d g E) D;have kp:=(Q1j K c E).kp.trans G.2;unfold stC;split
 ·have:=RH h G.1 D;exact⟨this.1,kp.trans this.2⟩
 ·exact⟨G.1.up D.1,kp⟩
theorem TO (K:Kf) (s:Int):∀(l:List Mrk) (c:Cv),c.aK<=(E0 K s l c).2.aK/\(E0 K s l c).2.aK<=c.aK+l.length
 |[],c=>by simp[E0]
 |m::l,c=>by
  unfold E0;split
  ·simp only[bh];omega
  ·split
   ·have:=TO K s l {c with outs:=swI c.outs (itK K m.aU),aK:=c.aK+1};simp only[bh]at this⊢;omega
   ·have:=TO K s l {c with aK:=c.aK+1};simp only[bh]at this⊢;omega
theorem Zwe {n:Int} {c:Cv} (h:KOK K) (g:Gd K n c) (G:0<=n/\n<=10000) (E:List Evn):Gd K (n+1) (Lb K c E):=by
 have D:=(Qxi h g G E).1;unfold Lb;generalize(stC K c E).2=d at*;obtain⟨I,q,e⟩:=R9 K d (Ay K d);have hb:=TO K (Ay K d) (K.p.aD.drop d.aK.toNat) d;rw[bq]at hb;have hb:d.aK<=(BU K d (Ay K d)).2.aK/\(BU K d (Ay K d)).2.aK<=d.aK+((K.p.aD.length-d.aK.toNat:Nat):Int):=hb;rw[e]at hb⊢;have J:=D.pass;exact⟨D.way,by dsimp only at hb⊢;omega,D.task,D.mo,D.m0⟩
theorem Qm6 {c:Cv} {n:Int} (h:KOK K) (g:Gd K n c) (D:0<=n/\n<=10000) {E:List Evn} (J:Qds E):
  Hi (.vC kPt (E.map evR)::Ab K c)=some (tkC K c E++Ab K (Lb K c E)):=by
 have G:=Q8d g E;have L:=Q14 h G D;have I:=Qxi h g D E;have hf: -300000000000<=AB (D5 c E)/\AB (D5 c E)<=300000000000:=Zb (g.clear.sm (Zfs c E)) (by omega);refine Ycg (Zho J Qwp) (Q8c h) Q86 (LP K) Qk8 λo M=> ?_;refine Z37 (s:=stC K c E) M (Yb8 _ (Q3n K _) (Qxh K _) (Q1v K _) (Z9f h G) (Q3m G.way)) (λ_=>Zdk h L.1 D) rfl ?_;exact Zo2 h I.1 (by omega) I.2.aL hf
end Go.Bm
