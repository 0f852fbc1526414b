/- laid together -/
import Derived.Test.YtommijghjlikkaaGreatPrJg
import Derived.Test.YtommijghjlikkaaGreatMy1
import Derived.Test.YtommijghjlikkaaGreatMx3
import Derived.Test.YtommijghjlikkaaGreatPrLc
import Derived.Test.YtommijghjlikkaaGreatPrTk
import Derived.Test.YtommijghjlikkaaGreatPrPe
set_option linter.unusedVariables false
set_option linter.unusedSimpArgs false
set_option maxRecDepth 100000
variable {K:Go.Bm.Kf} {a k b u m:Int} {p:Go.Bm.Pth} {t:Go.Bm.Trk} {i:Nat} {d:Go.Bm.Cv} {M Z W T S P:Go.Bm.Fn} {Q:Int->Go.Bm.Pt->Prop} {E:List Go.Bm.Evn} {q:Go.Bm.Pt} {N:Go.Bm.Lp}
noncomputable section
open Go.IntKind (wrap)
namespace Go.Bm
theorem Zur (a b c:Int) {d:Int} (h:d<=0):Hg [I a,I b,I c,I d]=some [I 0]:=by
 show Vl _=_;rw[Qfg,BX (al h)]
theorem Zo6 {a b c:Int} (h:Plan3 a b c):G6 [I a,I b,I c,I 0,I 0]=some [B true]:=by
 have key:∀{M:Fn},(∀d:Int,d<=0->M [I a,I b,I c,I d]=some [I 0])->Rj M [I a,I b,I c,I 0,I 0]=some [B true]:=by
  intro M D;have G:=h.a;have hb:=h.b
  rw[ZM,Ae (x:=0-a)];refine eF (am (by omega)) (eF (am (by omega)) (eT rfl (eF (am (by omega)) ?_)));refine eB (D _ (by decide)) (eT rfl (eB (D 0 (by omega)) ?_));rfl
 exact key λd E=>Zur a b c E
theorem Z66 {a b c:Int} (h:Plan3 a b c):K9 [I a,I b,I c,I 0,I 0]=some [.vC Aa [],B true]:=by
 have key:∀{G D E:Fn},E [I a,I b,I c]=some [B true]->D [I a,I b,I c,I 0,I 0]=some [B true]->RE G D E (Am (IV G D E)) [I a,I b,I c,I 0,I 0]=some [.vC Aa [],B true]:=by
  intro G D E J L;rw[Xe];refine eB J (eF rfl (eB L (eF rfl ?_)));have M:IV G D E [.vC Aa [],I 0,I 0,I a,I b,I c]=some (2,[.vC Aa []]):=by
   rw[Rv];rfl
  exact eB (Bg M (by simp)) rfl
 refine key ?_ (Zo6 h);rw[Rp,al];exact⟨h.a.1,h.a.2,h.b.1,h.b.2,h.c.1,h.c.2⟩
theorem Zko {a b c:Int} (h:Plan3 a b c) (D E G J:Int):Fc [I a,I b,I c,I D,I 0,I 0,I E,I G,I J]=some [.vC Aa [],B true]:=by
 have key:∀{M:Fn},M [I a,I b,I c,I 0,I 0]=some [.vC Aa [],B true]->PX M (Am (Il M)) [I a,I b,I c,I D,I 0,I 0,I E,I G,I J]=some [.vC Aa [],B true]:=by
  intro M L;rw[Um];have N:Il M [.vC Aa [],I D, .vC Aa [],I 0,I 0]=some (1,[.vC Aa []]):=by
   rw[Qgx];rfl
  exact eB L (eF rfl (eT rfl (eT rfl (eB (Bg N (by simp)) rfl))))
 exact key (Z66 h)
theorem Zwr (h:Plan3 K.pa K.pb K.pc) {c:Cv} (D:c.m1=0) (E:c.m2=0):KE K c=c.m0:=by
 have key:∀{M:Fn},M [I K.pa,I K.pb,I K.pc,I c.m0,I 0,I 0,I c.m3,I c.m4,I c.m5]=some [.vC Aa [],B true]->LI M [I K.pa,I K.pb,I K.pc,I c.m0,I 0,I 0,I c.m3,I c.m4,I c.m5]=some [I c.m0,B true]:=by
  intro M G;rw[VV];exact eB G (eF rfl (eT rfl rfl))
 have e:Gj [I K.pa,I K.pb,I K.pc,I c.m0,I 0,I 0,I c.m3,I c.m4,I c.m5]=some [I c.m0,B true]:=key (Zko h _ _ _ _);unfold KE one;rw[D,E,e];rfl
abbrev VN:Axs:=⟨8,10,10,10,-16777216,16777216,0,0,0,[]⟩
theorem Qkq:AxOK VN:=⟨by decide,by decide,by decide,λh=>absurd rfl h,⟨λx h=>(by cases h),λi h=>(by simp at h)⟩,by decide,by decide⟩
abbrev L2:Ax3:=⟨VN,VN,VN⟩
theorem machX:MachOK L2 9 3 100 1 0:=⟨⟨Qkq,Qkq,Qkq⟩,⟨by decide,by decide,by decide⟩,by decide,by decide⟩
abbrev Cq:Itm:=⟨12,0,⟨0,0,0⟩,⟨0,0,0⟩,0,⟨0,0,0⟩,0,false,0,false,0,0,0,0,0,false⟩
theorem Q5c:Items 4084 ⟨0,0,0⟩ []:=⟨trivial,λit h=>by cases h⟩
theorem Z0z:Items 4084 ⟨0,0,0⟩ [Cq]:=by
 have h:=Om Q5c (it:=Cq) (λh=>by unfold AF at h;simp at h) (.inr ⟨by decide,λh=>by simp at h,λh=>by simp at h,λh=>by simp at h⟩);exact h
abbrev kX (l:List Itm):Kf:=kfP L2 9 3 100 1 0 l true
theorem WU {l:List Itm} (h:(AQ l).aF=[]) (c:Cv):H5 (kX l) c=false:=by
 unfold H5 D8;rw[h];rfl
theorem gd0 (l:List Itm):Gd (kX l) 0 B4:=⟨rfl,⟨by decide,by simp⟩,λh=>(by cases h),PU machX.plan,by decide⟩
theorem Xa:AQ []=⟨⟨0,0,0⟩,[],[]⟩:=rfl
theorem UY:AQ [Cq]=⟨⟨0,0,0⟩,[],[⟨0,3,0⟩]⟩:=by
 have e:Aq [Cq] 1=⟨[],[⟨0,3,0⟩],0,0,-1,false,⟨0,0,0⟩,⟨0,0,0⟩⟩:=by
  rw[Aq,Aq];unfold Dv;rw[ab (by decide)];rfl
 show Pth.mk (Aq [Cq] 1).aQ (Aq [Cq] 1).aF (Aq [Cq] 1).aD=_;rw[e]
theorem Q05 (h:p.aF=[]):AR p L2 ⟨1,1,1⟩ 0 (Av p.aF)=⟨[],0,0,⟨1,1,1⟩⟩:=by
 unfold AR;rw[h];rfl
theorem kX0:kX []=⟨L2,9,3,100,1,0,[],true,⟨⟨0,0,0⟩,[],[]⟩,0,JX [],⟨[],0,0,⟨1,1,1⟩⟩⟩:=by
 show Kf.mk _ _ _ _ _ _ _ _ _ _ _ _=_;rw[Q05 (p:=AQ []) (by rw[Xa]),Xa];rfl
theorem kX1:kX [Cq]=⟨L2,9,3,100,1,0,[Cq],true,⟨⟨0,0,0⟩,[],[⟨0,3,0⟩]⟩,0,JX [Cq],⟨[],0,0,⟨1,1,1⟩⟩⟩:=by
 show Kf.mk _ _ _ _ _ _ _ _ _ _ _ _=_;rw[Q05 (p:=AQ [Cq]) (by rw[UY]),UY];rfl
abbrev J0:Cv:={B4 with aM:=true}
theorem Q4s (D:∀c,H5 K c=false) (E:K.bH=1):I1 K B4 []=J0:=by
 show EL (Dx K (A7 (DR B4)))=_;unfold Dx;rw[ab (by rw[D];simp),E];rfl
theorem Zjg:(stC (kX []) B4 []).1=7:=by
 have e:=Q4s (WU (l:=[]) (by rw[Xa])) rfl;have D:Bk (kX []) J0=(0,J0):=rfl;unfold stC;rw[e,D,aa rfl];have E:AG (kX []) J0=(0,-1):=by
  rw[kX0];unfold AG BA;rfl
 unfold CM;rw[E];rfl
abbrev KR:Cv:={J0 with on:=true,idx:=0,aN:=true,cnt:=1}
theorem st1:stC (kX [Cq]) B4 []=(2,KR):=by
 have e:=Q4s (WU (l:=[Cq]) (by rw[UY])) rfl;have D:Bk (kX [Cq]) J0=(0,J0):=rfl;unfold stC;rw[e,D,aa rfl];have E:AG (kX [Cq]) J0=(0,0):=by
  have e2:=Zwr (K:=kX [Cq]) machX.plan (c:=J0) rfl rfl;unfold AG;rw[e2,kX1];rfl
 unfold CM;rw[E,kX1];rfl
theorem Q9l:Lb (kX [Cq]) B4 []=KR:=by
 unfold Lb;rw[st1,kX1];rfl
theorem Z7d:(stC (kX [Cq]) KR [⟨0,4,0⟩]).1=3:=by
 have D:=WU (l:=[Cq]) (by rw[UY]);have e:I1 (kX [Cq]) KR [⟨0,4,0⟩]=EL (spS (A7 (DR (D5 KR [⟨0,4,0⟩]))) 1):=by
  unfold I1 Dx;rw[ab (by rw[D];simp)]
 unfold stC;rw[e,kX1];rfl
theorem Zdt (K:Kf) (c:Cv) (E:List Evn) (l:List AC):gA (tkC K c E++l) 2=(stC K c E).1:=rfl
theorem Zda:Qds []:=⟨by simp,λe h=>by cases h⟩
theorem Z6l
  (J:Z (AL L2++[I 9,I 3,I 100,I 1,I 0]++[.vC Ak (([]:List Itm).map Ah),B true])=some (I 0::Ab (kX []) B4))
  (L:Z (AL L2++[I 9,I 3,I 100,I 1,I 0]++[.vC Ak ([Cq].map Ah),B true])=some (I 0::Ab (kX [Cq]) B4))
  (D:∃l,M (.vC kPt (([]:List Evn).map evR)::Ab (kX []) B4)=some l/\gA l 2=7)
  (E:∃l,M (.vC kPt (([]:List Evn).map evR)::Ab (kX [Cq]) B4)=some (l++Ab (kX [Cq]) KR)/\l.length=9/\gA l 2=2)
  (G:∃l,M (.vC kPt ([(⟨0,4,0⟩:Evn)].map evR)::Ab (kX [Cq]) KR)=some l/\gA l 2=3):
  YA M Z []=some [B true]:=by
 rw[Zzp];obtain⟨S,s0,m0⟩:=D;obtain⟨N,s1,O,m1⟩:=E;obtain⟨T,s2,m2⟩:=G
 match N,O with
 |[U,a1,a2,a3,a4,a5,a6,V,X],_=>
  refine eB J (eB L (eF rfl (eF rfl (eB s0 (eT (beT m0) (eB s1 (eT (beT m1) (eB s2 ?_))))))));rw[m2];rfl
theorem Qu6:Mp []=some [B true]:=by
 have G:=Qrj machX (aA:=[]) (by simp) Q5c true;have D:=Qrj machX (aA:=[Cq]) (by simp) Z0z true;have J:=Qm6 G.2 (gd0 []) (by omega) Zda;have I:=Qm6 D.2 (gd0 [Cq]) (by omega) Zda;have g1:Gd (kX [Cq]) 1 KR:=by
  have:=Zwe D.2 (gd0 [Cq]) (by omega) [];rw[Q9l]at this;exact this
 have L:=Qm6 D.2 g1 (by omega) (E:=[⟨0,4,0⟩]) ⟨by simp,λe h=>by simp at h;subst h;simp⟩;rw[Q9l]at I;exact Z6l G.1 D.1 ⟨_,J,(Zdt _ _ _ _).trans Zjg⟩ ⟨_,I,rfl,by show(stC (kX [Cq]) B4 []).1=2;rw[st1]⟩ ⟨_,L,(Zdt _ _ _ _).trans Z7d⟩
abbrev atE (E:List Evn) (k:Int):List Evn:=E.filter λe=>e.cycle==k
theorem Zpb {e:Evn} (h:e∈atE E k):e∈E:=(List.mem_filter.1 h).1
theorem Z1j (E:List Evn) (k:Int):(atE E k).length<=E.length:=j8 _ _
structure Tk (K : Kf) (o : List AC) (c : Cv) (s : Int) (m : Pt) : Prop where
 ex:∃(pul outs:Rw) (mode sp ft:Int),o=H7 pul outs mode s m sp ft++Ab K c
theorem gdK (h:KOK K):Gd K 0 B4:=⟨rfl,⟨by decide,by simp⟩,λh=>(by cases h),PU h.plan,by decide⟩
structure Cm (c : Cv) : Prop where
 on:c.on=true->c.m1=0
 aI:c.aI≠0->c.m1=0
 aH:c.aH=false
structure Mt (c d : Cv) : Prop where
 m0:d.m0=c.m0
 m1:d.m1=c.m1
 m2:d.m2=c.m2
 aH:d.aH=c.aH
 g0:d.g0=c.g0
 g1:d.g1=c.g1
 g2:d.g2=c.g2
 o2:d.o2=c.o2
theorem Mt.rfl {c:Cv}:Mt c c:=⟨Eq.refl _,Eq.refl _,Eq.refl _,Eq.refl _,Eq.refl _,Eq.refl _,Eq.refl _,Eq.refl _⟩
theorem Mt.trans {a b c:Cv} (h:Mt a b) (g:Mt b c):Mt a c:=
 ⟨g.m0.trans h.m0,g.m1.trans h.m1,g.m2.trans h.m2,g.aH.trans h.aH,g.g0.trans h.g0,g.g1.trans h.g1,g.g2.trans h.g2,g.o2.trans h.o2⟩
theorem Mt.cm {c d:Cv} (h:Mt c d) (D:c.m1=0) (E:c.aH=false):Cm d:=
 ⟨λ_=>h.m1.trans D,λ_=>h.m1.trans D,h.aH.trans E⟩
theorem Zou (K:Kf) (c:Cv):Mt c (FL K c).2:=by
 have done:∀d:Cv,Mt c d->Mt c (GV d):=λd k=>k.trans ⟨rfl,rfl,rfl,rfl,rfl,rfl,rfl,rfl⟩;have cmd:∀D sp:Int,Mt c (HY c D sp):=λD sp=>⟨rfl,rfl,rfl,rfl,rfl,rfl,rfl,rfl⟩;unfold FL;split
 ·split
  ·exact done c Mt.rfl
  ·exact Mt.rfl
 ·split
  ·exact done c Mt.rfl
  ·split
   ·split
    ·exact Mt.rfl
    ·exact done c Mt.rfl
   ·split
    ·split
     ·exact done _ (cmd _ _)
     ·exact cmd _ _
    ·split
     ·exact⟨rfl,rfl,rfl,rfl,rfl,rfl,rfl,rfl⟩
     ·exact done c Mt.rfl
theorem Q89 (K:Kf) (c:Cv):Mt c (A3 K c).2:=Mt.trans (b:=BT c) ⟨rfl,rfl,rfl,rfl,rfl,rfl,rfl,rfl⟩ (Zou K _)
theorem Z79 (K:Kf) (c:Cv) (i:Int):Mt c (Cl K c i).2:=Mt.trans (b:={c with on:=true,idx:=i,aN:=Ec K c i,cnt:=0}) ⟨rfl,rfl,rfl,rfl,rfl,rfl,rfl,rfl⟩ (Q89 K _)
structure Os (c d : Cv) : Prop where
 on:d.on=c.on
 aI:d.aI=c.aI
 aH:d.aH=c.aH
 gu:(d.g0=c.g0/\d.g1=c.g1/\d.g2=c.g2)\/(c.g0=0/\d.g0=1/\d.g1=18)
theorem Os.trans {a b c:Cv} (h:Os a b) (g:Os b c):Os a c:=by
 refine⟨g.on.trans h.on,g.aI.trans h.aI,g.aH.trans h.aH,?_⟩;rcases h.gu with⟨D,G,I⟩|⟨D,G,I⟩<;>rcases g.gu with⟨k0,E,J⟩|⟨k0,E,J⟩
 ·exact .inl ⟨k0.trans D,E.trans G,J.trans I⟩
 ·exact .inr ⟨D.symm.trans k0,E,J⟩
 ·exact .inr ⟨D,k0.trans G,E.trans I⟩
 ·omega
theorem Q99 (c:Cv):Os c (Bx c):=by
 unfold Bx;split
 ·rename_i h;exact⟨rfl,rfl,rfl, .inr ⟨h,rfl,rfl⟩⟩
 ·exact⟨rfl,rfl,rfl, .inl ⟨rfl,rfl,rfl⟩⟩
theorem Qov (K:Kf) (c:Cv) (l:Int):Os c (Cy K c l):=⟨rfl,rfl,rfl, .inl ⟨rfl,rfl,rfl⟩⟩
theorem Q4q (c:Cv) (o:List AC):Os c (GG c o):=⟨rfl,rfl,rfl, .inl ⟨rfl,rfl,rfl⟩⟩
theorem Quj (K:Kf) (c:Cv) (l:Int) (s:Sgm):Os c (DS K c l s):=by
 unfold DS;split
 ·exact(Qov K c l).trans ⟨rfl,rfl,rfl, .inl ⟨rfl,rfl,rfl⟩⟩
 ·unfold Gb;split
  ·exact(Qov K c l).trans ⟨rfl,rfl,rfl, .inl ⟨rfl,rfl,rfl⟩⟩
  ·split
   ·exact(Q4q c _).trans (Q99 _)
   ·exact Q4q c _
theorem Q0b (K:Kf) (c:Cv) (l:Int):Os c (BB K c l):=by
 unfold BB;split
 ·exact Qov K c l
 ·split
  ·exact Quj K c l _
  ·split
   ·exact Os.trans (b:=goC K c (vF K c)) ⟨rfl,rfl,rfl, .inl ⟨rfl,rfl,rfl⟩⟩ (Quj K _ l _)
   ·split
    ·exact Q99 c
    ·exact⟨rfl,rfl,rfl, .inl ⟨rfl,rfl,rfl⟩⟩
def Gg (c:Cv):Prop:=(c.g0=0/\c.g1=0/\c.g2= -1)\/(c.g0=1/\c.g1=18)
theorem Os.gg {c d:Cv} (h:Os c d) (g:Gg c):Gg d:=by
 rcases h.gu with⟨G,D,E⟩|⟨G,D,E⟩
 ·unfold Gg;rw[G,D,E];exact g
 ·exact .inr ⟨D,E⟩
theorem Mt.gg {c d:Cv} (h:Mt c d) (g:Gg c):Gg d:=by unfold Gg;rw[h.g0,h.g1,h.g2];exact g
theorem Os.cm {c d:Cv} (h:Os c d) (D:c.on=false) (E:c.aI=0) (G:c.aH=false):Cm d:=
 ⟨λe=>(by rw[h.on,D]at e;cases e),λe=>absurd (h.aI.trans E) e,h.aH.trans G⟩
def Sp (c:Cv):Prop:=c.g0=1/\c.g1=21/\c.g2= -1/\c.o2=true
theorem Qb4 {a k c v x:Int} (D:Plan3 a k c) (E:CZ a k v x) (O:v<=0):AH a k v x=0:=by
 have J:=closed D E;have L:=DH D J.1;have M:v=0:=by have:=DH D E;omega
 obtain⟨B,I⟩:∃B,B=bs k v 20 (-x-k) (min (k-x) a):=⟨_,rfl⟩;obtain⟨S,T,U,V,G,X⟩:=TZ D E I;have:=Ij (k:=k) (b:=B) (by have:=D.b;omega);have Y:=E.2.2.2.2 M;have ha:=D.a;have e:AH a k v x= -B:=by unfold AH;rw[I]
 rw[e];rcases G with G|G
 ·omega
 ·by_cases N:B+1<=0
  ·rw[Je N]at G;omega
  ·omega
def stL (K:Kf) (c:Cv):List Int:=(AJ K.pa K.pb c.m1 c.m2).1
theorem TD (h:Plan3 K.pa K.pb K.pc) {c:Cv} (D:Mo K c) (E:c.m1<=0):stL K c=[]:=by
 unfold stL;rw[(Ry h D).2,aa E]
theorem OA {c d:Cv} (D:d.m1=c.m1) (E:d.m2=c.m2):stL K d=stL K c:=by unfold stL;rw[D,E]
def Nx (K:Kf) (c e:Cv):Prop:=(stL K c=[]/\stL K e=[]/\e.m0=c.m0)\/(stL K c=e.m1::stL K e/\e.m0=c.m0+e.m1)
theorem Nx.still (E:Plan3 K.pa K.pb K.pc) {c e:Cv} (G:Mo K c) (h:c.m1=0) (m:Mt c e):Nx K c e:=by
 have D:=TD E G (by omega);exact .inl ⟨D,(OA m.m1 m.m2).trans D,m.m0⟩
theorem Sp.mt {c d:Cv} (h:Sp c) (m:Mt c d):Sp d:=⟨m.g0.trans h.1,m.g1.trans h.2.1,m.g2.trans h.2.2.1,m.o2.trans h.2.2.2⟩
theorem Zrm {a k c:Int} (J:Plan3 a k c) {u:Int} (O: -1000000000000000<=u/\u<=1000000000000000) {v x:Int} (S:(AJ a k v x).2=true) (D E G:Int):
  Gj [I a,I k,I c,I u,I v,I x,I D,I E,I G]=some [I (BH u (AJ a k v x).1),B true]:=by
 have key:∀{M:Fn},M [I a,I k,I c,I u,I v,I x,I D,I E,I G]=some [.vC Aa ((Bn u (AJ a k v x).1).map Ai),B (AJ a k v x).2]->LI M [I a,I k,I c,I u,I v,I x,I D,I E,I G]=some [I (BH u (AJ a k v x).1),B true]:=by
  intro M L;have hb:=LQ J v x;rw[S]at L;rw[VV];generalize(AJ a k v x).1=l at*;refine eB L (eF rfl ?_);show cond ((((Bn u l).map Ai).length:Int)==0) _ (cond (decide (0<=V ((((Bn u l).map Ai).length:Int)-1))&&decide (V ((((Bn u l).map Ai).length:Int)-1)<(((Bn u l).map Ai).length:Int))) (some [I (Af (nth .vD (nth [] ((Bn u l).map Ai) (V ((((Bn u l).map Ai).length:Int)-1)).toNat) 0)),B true]) none)=_;have T:((Bn u l).map Ai).length=l.length:=by rw[ac,Ir]
  rw[T];refine eC (λe=> ?_) λe=> ?_
  ·have e:(l.length:Int)=0:=eq_of_beq e;have:l=[]:=lf.1 (by omega);subst this;rfl
  ·have e:(l.length:Int)≠0:=by simpa using e
   rw[Ae (x:=(l.length:Int)-1)];refine eT (by simp;omega) ?_;have N:=Tz u l (by intro q;rw[q]at e;simp at e);rw[Ir]at N;have en:((l.length:Int)-1).toNat=l.length-1:=by omega
   have U:nth [] ((Bn u l).map Ai) (l.length-1)=Ai (BH u l):=by
    rw[B5,List.getD,d7,N];rfl
   rw[en,U];rfl
 exact key (Qrn J O v x D E G)
theorem Zoi {MS MF:Fn} {x:Ax3} (E:∀{way:Rw},way.length<=100000->(MS (pxt p x t [.vC Aa way])).isSome=true)
  {a b c m0 m1 m2 m3 m4 m5 l:Int} {L:List Int} (U:L.length<=4096) (M:MF [I a,I b,I c,I m0,I m1,I m2,I m3,I m4,I m5]=some [.vC Aa ((Bn m0 L).map Ai),B true]):
  Out (λo=>bA o 0=true->BH m0 L<=V (l*256)) (Q4 MS MF (pxt p x t [I a,I b,I c,I m0,I m1,I m2,I m3,I m4,I m5,I l])):=by
 rw[Xp];refine .bind (p:=λo=>o=_) ⟨_,M,rfl⟩ λo e=> ?_;subst e;have no:∀{X:List AC},X=[B false]->bA X 0=true->BH m0 L<=V (l*256):=λe h=>by subst e;simp[bA,nth,CU]at h
 have N:wA [AC.vC Aa ((Bn m0 L).map Ai),B true] 0=(Bn m0 L).map Ai:=rfl;rw[N];have O:((Bn m0 L).map Ai).length=L.length:=by rw[ac,Ir]
 have S:0<L.length->Af (nth .vD (nth [] ((Bn m0 L).map Ai) ((((Bn m0 L).map Ai).length:Int)-1).toNat) 0)=BH m0 L:=λG=>by
  rw[O];have J:=Tz m0 L (by intro q;rw[q]at G;simp at G);rw[Ir]at J;have en:((L.length:Int)-1).toNat=L.length-1:=by omega
  have T:nth [] ((Bn m0 L).map Ai) (L.length-1)=Ai (BH m0 L):=by
   rw[B5,List.getD,d7,J];rfl
  rw[en,T];rfl
 have e0:L.length=0->BH m0 L=m0:=λh=>by rw[lf.1 h];rfl
 generalize(Bn m0 L).map Ai=sp at*;refine .cond (λ_=> .some (no rfl)) λ_=> ?_;refine .cond (λc=> ?_) λc=> ?_
 ·have c:=A0 c;rw[Ae (x:=(sp.length:Int)-1)];refine .cond (λ_=> ?_) λc=>by simp at c;omega
  rw[S (by omega)];refine .cond (λ_=> .some (no rfl)) λD=> ?_;have D:=AU D;refine .cond (λ_=> ?_) λc=>by rw[BM (by simp;omega)]at c;cases c
  refine .cond (λ_=> ?_) λc=>by rw[BM (by simp;omega)]at c;cases c
  exact .ibind (E (by simp;omega)) λ_ _=> .some λ_=>by omega
 ·have c:=AU c;have e1:=e0 (by omega);refine .cond (λ_=> .some (no rfl)) λD=> ?_;have D:=AU D;refine .cond (λ_=> ?_) λc=>by rw[BM (by simp;omega)]at c;cases c
  refine .cond (λ_=> ?_) λc=>by rw[BM (by simp;omega)]at c;cases c
  exact .ibind (E (by simp;omega)) λ_ _=> .some λ_=>by omega
def RT (pa pb m0 v x l:Int):Prop:=(AJ pa pb v x).2=true/\BH m0 (AJ pa pb v x).1<=V (l*256)
theorem Q0n {x:Ax3} (h:Fix p x t) {a b c:Int} (E:Plan3 a b c) {m0:Int} (v z m3 m4 m5 l:Int) (L:(AJ a b v z).2=true-> -1000000000000000<=m0/\m0<=1000000000000000):
  Out (λo=>bA o 0=true->RT a b m0 v z l) (Iu (pxt p x t [I a,I b,I c,I m0,I v,I z,I m3,I m4,I m5,I l])):=by
 by_cases D:(AJ a b v z).2=true
 ·have J:=Qrn E (L D) v z m3 m4 m5;rw[D]at J;have:=Zoi (MS:=K7) (MF:=Fc) (l:=l) (Qza h) (LQ E v z).1 J;exact this.mono λo G hb=>⟨D,G hb⟩
 ·exact(Qp h E m0 v z m3 m4 m5 l).mono λo G hb=>absurd (G hb) D
theorem Qvg (h:KOK K) {c:Cv} (D:Mo K c) (L: -300000000000<=c.m0/\c.m0<=300000000000) (l:Int) (E:Bool):Out (Mi c.m0 c.m1 c.m3 c.m4 (λv=>RT K.pa K.pb (V (c.m0+v)) v (V (v-c.m1)) l) λr=>r=AH K.pa K.pb c.m1 c.m2)
  (EW (pxt K.p K.x K.t [I K.pa,I K.pb,I K.pc,I c.o0,I c.o1,B E,B c.o3,B c.o4,I c.m0,I c.m1,I c.m2,I c.m3,I c.m4,I c.m5,I l])):=
 TE (F := λ_ => True) (by have := h.plan.b; omega) (Ni h.plan D) (λv _ _ _ => Q0n h.f h.plan _ _ _ _ _ _ λG => by
  have:=DH h.plan (FA.1 G).1;rw[Ae];omega) (λv=>Qh7 h.f ..) Nc Sq (λ_ J=>S9 J)
theorem Z8w (h:KOK K) {c:Cv} (D:Mo K c) (E: -300000000000<=c.m0/\c.m0<=300000000000) (l:Int) {aX:Int} (G:i64 aX):Out (Of c.m0 c.m1 c.m3 c.m4 (λv=>RT K.pa K.pb (V (c.m0+v)) v (V (v-c.m1)) l) λr=>r=AH K.pa K.pb c.m1 c.m2)
  (G8 (pxt K.p K.x K.t [I K.pa,I K.pb,I K.pc,I c.o0,I c.o1,B c.o2,B c.o3,B c.o4,I c.m0,I c.m1,I c.m2,I c.m3,I c.m4,I c.m5,I l,I aX,I c.e0,I c.e1,I c.e2,I c.e3,I c.before,I c.s3])):=
 Wn (Qvg h D E l false) (Ni h.plan D) Yl (λv => Q0n h.f h.plan _ _ _ _ _ _ λJ => by
  have:=DH h.plan (FA.1 J).1;rw[Ae];omega) Nc (λ_ L=>Qre G L) Qk6
def endC (K:Kf) (c:Cv):Int:=BH c.m0 (stL K c)
theorem Mt.endC {c d:Cv} (h:Mt c d):endC K d=endC K c:=by
 unfold Go.Bm.endC;rw[OA h.m1 h.m2,h.m0]
theorem Qev (h:KOK K) {n:Int} {c e:Cv} (g:Gd K n c) (L:0<=n/\n<=10000) {v:Int} (E:v=V (c.m1+AH K.pa K.pb c.m1 c.m2)) (e0:e.m0=V (c.m0+v)) (e1:e.m1=v) (e2:e.m2=V (v-c.m1)):endC K e=endC K c:=by
 obtain⟨b1,b2,b3⟩:=QK h.plan g.mo E;have M:=DH h.plan (FA.1 b3).1;have N:=g.m0;rw[Ae]at e0;obtain⟨-,s2⟩:=Ry h.plan g.mo;unfold endC stL;rw[e0,e1,e2,b2,s2,<-b1];by_cases D:c.m1<=0
 ·rw[aa D];have hb:=Qb4 h.plan g.mo.ready D;have G:=DH h.plan g.mo.ready;have v0:v=0:=by omega
  have I:(AJ K.pa K.pb v (AH K.pa K.pb c.m1 c.m2)).1=[]:=by
   have J:(AJ K.pa K.pb v (AH K.pa K.pb c.m1 c.m2)).2=true:=by rw[<-b2];exact b3
   rw[(Ry h.plan J).2,aa]
  rw[I,v0];show c.m0+0=c.m0;omega
 ·rw[ab D];show _=BH (c.m0+v) _;rfl
def EndQ (K:Kf) (c d:Cv) (l:Int):Prop:=endC K d<=V (l*256)\/endC K d=endC K c
theorem EndQ.of (h:KOK K) {n:Int} {c e:Cv} (g:Gd K n c) (E:0<=n/\n<=10000) {v l:Int} (D:RT K.pa K.pb (V (c.m0+v)) v (V (v-c.m1)) l\/∃r:Int,v=V (c.m1+r)/\r=AH K.pa K.pb c.m1 c.m2)
  (e0:e.m0=V (c.m0+v)) (e1:e.m1=v) (e2:e.m2=V (v-c.m1)):EndQ K c e l:=by
 rcases D with D|⟨r,D,rfl⟩
 ·refine .inl ?_;unfold endC stL;rw[e0,e1,e2];exact D.2
 ·exact .inr (Qev h g E D e0 e1 e2)
theorem SC {n:Int} {c:Cv} (g:Gd K n c) (D:0<=n/\n<=10000): -300000000000<=c.m0/\c.m0<=300000000000:=by have:=g.m0;omega
theorem SN (h:KOK K) {n:Int} {c:Cv} (g:Gd K n c) (D:0<=n/\n<=10000) (l:Int):EndQ K c (Cy K c l) l:=
 EndQ.of h g D (v:=nxV K c l) (Qo8 (Qvg h g.mo (SC g D) l c.o2)) rfl rfl rfl
theorem EndQ.same {c d e:Cv} (h:EndQ K c d a) (e0:e.m0=d.m0) (e1:e.m1=d.m1) (e2:e.m2=d.m2):EndQ K c e a:=by
 unfold EndQ at*;have:endC K e=endC K d:=by unfold endC;rw[OA e1 e2,e0]
 rw[this];exact h
theorem Qnb (c:Cv):(Bx c).m0=c.m0/\(Bx c).m1=c.m1/\(Bx c).m2=c.m2:=by unfold Bx;split<;>exact⟨rfl,rfl,rfl⟩
theorem Zmp (h:KOK K) {n:Int} {c:Cv} (g:Gd K n c) (D:0<=n/\n<=10000) (l:Int) {aX:Int} (G:i64 aX):EndQ K c (Gb K c l aX) l:=by
 unfold Gb;split
 ·exact(SN h g D l).same rfl rfl rfl
 ·have key:EndQ K c (GG c (thO K c l aX)) l:=by
   obtain⟨o,E,v,s,b,z,y,e,rfl,J⟩:=Z8w h g.mo (SC g D) l G;have E:G8 (thL K c l aX)=some (DK c.m0 c.m1 c.m3 c.m4 v++[I s,I b,I z,I y,I e]):=E;have e2:thO K c l aX=DK c.m0 c.m1 c.m3 c.m4 v++[I s,I b,I z,I y,I e]:=by unfold thO;rw[E];rfl
   rw[e2];exact EndQ.of h g D J rfl rfl rfl
  split
  ·have:=Qnb (GG c (thO K c l aX));exact key.same this.1 this.2.1 this.2.2
  ·exact key
theorem Q4e (h:KOK K) {n:Int} {c:Cv} (g:Gd K n c) (D:0<=n/\n<=10000) (l:Int) {s:Sgm} (E:i64 s.aX):EndQ K c (DS K c l s) l:=by
 unfold DS;split
 ·exact(SN h g D l).same rfl rfl rfl
 ·exact Zmp h g D l E
theorem Z1c (h:KOK K) {n:Int} {c:Cv} (g:Gd K n c) (D:0<=n/\n<=10000) (l:Int):EndQ K c (BB K c l) l:=by
 unfold BB;by_cases e:(vF K c).aX=0
 ·rw[aa (.inl e)];exact SN h g D l
 ·have E:=(FG h e).2.2;split
  ·exact SN h g D l
  ·split
   ·exact Q4e h g D l E
   ·split
    ·exact Q4e h (g.go (vF K c)) D l E
    ·split
     ·have:=Qnb c;refine .inr ?_;unfold endC;rw[OA this.2.1 this.2.2,this.1]
     ·exact .inr rfl
end Go.Bm
namespace Go.Bm
open Classical
theorem Ybu (D:0<=u) (E:u<=1000000000000000):H4 [I u]=some [I (u/256)]:=by
 show VQ [I u]=_;rw[Zdv];have e:u.tdiv 256=u/256:=ap D;have em: ¬u.tmod 256<0:=by have:=Int.tmod_nonneg (a:=u) 256 D;omega
 rw[BG (am em),e,Ae]
abbrev MU (p:Pth) (x:Ax3) (t:Trk) (u:Int):Pt:=Co p x t (u/256)
def F1 (l:List Pt) (j:Nat):List Pt:=(l.take (j+1)).drop (j+1-4)
theorem Znk {MA MM MN:Fn} {x:Ax3} (M:∀{l:List Pt},l.length<=100000->MA (AL x++[.vC kPt (l.map ptR)])=some [B (decide (De x l))]) (O:∀u,MM (pxt p x t [I u])=some (ptR (Co p x t u)))
  (S:∀{u:Int},0<=u->u<=1000000000000000->MN [I u]=some [I (u/256)]) {way:List Int} (hw:way.length<=100000) (hb:∀u∈way,0<=u/\u<=1000000000000000):
  Out (λo=>bA o 0=true->∀j,j<way.length->De x (F1 (way.map (MU p x t)) j)) (UL MA MM MN (Am (TR MA MM MN)) (pxt p x t [.vC Aa (way.map Ai)])):=by
 rw[Qyw];refine .bind (p:=λo=>o=(1,[B false])\/(o=(2,[])/\∀j,j<way.length->De x (F1 (way.map (MU p x t)) j))) ?_ λo g=>by
  rcases g with rfl|⟨rfl,g⟩
  ·exact .some λh=>by cases h
  ·exact .some λ_=>g
 have el:(way.map Ai).length=way.length:=ac ..;refine BZ (λs:Nat=> .vC kPt ((((way.map (MU p x t)).take s).drop (s-4)).map ptR):: .vC Aa (way.map Ai)::I ((way.map Ai).length:Int)::I (s:Int)::pxt p x t []) (λs=>s<=way.length/\∀j,j<s->De x (F1 (way.map (MU p x t)) j)) (λs=>way.length-s) _ ?_ 0 ⟨jz _,λj T=>by omega⟩;rintro i ⟨g1,g2⟩;refine Out.eqv (Q9c MA MM MN _ _ _ _ p x t) ?_;rw[Ae (x:=(i:Int)+1)];refine .cond (λc=> ?_) (λc=> ?_)
 ·have c:=A0 c;have G:i<way.length:=by omega
  refine .cond (λ_=> ?_) λe=>(inB (by omega) (by omega) e).elim;have U:jA (nth [] (way.map Ai) (i:Int).toNat) 0=I way[i]:=by
   rw[aj,GK Ai [] way i G];rfl
  rw[U];have D:=hb way[i] (bf G);refine .bind (p:=λo=>o=_) ⟨_,S D.1 D.2,rfl⟩ λo e=> ?_;subst e;refine .bind (p:=λo=>o=_) ⟨_,O (way[i]/256),rfl⟩ λo e=> ?_;subst e;have V:(((way.map (MU p x t)).take i).drop (i-4)).map ptR++[[jA (ptR (Co p x t (way[i]/256))) 0,jA (ptR (Co p x t (way[i]/256))) 1,jA (ptR (Co p x t (way[i]/256))) 2]]=(((way.map (MU p x t)).take (i+1)).drop (i-4)).map ptR:=by
   have X:i<(way.map (MU p x t)).length:=by rw[ac];exact G
   rw[fo,ag X,gz (by rw[dl];omega),bn,gj];rfl
  rw[V];have Y:((((way.map (MU p x t)).take (i+1)).drop (i-4)).map ptR).length=i+1-(i-4):=by
   rw[ac,bq,dl,ac];omega
  have step:De x (F1 (way.map (MU p x t)) i)->∀j,j<i+1->De x (F1 (way.map (MU p x t)) j):=λq j T=>by
   by_cases J:j=i
   ·rw[J];exact q
   ·exact g2 j (by omega)
  have N:(F1 (way.map (MU p x t)) i).length<=100000:=by unfold F1;rw[bq,dl,ac];omega
  refine .cond (λ_=> ?_) λc=>by rw[BM (by rw[Y];omega)]at c;cases c
  refine .cond (λE=> ?_) λE=> ?_
  ·have E:=A0 E;have L:List.drop (Int.toNat 1) ((((way.map (MU p x t)).take (i+1)).drop (i-4)).map ptR)=(F1 (way.map (MU p x t)) i).map ptR:=by
    unfold F1;rw[<-ld,jk];have:i-4+Int.toNat 1=i+1-4:=by have:Int.toNat 1=1:=rfl;omega
    rw[this]
   refine .cond (λ_=> ?_) λc=>by simp at c;omega
   refine .cond (λ_=> ?_) λc=>by rw[BM (by have:Int.toNat 1=1:=rfl;omega)]at c;cases c
   rw[L];refine .bind (p:=λo=>o=_) ⟨_,M N,rfl⟩ λo e=> ?_;subst e;by_cases q:De x (F1 (way.map (MU p x t)) i)
   ·rw[al q];exact .some (.inl ⟨rfl,i+1,rfl,⟨by omega,step q⟩,by omega⟩)
   ·rw[am q];exact .some (.inr ⟨by simp, .inl rfl⟩)
  ·have E:=AU E;have L:(((way.map (MU p x t)).take (i+1)).drop (i-4)).map ptR=(F1 (way.map (MU p x t)) i).map ptR:=by
    unfold F1;have:i-4=i+1-4:=by omega
    rw[this]
   rw[L];refine .bind (p:=λo=>o=_) ⟨_,M N,rfl⟩ λo e=> ?_;subst e;by_cases q:De x (F1 (way.map (MU p x t)) i)
   ·rw[al q];exact .some (.inl ⟨rfl,i+1,rfl,⟨by omega,step q⟩,by omega⟩)
   ·rw[am q];exact .some (.inr ⟨by simp, .inl rfl⟩)
 ·have c:=AU c;have e:i=way.length:=by omega
  rw[e]at g2;exact .some (.inr ⟨by simp, .inr ⟨rfl,g2⟩⟩)
def Ch (x:Ax3) (l:List Pt):Prop:=∀j,j+3<l.length->De x ((l.drop j).take 4)
theorem Zyf {x:Ax3} {l:List Pt} (h:∀j,j<l.length->De x (F1 l j)):Ch x l:=λj D=>by
 have:=h (j+3) D;unfold F1 at this;rw[show j+3+1=j+4 by omega,show j+4-4=j by omega,List.drop_take]at this;rw[show j+4-j=4 by omega]at this;exact this
theorem Zjt {x:Ax3} (h:Fix p x t) {way:List Int} (E:way.length<=100000) (hb:∀u∈way,0<=u/\u<=1000000000000000):
  Out (λo=>bA o 0=true->Ch x (way.map (MU p x t))) (K7 (pxt p x t [.vC Aa (way.map Ai)])):=
 (Znk (MA:=GF) (MM:=Dh) (MN:=H4) (λG=>Qiw G) (λu=>KI h u) Ybu E hb).mono λo I hb=>Zyf λj D=>I hb j (by rw[ac]at D;exact D)
def IZ (m5 m4 m3 m0:Int) (L:List Int):List Int:=[m5,m4,m3,m0]++Bn m0 L++[BH m0 L,BH m0 L]
theorem Xx:∀{u:Int} {l:List Int},(∀v∈l,0<=v)->∀w∈Bn u l,u<=w/\w<=BH u l
 |_,[],_,_,D=>by cases D
 |u,v::l,h,w,D=>by
  have J:=h v (by simp);have G:∀x∈l,0<=x:=λx E=>h x (by simp[E]);rcases ao.1 D with rfl|D
  ·refine⟨by omega,?_⟩;have:∀(u:Int) (l:List Int),(∀x∈l,0<=x)->u<=BH u l:=λu l h=>by
    induction l generalizing u with
    |nil=>exact bz _
    |cons a l I=>
     have:=I (u+a) λx E=>h x (by simp[E]);have:=h a (by simp);show u<=BH (u+a) l;omega
   exact this _ _ G
  ·have:=Xx (u:=u+v) G w D;show u<=w/\w<=BH (u+v) l;omega
theorem Z8z {MS MF:Fn} {x:Ax3} (N:∀{way:List Int},way.length<=100000->(∀u∈way,0<=u/\u<=1000000000000000)->Out (λo=>bA o 0=true->Ch x (way.map (MU p x t))) (MS (pxt p x t [.vC Aa (way.map Ai)])))
  {a b c m0 m1 m2 m3 m4 m5 l:Int} {L:List Int} (hL:L.length<=4096) (hb:∀u∈IZ m5 m4 m3 m0 L,0<=u/\u<=1000000000000000) (O:MF [I a,I b,I c,I m0,I m1,I m2,I m3,I m4,I m5]=some [.vC Aa ((Bn m0 L).map Ai),B true]):
  Out (λo=>bA o 0=true->BH m0 L<=V (l*256)/\Ch x ((IZ m5 m4 m3 m0 L).map (MU p x t))) (Q4 MS MF (pxt p x t [I a,I b,I c,I m0,I m1,I m2,I m3,I m4,I m5,I l])):=by
 rw[Xp];refine .bind (p:=λo=>o=_) ⟨_,O,rfl⟩ λo e=> ?_;subst e;have no:∀{X:List AC} {Q:Prop},X=[B false]->bA X 0=true->Q:=λe h=>by subst e;simp[bA,nth,CU]at h
 have S:wA [AC.vC Aa ((Bn m0 L).map Ai),B true] 0=(Bn m0 L).map Ai:=rfl;rw[S];have T:((Bn m0 L).map Ai).length=L.length:=by rw[ac,Ir]
 have U:0<L.length->Af (nth .vD (nth [] ((Bn m0 L).map Ai) ((((Bn m0 L).map Ai).length:Int)-1).toNat) 0)=BH m0 L:=λG=>by
  rw[T];have J:=Tz m0 L (by intro q;rw[q]at G;simp at G);rw[Ir]at J;have en:((L.length:Int)-1).toNat=L.length-1:=by omega
  have Y:nth [] ((Bn m0 L).map Ai) (L.length-1)=Ai (BH m0 L):=by
   rw[B5,List.getD,d7,J];rfl
  rw[en,Y];rfl
 have e0:L.length=0->BH m0 L=m0:=λh=>by rw[lf.1 h];rfl
 have wl:(IZ m5 m4 m3 m0 L).length<=100000:=by unfold IZ;simp[Ir];omega
 have em:∀e:Int,e=BH m0 L->[[I m5],[I m4],[I m3],[I m0]]++(Bn m0 L).map Ai++[[I e],[I e]]=(IZ m5 m4 m3 m0 L).map Ai:=λe he=>by
  rw[he];unfold IZ;rw[bn,bn];rfl
 have M:=N wl hb;generalize a0:(Bn m0 L).map Ai=sp at*;refine .cond (λ_=> .some (no rfl)) λ_=> ?_;refine .cond (λc=> ?_) λc=> ?_
 ·have c:=A0 c;rw[Ae (x:=(sp.length:Int)-1)];refine .cond (λ_=> ?_) λc=>by simp at c;omega
  rw[U (by omega)];refine .cond (λ_=> .some (no rfl)) λD=> ?_;have D:=AU D;refine .cond (λ_=> ?_) λc=>by rw[BM (by simp;omega)]at c;cases c
  refine .cond (λ_=> ?_) λc=>by rw[BM (by simp;omega)]at c;cases c
  rw[em _ rfl];exact .bind M λo E=> .some λhb=>⟨by omega,E hb⟩
 ·have c:=AU c;have e1:=e0 (by omega);refine .cond (λ_=> .some (no rfl)) λD=> ?_;have D:=AU D;refine .cond (λ_=> ?_) λc=>by rw[BM (by simp;omega)]at c;cases c
  refine .cond (λ_=> ?_) λc=>by rw[BM (by simp;omega)]at c;cases c
  rw[em _ e1.symm];exact .bind M λo E=> .some λhb=>⟨by omega,E hb⟩
def Vd (p:Pth) (x:Ax3) (t:Trk) (pa pb m0 v z m3 m4 m5 l:Int):Prop:=RT pa pb m0 v z l/\Ch x ((IZ m5 m4 m3 m0 (AJ pa pb v z).1).map (MU p x t))
theorem Ze7 {x:Ax3} (h:Fix p x t) {a b c:Int} (J:Plan3 a b c) {m0 m3 m4 m5:Int} (v z l:Int) (M:(AJ a b v z).2=true->0<=m0/\m0<=400000000000) (S:0<=m3/\m3<=400000000000) (T:0<=m4/\m4<=400000000000) (U:0<=m5/\m5<=400000000000):
  Out (λo=>bA o 0=true->Vd p x t a b m0 v z m3 m4 m5 l) (Iu (pxt p x t [I a,I b,I c,I m0,I v,I z,I m3,I m4,I m5,I l])):=by
 by_cases E:(AJ a b v z).2=true
 ·have hb:=M E;have L:=Qrn J (u:=m0) (by omega) v z m3 m4 m5;rw[E]at L;obtain⟨b1,b2⟩:=LQ J v z;have be:=V9 (N:=16777216) m0 (AJ a b v z).1 b2;have this := Z8z (MS := K7) (MF := Fc) (l := l) (Zjt h) b1 (m3 := m3) (m4 := m4) (m5 := m5) (λu D => by
   unfold IZ at D;rw[ba,ba]at D;rcases D with(D|D)|D
   ·simp only[ao,lg,or_false]at D;rcases D with rfl|rfl|rfl|rfl<;>omega
   ·have:=Xx (λv O=>(b2 v O).1) u D;omega
   ·simp only[ao,lg,or_false]at D;rcases D with rfl|rfl<;>omega) L
  exact this.mono λo G hb=>⟨⟨E,(G hb).1⟩,(G hb).2⟩
 ·exact(Qp h J m0 v z m3 m4 m5 l).mono λo G hb=>absurd (G hb) E
def MovS (K:Kf) (c d:Cv) (l:Int):Prop:=∃v:Int,(d.m0=V (c.m0+v)/\d.m1=v/\d.m2=V (v-c.m1)/\d.m3=c.m0/\d.m4=c.m3/\d.m5=c.m4)/\
 (Vd K.p K.x K.t K.pa K.pb (V (c.m0+v)) v (V (v-c.m1)) c.m0 c.m3 c.m4 l\/v=V (c.m1+AH K.pa K.pb c.m1 c.m2))
structure Wb (c : Cv) : Prop where
 m0:0<=c.m0/\c.m0<=300000000000
 m3:0<=c.m3/\c.m3<=300000000000
 m4:0<=c.m4/\c.m4<=300000000000
theorem Qvz (h:KOK K) {c:Cv} (D:Mo K c) (w:Wb c) (l:Int) (E:Bool):Out (Mi c.m0 c.m1 c.m3 c.m4 (λv=>Vd K.p K.x K.t K.pa K.pb (V (c.m0+v)) v (V (v-c.m1)) c.m0 c.m3 c.m4 l) λr=>r=AH K.pa K.pb c.m1 c.m2)
  (EW (pxt K.p K.x K.t [I K.pa,I K.pb,I K.pc,I c.o0,I c.o1,B E,B c.o3,B c.o4,I c.m0,I c.m1,I c.m2,I c.m3,I c.m4,I c.m5,I l])):=
 TE (F := λ_ => True) (by have := h.plan.b; omega) (Ni h.plan D) (λv _ _ _ => Ze7 h.f h.plan _ _ _ (λG => by
  have:=DH h.plan (FA.1 G).1;have:=w.m0;rw[Ae];omega) (by have:=w.m0;omega) (by have:=w.m3;omega) (by have:=w.m4;omega)) (λv=>Qh7 h.f ..) Nc Sq (λ_ J=>S9 J)
theorem Zj0 (h:KOK K) {c:Cv} (D:Mo K c) (w:Wb c) (l:Int) {aX:Int} (E:i64 aX):Out (Of c.m0 c.m1 c.m3 c.m4 (λv=>Vd K.p K.x K.t K.pa K.pb (V (c.m0+v)) v (V (v-c.m1)) c.m0 c.m3 c.m4 l) λr=>r=AH K.pa K.pb c.m1 c.m2)
  (G8 (pxt K.p K.x K.t [I K.pa,I K.pb,I K.pc,I c.o0,I c.o1,B c.o2,B c.o3,B c.o4,I c.m0,I c.m1,I c.m2,I c.m3,I c.m4,I c.m5,I l,I aX,I c.e0,I c.e1,I c.e2,I c.e3,I c.before,I c.s3])):=
 Wn (Qvz h D w l false) (Ni h.plan D) Yl (λv => Ze7 h.f h.plan _ _ _ (λG => by
  have:=DH h.plan (FA.1 G).1;have:=w.m0;rw[Ae];omega) (by have:=w.m0;omega) (by have:=w.m3;omega) (by have:=w.m4;omega)) Nc (λ_ J=>Qre E J) Qk6
theorem MovS.same {c d e:Cv} (h:MovS K c d a) (e0:e.m0=d.m0) (e1:e.m1=d.m1) (e2:e.m2=d.m2) (e3:e.m3=d.m3) (D:e.m4=d.m4) (E:e.m5=d.m5):MovS K c e a:=by
 obtain⟨v,⟨G,a1,a2,a3,a4,a5⟩,b⟩:=h;exact⟨v,⟨e0.trans G,e1.trans a1,e2.trans a2,e3.trans a3,D.trans a4,E.trans a5⟩,b⟩
theorem Sr (h:KOK K) {c:Cv} (D:Mo K c) (w:Wb c) (l:Int):MovS K c (Cy K c l) l:=by
 refine⟨nxV K c l,⟨rfl,rfl,rfl,rfl,rfl,rfl⟩,?_⟩;rcases Qo8 (Qvz h D w l c.o2)with q|⟨r,q,rfl⟩
 ·exact .inl q
 ·exact .inr q
theorem Qn8 (c:Cv):(Bx c).m0=c.m0/\(Bx c).m1=c.m1/\(Bx c).m2=c.m2/\(Bx c).m3=c.m3/\(Bx c).m4=c.m4/\(Bx c).m5=c.m5:=by unfold Bx;split<;>exact⟨rfl,rfl,rfl,rfl,rfl,rfl⟩
theorem Zgr (h:KOK K) {c:Cv} (E:Mo K c) (w:Wb c) (l:Int) {aX:Int} (G:i64 aX):MovS K c (Gb K c l aX) l:=by
 unfold Gb;split
 ·exact(Sr h E w l).same rfl rfl rfl rfl rfl rfl
 ·have key:MovS K c (GG c (thO K c l aX)) l:=by
   obtain⟨o,D,v,s,b,z,y,e,rfl,J⟩:=Zj0 h E w l G;have D:G8 (thL K c l aX)=some (DK c.m0 c.m1 c.m3 c.m4 v++[I s,I b,I z,I y,I e]):=D;have e2:thO K c l aX=DK c.m0 c.m1 c.m3 c.m4 v++[I s,I b,I z,I y,I e]:=by unfold thO;rw[D];rfl
   rw[e2];refine⟨v,⟨rfl,rfl,rfl,rfl,rfl,rfl⟩,?_⟩;rcases J with q|⟨r,q,rfl⟩
   ·exact .inl q
   ·exact .inr q
  split
  ·have f:=Qn8 (GG c (thO K c l aX));exact key.same f.1 f.2.1 f.2.2.1 f.2.2.2.1 f.2.2.2.2.1 f.2.2.2.2.2
  ·exact key
theorem Qx4 (h:KOK K) {c:Cv} (D:Mo K c) (w:Wb c) (l:Int) {s:Sgm} (E:i64 s.aX):MovS K c (DS K c l s) l:=by
 unfold DS;split
 ·exact(Sr h D w l).same rfl rfl rfl rfl rfl rfl
 ·exact Zgr h D w l E
def Q8l (K:Kf) (c d:Cv):Prop:=(d.m0=c.m0/\d.m1=c.m1/\d.m2=c.m2/\d.m3=c.m3/\d.m4=c.m4/\d.m5=c.m5)/\(vF K c).aX≠0/\c.y0≠(vF K c).aU/\(itK K (vF K c).aU).aP≠6/\c.o2=false/\d.y0=c.y0
theorem Qze (h:KOK K) {c:Cv} (D:Mo K c) (w:Wb c) (l:Int):MovS K c (BB K c l) l\/Q8l K c (BB K c l):=by
 unfold BB;by_cases e:(vF K c).aX=0
 ·rw[aa (.inl e)];exact .inl (Sr h D w l)
 ·have G:=(FG h e).2.2;by_cases a:(vF K c).aX=0\/(c.o2=true/\c.y0≠(vF K c).aU)
  ·rw[aa a];exact .inl (Sr h D w l)
  ·rw[ab a];by_cases b:c.y0=(vF K c).aU
   ·rw[aa b];exact .inl (Qx4 h D w l G)
   ·rw[ab b];by_cases d:Er K c (vF K c)=true
    ·rw[aa d];exact .inl (Qx4 (c:=goC K c (vF K c)) h D ⟨w.m0,w.m3,w.m4⟩ l G)
    ·rw[ab d];have I:(itK K (vF K c).aU).aP≠6:=λq=>d (by unfold Er;rw[q];rfl);have E:c.o2=false:=by
      cases E:c.o2 with
      |false=>rfl
      |true=>exact absurd (.inr ⟨E,b⟩) a
     split
     ·have f:=Qn8 c;exact .inr ⟨f,e,b,I,E,by unfold Bx;split<;>rfl⟩
     ·exact .inr ⟨⟨rfl,rfl,rfl,rfl,rfl,rfl⟩,e,b,I,E,rfl⟩
abbrev MK (K:Kf) (u:Int):Pt:=MU K.p K.x K.t u
theorem Ch.tail {x:Ax3} {l:List Pt} (h:Ch x (q::l)):Ch x l:=λj D=>h (j+1) (by rw[bh];omega)
theorem Ch.head {x:Ax3} {a b c d:Pt} {l:List Pt} (h:Ch x (a::b::c::d::l)):De x [a,b,c,d]:=h 0 (by simp)
structure LimX (a : Axs) : Prop where
 ls:1<=a.aS/\a.aS<=1000
 la:2<=a.bF/\a.bF<=1000
 lj:4<=a.bG/\a.bG<=1000
theorem Qql {a:Axs} (h:LimX a) (v:Int):WiP a [v,v,v,v]:=by
 have D:V (v-v)=0:=by rw[Int.sub_self];rfl
 have I:V (0-0)=0:=rfl;have e1:Bl [v,v,v,v]=[0,0,0]:=by show [V (v-v),V (v-v),V (v-v)]=_;rw[D]
 have e2:Bl [0,0,0]=[0,0]:=rfl;have e3:Bl [0,0]=[0]:=rfl;have bd:∀{n:Int} {l:List Int},0<=n/\n<=1000->(∀v∈l,v=0)->BdP l n:=λJ E v G=>by
  rw[E v G,Ae (x:=0-_)];omega
 have:=h.ls;have:=h.la;have:=h.lj
 unfold WiP;rw[e1,e2,e3];exact⟨bd (by omega) (by simp),bd (by omega) (by simp),bd (by omega) (by simp)⟩
theorem Zdq {x:Ax3} (h:Ax3M x) (p:Pt):De x [p,p,p,p]:=
 ⟨Qql ⟨by have:=h.a.lim;omega,by have:=h.a.lim;omega,by have:=h.a.lim;omega⟩ _,Qql ⟨by have:=h.b.lim;omega,by have:=h.b.lim;omega,by have:=h.b.lim;omega⟩ _,Qql ⟨by have:=h.c.lim;omega,by have:=h.c.lim;omega,by have:=h.c.lim;omega⟩ _⟩
theorem Q0f {x:Ax3} (h:Ax3M x) {p:Pt} {l:List Pt} (D:∀q∈l,q=p):Ch x l:=λj E=>by
 have e:l=List.replicate l.length p:=List.eq_replicate_iff.2 ⟨rfl,D⟩;have:(l.drop j).take 4=[p,p,p,p]:=by
  rw[e,List.drop_replicate,List.take_replicate,Nat.min_eq_left (by omega)];rfl
 rw[this];exact Zdq h p
theorem Q36 {x:Ax3} (h:Ax3M x) {a p:Pt} {l:List Pt} (G:De x [a,p,p,p]) (E:∀q∈l,q=p):Ch x (a::l):=λj D=>by
 cases j with
 |zero=>
  have e:l=List.replicate l.length p:=List.eq_replicate_iff.2 ⟨rfl,E⟩;have D:0+3<l.length+1:=D;have:((a::l).drop 0).take 4=[a,p,p,p]:=by
   show a::l.take 3=_;rw[e,List.take_replicate,Nat.min_eq_left (by omega)];rfl
  rw[this];exact G
 |succ j=>exact Q0f h E j (by rw[bh]at D;omega)
def sT (K:Kf) (t:Trk):Kf:=⟨K.x,K.pa,K.pb,K.pc,K.bH,K.lag,K.aA,K.closed,K.p,K.len,K.set,t⟩
theorem KOK.sT (h:KOK K) {t:Trk} (D:TH t):KOK (Go.Bm.sT K t):=⟨⟨h.f.p,h.f.x,D⟩,h.plan,h.aF,h.aD,h.count,h.aS,h.len,h.set⟩
def JG:List Pce->Int->Pt->Pt
 |[],_,d=>d
 |c::l,u,d=>if u>c.at_+c.aR then JG l u d else if c.bD≠0\/u=c.at_+c.aR then c.aT else c.was
def EO (t:Trk) (u:Int):Pt:=JG t.aE (clT t u) t.aT
theorem Z7x (h:TQ t) (u:Int):Qne (Am S_) (A4 t++[I u])=some (ptR (EO t u)):=by
 refine co (Z6s _ (t.aE.map AM) t.length t.aQ t.aT.x t.aT.y t.aT.z u) ?_;have J:mx 0 (mn u t.length)=clT t u:=by
  unfold mx mn clT A6
  (repeat' split)<;>omega
 rw[J];have key:Out (λo=>o=(1,ptR (EO t u))\/(o=(2, .vC At (t.aE.map AM)::I t.length::I t.aQ::I t.aT.x::I t.aT.y::I t.aT.z::[I 0,I 0,I 0])/\EO t u=t.aT))
   (Am S_ [I (clT t u), .vC At (t.aE.map AM),I ((t.aE.map AM).length:Int),I ((0:Nat):Int), .vC At (t.aE.map AM),I t.length,I t.aQ,I t.aT.x,I t.aT.y,I t.aT.z,I 0,I 0,I 0]):=by
  refine BZ (λi:Nat=>[I (clT t u), .vC At (t.aE.map AM),I ((t.aE.map AM).length:Int),I (i:Int), .vC At (t.aE.map AM),I t.length,I t.aQ,I t.aT.x,I t.aT.y,I t.aT.z,I 0,I 0,I 0])
   (λi=>i<=t.aE.length/\EO t u=JG (t.aE.drop i) (clT t u) t.aT) (λi=>t.aE.length-i) _ ?_ 0 ⟨jz _,rfl⟩
  rintro i ⟨O,hf⟩;rw[Z5f];have S:((t.aE.map AM).length:Int)=t.aE.length:=by rw[ac]
  refine .cond (λE=> ?_) λE=> ?_
  ·have E:=A0 E;have D:i<t.aE.length:=by omega
   refine .cond (λ_=> ?_) λe=>(inB (by omega) E e).elim;rw[aj,O5 D];have T:=h.count;have U:=h.pos i D;have X:=h.len;have he:eI t.aE i=(pcA t.aE i).at_+(pcA t.aE i).aR:=rfl;rw[jj D]at hf;have L:t.aE[i]=pcA t.aE i:=by unfold pcA;rw[List.getD,ag D];rfl
   rw[L]at hf;unfold JG at hf;generalize pcA t.aE i=c at*;have M:V (gA (AM c) 0+gA (AM c) 1)=c.at_+c.aR:=by
    show V (c.at_+c.aR)=_;exact Ae
   rw[M,Ae (x:=(i:Int)+1)];refine .cond (λa=> ?_) λa=> ?_
   ·have a:=A0 a;rw[aa a]at hf;exact .some (.inl ⟨rfl,i+1,rfl,⟨by omega,hf⟩,by omega⟩)
   ·have a:=AU a;rw[ab a]at hf;refine .cond (λb=> ?_) λb=> .cond (λb2=> ?_) λb2=> ?_
    ·have b:c.bD≠0:=by simpa [gA,nth,Af]using b
     rw[aa (.inl b)]at hf;exact .some (.inr ⟨by simp, .inl (by rw[hf];rfl)⟩)
    ·have b2:clT t u=c.at_+c.aR:=eq_of_beq b2;rw[aa (.inr b2)]at hf;exact .some (.inr ⟨by simp, .inl (by rw[hf];rfl)⟩)
    ·have b:c.bD=0:=by simpa [gA,nth,Af]using b
     have b2:clT t u≠c.at_+c.aR:=λe=>by rw[beT e]at b2;cases b2
     rw[ab (λq=>by rcases q with q|q;exact q b;exact b2 q)]at hf;exact .some (.inr ⟨by simp, .inl (by rw[hf];rfl)⟩)
  ·have E:=AU E;rw[d9 (by omega)]at hf;exact .some (.inr ⟨by simp, .inr ⟨rfl,hf⟩⟩)
 obtain⟨o,N,G⟩:=key;refine eB N ?_;rcases G with rfl|⟨rfl,G⟩
 ·exact eT rfl rfl
 ·rw[G];exact eF rfl (eT rfl rfl)
def DU (K:Kf) (c:Cv):Bool:=AP c&& !decide (HZ K.t (AB c))
def BI (K:Kf) (c:Cv) (to:Int):Trk:=AR K.p K.x (EO K.t (AB c)) (Ay K c) to
def Kn (K:Kf) (c:Cv) (to:Int):List AC:=if DU K c=true then A4 (BI K c to)++[I 0,I 0,I 0,I 0,I 0,I 0,B true]else [.vC At [],I 0,I 0,I 0,I 0,I 0,I 0,I 0,I 0,I 0,I 0,I 0,B false]
theorem Z9p {c:Cv} (D:P [I c.m0,I c.m1,I c.m2,I c.m3,I c.m4,I c.m5]=some [B (AP c)]) (E:S (A4 K.t++[I (AB c)])=some [B (decide (HZ K.t (AB c)))])
  (G:T (A4 K.t++[I (AB c)])=some (ptR (EO K.t (AB c)))) (J:W (A4 K.t++[I (AB c)])=some [I (Ay K c)])
  (L:∀(d:Pt) (a b:Int),Z (Bv K.p++AL K.x++[I d.x,I d.y,I d.z,I a,I b])=some (A4 (AR K.p K.x d a b))) (N:M [I 0]=some [I 0,I 0,I 0,I 0,I 0,I 0]):
  Qb9 M Z W T S P (pxt K.p K.x K.t [I c.m0,I c.m1,I c.m2,I c.m3,I c.m4,I c.m5,I k])=some (Kn K c k):=by
 rw[Yci];refine eB D ?_;unfold Kn DU BI;cases O:AP c
 ·exact eT rfl rfl
 ·refine eF rfl (eB E ?_);cases U:decide (HZ K.t (AB c))
  ·refine eF rfl (eB G (eB J (eB (L (EO K.t (AB c)) (Ay K c) k) (eB N ?_))));rw[aa (show(true&& !false)=true from rfl)];rfl
  ·exact eT rfl rfl
theorem Zcx (h:KOK K) (c:Cv) (to:Int):KT (pxt K.p K.x K.t [I c.m0,I c.m1,I c.m2,I c.m3,I c.m4,I c.m5,I to])=some (Kn K c to):=
 Z9p (Qk8 c) (Zxi h.f.t.q _) (Z7x h.f.t.q _) (P8 h.f.t.q _) (λd a b=>Zbk h.f.p h.f.x.ok) (Qd1 0)
theorem Za8 (h:KOK K) (c:Cv) (to:Int):TH (BI K c to):=Q0c _ _ _ h.f.x.ok h.f.p
def zM (c:Cv):Cv:={c with m0:=0,m1:=0,m2:=0,m3:=0,m4:=0,m5:=0}
def Fi (c d:Cv):Prop:=d=c\/∃a:Int,c.g0=0/\d={c with g0:=1,g1:=19,g2:=a}
def Nn (K:Kf) (c:Cv) (n:Int):Cv:={c with g0:=gA ((JL (I n::Ab K c)).getD []) 61,g1:=gA ((JL (I n::Ab K c)).getD []) 62,g2:=gA ((JL (I n::Ab K c)).getD []) 63}
theorem brD {c:Cv} {F:Cv->Option (List AC)} {p:Prop} [Decidable p] {X Y:Option (List AC)} (D:p->∃d:Cv,Fi c d/\X=F d) (E: ¬p->∃d:Cv,Fi c d/\Y=F d):∃d:Cv,Fi c d/\(bif decide p then X else Y)=F d:=by
 by_cases h:p
 ·rw[al h];exact D h
 ·rw[am h];exact E h
theorem bdE {c:Cv} {F:Cv->Option (List AC)} {m:Option (List AC)} {f:Fn} {o:List AC} (h:m=some o) (hf:∃d:Cv,Fi c d/\f o=F d):∃d:Cv,Fi c d/\m.bind f=F d:=by
 rw[h];exact hf
theorem Ztc (c:Cv) (l E a1 a2 G b1 b2:Int):∃d:Cv,Fi c d/\ON [I c.g0,I c.g1,I c.g2,I l,I E,I a1,I a2,I G,I b1,I b2]=some [I d.g0,I d.g1,I d.g2]:=by
 show∃d:Cv,Fi c d/\Qnw _=_;rw[Zy0];by_cases h:c.g0=0
 ·have D:∀a:Int,∃d:Cv,Fi c d/\some [I 1,I 19,I a]=some [I d.g0,I d.g1,I d.g2]:=λa=>⟨{c with g0:=1,g1:=19,g2:=a}, .inr ⟨a,h,rfl⟩,rfl⟩;have no:∃d:Cv,Fi c d/\some [I c.g0,I c.g1,I c.g2]=some [I d.g0,I d.g1,I d.g2]:=⟨c, .inl rfl,rfl⟩;rw[bnF h];exact brD (F:=λd=>some [I d.g0,I d.g1,I d.g2]) (λ_=>D 0) λ_=>brD (F:=λd=>some [I d.g0,I d.g1,I d.g2]) (λ_=>D 0) λ_=>brD (F:=λd=>some [I d.g0,I d.g1,I d.g2]) (λ_=>D _) λ_=>brD (F:=λd=>some [I d.g0,I d.g1,I d.g2]) (λ_=>D _) λ_=>brD (F:=λd=>some [I d.g0,I d.g1,I d.g2]) (λ_=>D _) λ_=>brD (F:=λd=>some [I d.g0,I d.g1,I d.g2]) (λ_=>D _) λ_=>no
 ·exact⟨c, .inl rfl,by rw[bnT h];rfl⟩
theorem Zgn {MC MM MU:Fn} {c:Cv} {n:Int} (hn:n<=4194304) (N:MU (Ab K c)=some [I (AB c)]) (O:∀u,MM (pxt K.p K.x K.t [I u])=some (ptR (Co K.p K.x K.t u)))
  (S:∀D a1 a2 E b1 b2:Int,∃d:Cv,Fi c d/\MC [I c.g0,I c.g1,I c.g2,I K.lag,I D,I a1,I a2,I E,I b1,I b2]=some [I d.g0,I d.g1,I d.g2]):
  ∃d:Cv,Fi c d/\Ql1 MC MM MU (I n::Ab K c)=some (Ab K d):=by
 rw[Zxz];unfold Sz;have no:∃d:Cv,Fi c d/\some (Ab K c)=some (Ab K d):=⟨c, .inl rfl,rfl⟩;have J:∀D a1 a2 E b1 b2:Int,∃d:Cv,Fi c d/\((MC [I c.g0,I c.g1,I c.g2,I K.lag,I D,I a1,I a2,I E,I b1,I b2]).bind λo=>some (Ab K {c with g0:=gA o 0,g1:=gA o 1,g2:=gA o 2}))=some (Ab K d):=λD a1 a2 E b1 b2=>by
  obtain⟨d,T,e⟩:=S D a1 a2 E b1 b2;rcases T with rfl|⟨a,U,rfl⟩
  ·exact⟨d, .inl rfl,eB e rfl⟩
  ·exact⟨_, .inr ⟨a,U,rfl⟩,eB e rfl⟩
 have X: ¬n<0->0<=V (n.tdiv 1048576):=λh=>by
  rw[ap (by omega),Ae];omega
 generalize V (n.tdiv 1048576)=q at*;have F:Cv->Option (List AC):=λd=>some (Ab K d);refine brD (F:=λd=>some (Ab K d)) (λ_=>no) λY=>brD (F:=λd=>some (Ab K d)) (λ_=>no) λh2=> ?_;refine bdE (F:=λd=>some (Ab K d)) N (bdE (F:=λd=>some (Ab K d)) (O (AB c)) ?_);refine brD (F:=λd=>some (Ab K d)) (λG=>brD (F:=λd=>some (Ab K d)) (λ_=>J ..) λe=>absurd G e) λG=> ?_;refine brD (F:=λd=>some (Ab K d)) (λL=>brD (F:=λd=>some (Ab K d)) (λe=>absurd e G) λ_=>brD (F:=λd=>some (Ab K d)) (λ_=>J ..) λe=>absurd L e) λL=> ?_;refine brD (F:=λd=>some (Ab K d)) (λM=>brD (F:=λd=>some (Ab K d)) (λe=>absurd e G) λ_=>brD (F:=λd=>some (Ab K d)) (λe=>absurd e L) λ_=>brD (F:=λd=>some (Ab K d)) (λ_=>J ..) λe=>absurd M e) λM=> ?_;have:=X Y;omega
theorem SI (h:KOK K) (c:Cv) {n:Int} (G:n<=4194304):JL (I n::Ab K c)=some (Ab K (Nn K c n))/\Fi c (Nn K c n):=by
 obtain⟨d,E,D⟩:=Zgn (MC:=ON) (MM:=Dh) G (LP K c) (KI h.f) (λJ a1 a2 L b1 b2=>Ztc c K.lag J a1 a2 L b1 b2);have D:JL (I n::Ab K c)=some (Ab K d):=D;have e:Nn K c n=d:=by
  unfold Nn;rw[D];rcases E with rfl|⟨a,M,rfl⟩<;>rfl
 rw[e];exact⟨D,E⟩
def HQ (K:Kf) (c:Cv):Cv:={c with aH:=bA ((Ns (Ab K c)).getD []) 77}
def RP (K:Kf) (c:Cv) (s:Int):Int:=gA ((Nb (I s::Ab K c)).getD []) 0
end Go.Bm
namespace Go.Bm
theorem Z3s (K:Kf) (c:Cv) (J:K.p.aF.length<=1000000) (i:Int):∃v:Int,OS (I i::Ab K c)=some (I v::Ab K c):=by
 have key:Out (λo=>∃v:Int,o=(1,I v::Ab K c)) (Am Ut (I i::I 0:: .vC Ag (K.p.aF.map Ax)::I ((K.p.aF.map Ax).length:Int)::I ((0:Nat):Int)::Ab K c)):=by
  refine BZ (λs:Int×Nat=>I i::I s.1:: .vC Ag (K.p.aF.map Ax)::I ((K.p.aF.map Ax).length:Int)::I (s.2:Int)::Ab K c) (λs=>s.2<=K.p.aF.length) (λs=>K.p.aF.length-s.2) _ ?_ (0,0) (jz _);rintro⟨v,k⟩ E;dsimp only at E;refine Out.eqv (Z5s i v (K.p.aF.map Ax) ((K.p.aF.map Ax).length:Int) k K c) ?_;have L:((K.p.aF.map Ax).length:Int)=K.p.aF.length:=by rw[ac]
  refine .cond (λD=> ?_) λ_=> .some (.inr ⟨by simp,v,rfl⟩);have D:=A0 D;refine .cond (λ_=> ?_) λe=>(inB (by omega) D e).elim;refine .cond (λ_=> .some (.inr ⟨by simp,v,rfl⟩)) λ_=> ?_;rw[Ae (x:=(k:Int)+1)];exact .some (.inl ⟨rfl,(_,k+1),rfl,by dsimp only;omega,by dsimp only;omega⟩)
 obtain⟨o,G,v,rfl⟩:=key;refine⟨v,?_⟩;show Qfb (Am Ut) _=_;rw[Zlg];exact eB G (eT rfl rfl)
theorem Znv (K:Kf) (c:Cv) (L:K.p.aF.length<=1000000) (s:Int):Nb (I s::Ab K c)=some [I (RP K c s)]:=by
 have key:Out (λo=>∃v:Int,o=(1,I v::Ab K c)) (Am Lv (I s::I 0::I 0:: .vC Ag (K.p.aF.map Ax)::I ((K.p.aF.map Ax).length:Int)::I ((0:Nat):Int)::Ab K c)):=by
  refine BZ (λz:Int×Int×Nat=>I s::I z.1::I z.2.1:: .vC Ag (K.p.aF.map Ax)::I ((K.p.aF.map Ax).length:Int)::I (z.2.2:Int)::Ab K c) (λz=>z.2.2<=K.p.aF.length) (λz=>K.p.aF.length-z.2.2) _ ?_ (0,0,0) (jz _);rintro⟨v,w,k⟩ G;dsimp only at G;refine Out.eqv (Zlj s v w (K.p.aF.map Ax) ((K.p.aF.map Ax).length:Int) k K c) ?_;have M:((K.p.aF.map Ax).length:Int)=K.p.aF.length:=by rw[ac]
  refine .cond (λD=> ?_) λ_=> .some (.inr ⟨by simp,w,rfl⟩);have D:=A0 D;refine .cond (λ_=> ?_) λe=>(inB (by omega) D e).elim;rw[Ae (x:=(k:Int)+1)];refine .cond (λ_=> .cond (λ_=> ?_) λ_=> ?_) λ_=> ?_;all_goals exact .some (.inl ⟨rfl,(_,_,k+1),rfl,by dsimp only;omega,by dsimp only;omega⟩)
 obtain⟨o,J,v,rfl⟩:=key;have E:Nb (I s::Ab K c)=some [I v]:=by
  show ZZ (Am Lv) _=_;refine(Ztd _ s K c).trans ?_;exact eB J rfl
 have e:RP K c s=v:=by unfold RP;rw[E];rfl
 rw[e];exact E
theorem Zwl {MB J L:Fn} {c:Cv} (h:KOK K) (N:L (Ab K c)=some (Ax (vF K c)++[B (D8 K c).isSome])) (O:J (Ab K c)=some [I (Ay K c)]) (S:∀i,∃v:Int,MB (I i::Ab K c)=some (I v::Ab K c)):
  ∃b:Bool,(c.aH=true->b=true)/\Qm2 MB J L (Ab K c)=some (Ab K {c with aH:=b}):=by
 have no:∃b:Bool,(c.aH=true->b=true)/\some (Ab K c)=some (Ab K {c with aH:=b}):=⟨c.aH,id,rfl⟩;have E:∀{m:Option (List AC)} {f:Fn} {o:List AC},m=some o->(∃b:Bool,(c.aH=true->b=true)/\f o=some (Ab K {c with aH:=b}))->∃b:Bool,(c.aH=true->b=true)/\m.bind f=some (Ab K {c with aH:=b}):=λh hf=>by rw[h];exact hf
 have D:∀{b:Bool} {X Y:Option (List AC)},(b=true->∃d:Bool,(c.aH=true->d=true)/\X=some (Ab K {c with aH:=d}))->(b=false->∃d:Bool,(c.aH=true->d=true)/\Y=some (Ab K {c with aH:=d}))->∃d:Bool,(c.aH=true->d=true)/\(bif b then X else Y)=some (Ab K {c with aH:=d}):=fun{b} _ _ T U=>by
  cases b
  ·exact U rfl
  ·exact T rfl
 rw[Zig];refine E N (D (λM=>D (λ_=>D (λ_=>D (λ_=>E O ?_) λ_=>no) λe=> ?_) λ_=>no) λ_=>no)
 ·obtain⟨v,V⟩:=S (vF K c).aU;refine E V (D (λ_=>⟨true,λ_=>rfl,rfl⟩) λ_=>⟨c.aH,id,rfl⟩)
 ·cases G:D8 K c with
  |none=>rw[G]at M;cases M
  |some g=>
   obtain⟨q1,q2,-⟩:=h.aF g (SP G);have eg:vF K c=g:=by unfold vF;rw[G];rfl
   have e:(decide (0<=(vF K c).aU)&&decide ((vF K c).aU<((K.aA.map Ah).length:Int)))=false:=e;rw[eg,inM (f:=Ah) q1 q2]at e;cases e
theorem Zzw (h:KOK K) (c:Cv):Ns (Ab K c)=some (Ab K (HQ K c))/\(c.aH=true->(HQ K c).aH=true):=by
 obtain⟨b,hb,D⟩:=Zwl (MB:=OS) h (VK h c) (NA h c) (Z3s K c (by have:=h.f.p.count;omega));have D:Ns (Ab K c)=some (Ab K {c with aH:=b}):=D;have e:HQ K c={c with aH:=b}:=by unfold HQ;rw[D];rfl
 rw[e];exact⟨D,hb⟩
def ES (K:Kf) (c:Cv) (n:Int):Bool:=(D8 K c).isSome&&decide (0<n)&&decide (c.way=0)&& !c.on&&decide (c.aI=0)&&c.o2&&decide ((vF K c).aX=0)&&DU K c
def Qz (K:Kf) (c:Cv) (n:Int):Int:=mx (mx 0 (V (Ay K c-n))) (RP K c (Ay K c))
def CK (K:Kf) (c:Cv) (n:Int):Kf×Cv:=if ES K c n=true then(sT K (BI K c (Qz K c n)),{zM c with o2:=false,way:=1,home:=Ay K c})else(K,c)
theorem Zri {c:Cv} {n:Int} (N:T (Ab K c)=some (Ax (vF K c)++[B (D8 K c).isSome])) (O:W (Ab K c)=some [I (Ay K c)])
  (S:∀s,Z (I s::Ab K c)=some [I (RP K c s)]) (D:∀to,M (pxt K.p K.x K.t [I c.m0,I c.m1,I c.m2,I c.m3,I c.m4,I c.m5,I to])=some (Kn K c to)):
  Qeu M Z W T (I n::Ab K c)=some (Ab (CK K c n).1 (CK K c n).2):=by
 rw[Zg1];have no:ES K c n=false->some (Ab K c)=some (Ab (CK K c n).1 (CK K c n).2):=λe=>by unfold CK;rw[ab (by rw[e];simp)]
 refine eB N ?_;refine eC (λe=> ?_) λe1=> ?_
 ·have e:(!(D8 K c).isSome)=true:=e;exact no (by unfold ES;rw[ig]at e;rw[e];rfl)
 have e1:(D8 K c).isSome=true:=by simpa [bA,nth,CU]using e1
 refine eC (λe=>no ?_) λe2=> ?_
 ·unfold ES;rw[am (show¬0<n by have:=A0 e;omega)];simp
 have e2:0<n:=by have:=AU e2;omega
 refine eC (λe=>no ?_) λe3=> ?_
 ·unfold ES;rw[am (show¬c.way=0 by simpa using e)];simp
 have e3:c.way=0:=by simpa using e3
 refine eC (λe=>no ?_) λG=> ?_
 ·unfold ES;rw[show c.on=true from e];simp
 have G:c.on=false:=G;refine eC (λe=>no ?_) λJ=> ?_
 ·unfold ES;rw[am (show¬c.aI=0 by simpa using e)];simp
 have J:c.aI=0:=by simpa using J
 refine eC (λe=>no ?_) λL=> ?_
 ·unfold ES;rw[show c.o2=false by simpa using e];simp
 have L:c.o2=true:=by simpa using L
 refine eC (λe=>no ?_) λe7=> ?_
 ·unfold ES;rw[am (show¬(vF K c).aX=0 by simpa [gA,nth,Af]using e)];simp
 have e7:(vF K c).aX=0:=by simpa [gA,nth,Af]using e7
 have E:ES K c n=DU K c:=by
  unfold ES;rw[e1,al e2,al e3,G,al J,L,al e7];rfl
 refine eB O (eB (S (Ay K c)) ?_);have D:=D (Qz K c n);unfold Kn at D;unfold CK;rw[E];cases hb:DU K c
 ·rw[hb,ab (by simp)]at D;exact eB D (eT rfl rfl)
 ·rw[hb,aa rfl]at D;rw[aa rfl];generalize BI K c (Qz K c n)=t at*;exact eB D (eF rfl (by kernel_rfl))
theorem Z2b (h:KOK K) (c:Cv) (n:Int):RJ (I n::Ab K c)=some (Ab (CK K c n).1 (CK K c n).2):=
 Zri (VK h c) (NA h c) (Znv K c (by have:=h.f.p.count;omega)) (Zcx h c)
def evA (s:Kf×Cv) (k n:Int):Kf×Cv:=
 if k=13 then(s.1,Nn s.1 (evC s.2 k n) n)else if k=12 then(s.1,HQ s.1 (evC s.2 k n))else if k=7 then CK s.1 (evC s.2 k n) n else(s.1,evC s.2 k n)
theorem Zgc (c:Cv) (x:Int) {k:Int} (n:Int)
  (L:k≠11->S [I c.o0,I c.o1,B c.o2,B c.o3,B c.o4,I x,I k,I n]=some [I (evC c k n).o0,I (evC c k n).o1,B (evC c k n).o2,B (evC c k n).o3,B (evC c k n).o4])
  (N:T [I c.g0,I c.g1,I c.g2,I x,I k,I n]=some [I (evC c k n).g0,I (evC c k n).g1,I (evC c k n).g2])
  (E:k=13->W (I n::Ab K (evC c k n))=some (Ab K (Nn K (evC c k n) n))) (G:k=12->Z (Ab K (evC c k n))=some (Ab K (HQ K (evC c k n))))
  (J:k=7->M (I n::Ab K (evC c k n))=some (Ab (CK K (evC c k n) n).1 (CK K (evC c k n) n).2)) (D:k=13\/k=12\/k=7):
  Tr M Z W T S (I x::I k::I n::Ab K c)=some (Ab (evA (K,c) k n).1 (evA (K,c) k n).2):=by
 rw[Qzn];have O:(evC c k n).aJ=c.aJ:=by
  show(if k=4 then true else c.aJ)=c.aJ;rw[ab]
 have U:({c with o0:=(evC c k n).o0,o1:=(evC c k n).o1,o2:=(evC c k n).o2,o3:=(evC c k n).o3,o4:=(evC c k n).o4,g0:=(evC c k n).g0,g1:=(evC c k n).g1,g2:=(evC c k n).g2}:Cv)=evC c k n:=by
  have e:(evC c k n)={c with o0:=(evC c k n).o0,o1:=(evC c k n).o1,o2:=(evC c k n).o2,o3:=(evC c k n).o3,o4:=(evC c k n).o4,g0:=(evC c k n).g0,g1:=(evC c k n).g1,g2:=(evC c k n).g2,aJ:=(evC c k n).aJ}:=rfl;rw[O]at e;exact e.symm
 refine eB (L (by omega)) (eB N ?_);show cond (k==13) ((W (I n::Ab K {c with o0:=(evC c k n).o0,o1:=(evC c k n).o1,o2:=(evC c k n).o2,o3:=(evC c k n).o3,o4:=(evC c k n).o4,g0:=(evC c k n).g0,g1:=(evC c k n).g1,g2:=(evC c k n).g2})).bind _) (cond (k==11) _ (cond (k==12) ((Z (Ab K {c with o0:=(evC c k n).o0,o1:=(evC c k n).o1,o2:=(evC c k n).o2,o3:=(evC c k n).o3,o4:=(evC c k n).o4,g0:=(evC c k n).g0,g1:=(evC c k n).g1,g2:=(evC c k n).g2})).bind _) (cond (k==7) ((M (I n::Ab K {c with o0:=(evC c k n).o0,o1:=(evC c k n).o1,o2:=(evC c k n).o2,o3:=(evC c k n).o3,o4:=(evC c k n).o4,g0:=(evC c k n).g0,g1:=(evC c k n).g1,g2:=(evC c k n).g2})).bind _) _)))=_;rw[U];unfold evA;dsimp only;generalize evC c k n=d at*;rcases D with D|D|D
 ·rw[aa D];have E:=E D;generalize Nn K d n=e at*;exact eT (beT D) (eB E rfl)
 ·rw[ab,aa D];have G:=G D;generalize HQ K d=e at*;exact eF (beF (by omega)) (eF (beF (by omega)) (eT (beT D) (eB G rfl)))
 ·rw[ab,ab,aa D];have J:=J D;generalize CK K d n=e at*;exact eF (beF (by omega)) (eF (beF (by omega)) (eF (beF (by omega)) (eT (beT D) (eB J rfl))))
theorem Z0o (h:KOK K) (c:Cv) (x k:Int) {n:Int} (E:n<=4194304):JI (I x::I k::I n::Ab K c)=some (Ab (evA (K,c) k n).1 (evA (K,c) k n).2):=by
 by_cases D:k≠7/\k≠12/\k≠13
 ·have e:evA (K,c) k n=(K,evC c k n):=by
   unfold evA;rw[ab D.2.2,ab D.2.1,ab D.1]
  rw[e];exact Qwp c x n D
 ·exact Zgc c x n (λh=>Quz Qt3 c x k n h) (Qvp (by show Qs []=_;rw[X1]) Q60 c x k n) (λ_=>(SI h _ E).1) (λ_=>(Zzw h _).1) (λ_=>Z2b h _ n) (by omega)
end Go.Bm
namespace Go.Bm
open Classical
structure Ga (K : Kf) (n : Int) (c : Cv) : Prop where
 way:c.way=0\/c.way=1\/c.way=2
 pass:0<=c.aK/\c.aK<=K.p.aD.length
 task:c.on=true->0<=c.idx/\c.idx<K.p.aD.length
 mo:Mo K c
 m0: -(16777216*n)<=c.m0/\c.m0<=16777216*n
theorem Ga.gd {n:Int} {c:Cv} (g:Ga K n c) (h:c.way=0):Gd K n c:=⟨h,g.pass,g.task,g.mo,g.m0⟩
theorem Gd.ga {n:Int} {c:Cv} (g:Gd K n c):Ga K n c:=⟨.inl g.way,g.pass,g.task,g.mo,g.m0⟩
def w0 (c:Cv):Cv:={c with way:=0}
theorem Ga.w0 {n:Int} {c:Cv} (g:Ga K n c):Gd K n (Go.Bm.w0 c):=⟨rfl,g.pass,g.task,g.mo,g.m0⟩
theorem Ga.up {n:Int} {c:Cv} (g:Ga K n c) (D:0<=n):Ga K (n+1) c:=⟨g.way,g.pass,g.task,g.mo,by have:=g.m0;omega⟩
def BQ (K:Kf) (c:Cv) (E:List Evn):Kf×Cv:=E.foldl (λs e=>evA s e.aP e.n) (K,Fs c)
def EvE (E:List Evn):Prop:=E.length<=1000000/\∀e∈E,e.n<=4194304
theorem Qk2 (h:KOK K) (c:Cv) (n:Int):KOK (CK K c n).1:=by
 unfold CK;split
 ·exact h.sT (Za8 h c _)
 ·exact h
theorem Qve {s:Kf×Cv} (h:KOK s.1) (k n:Int):KOK (evA s k n).1:=by
 unfold evA;split
 ·exact h
 ·split
  ·exact h
  ·split
   ·exact Qk2 h _ _
   ·exact h
theorem Zfa:∀(E:List Evn) {s:Kf×Cv},KOK s.1->KOK (E.foldl (λs e=>evA s e.aP e.n) s).1
 |[],_,h=>h
 |e::E,_,h=>Zfa E (Qve h e.aP e.n)
theorem Sx (h:KOK K) (c:Cv) (E:List Evn):KOK (BQ K c E).1:=Zfa E h
theorem Zui {L M D N O S MU T U V X G:Fn} {c:Cv} (Y:EvE E) (h:KOK K)
  (hV:∀{K:Kf} (_:KOK K) (c:Cv) (x k:Int) {n:Int},n<=4194304->G (I x::I k::I n::Ab K c)=some (Ab (evA (K,c) k n).1 (evA (K,c) k n).2)):
  Am (NS L M D N O S MU T U V X G) (.vC kPt (E.map evR)::I (E.map evR).length::I 0::(Ci++Ab K (Fs c)))=some (1,Ci++Ab (BQ K c E).1 (BQ K c E).2):=by
 have key:Out (λo=>o=(1,Ci++Ab (BQ K c E).1 (BQ K c E).2)) (Am (NS L M D N O S MU T U V X G) (.vC kPt (E.map evR)::I (E.map evR).length::I ((0:Nat):Int)::(Ci++Ab (BQ K c (E.take 0)).1 (BQ K c (E.take 0)).2))):=by
  refine BZ (λi:Nat=> .vC kPt (E.map evR)::I (E.map evR).length::I (i:Int)::(Ci++Ab (BQ K c (E.take i)).1 (BQ K c (E.take i)).2)) (λi=>i<=E.length) (λi=>E.length-i) _ ?_ 0 (by simp);intro i J;have hl:=Y.1;refine Out.eqv (Q1s L M D N O S MU T U V X G (E.map evR) (E.map evR).length i [] [] 0 0 0 0 0 0 0 (BQ K c (E.take i)).1 (BQ K c (E.take i)).2) ?_;refine .cond (λk=> ?_) λk=> ?_
  ·have k:(i:Int)<((E.map evR).length:Int):=A0 k;have J:i<E.length:=by rw[ac]at k;omega
   refine .cond (λ_=> ?_) λe=>(inB (by omega) k e).elim;rw[Qho E J];refine .bind (p:=λo=>o=_) ⟨_,hV (Sx h c (E.take i)) (BQ K c (E.take i)).2 E[i].cycle E[i].aP (Y.2 _ (bf J)),rfl⟩ λo e=> ?_;subst e;have e1:BQ K c (E.take (i+1))=evA (BQ K c (E.take i)) E[i].aP E[i].n:=by
    unfold BQ;rw[fo,ag J,ky];rfl
   rw[Ae (x:=(i:Int)+1)];refine .some (.inl ⟨rfl,i+1,?_,by omega,by omega⟩);rw[e1];have st:∀(K:Kf) (d:Cv),Ci++cR 0 (Ab K d)=Ci++Ab K d:=λ_ _=>rfl;exact ik (λz=>AC.vC kPt (E.map evR)::I (E.map evR).length::I ((i:Int)+1)::z) (st (evA (BQ K c (E.take i)) E[i].aP E[i].n).1 (evA (BQ K c (E.take i)) E[i].aP E[i].n).2)
  ·have k: ¬(i:Int)<((E.map evR).length:Int):=AU k;rw[ac]at k;rw[ip (by omega)];generalize BQ K c E=d;exact .some (.inr ⟨by simp,rfl⟩)
 obtain⟨o,h1,rfl⟩:=key;exact h1
def tdC (c:Cv):Cv:={zM c with aL:=true,way:=if c.way=1 then 2 else 0,o2:=if c.way=1 then c.o2 else true}
def toC (K:Kf) (c:Cv):Int:=if c.way=2 then K.len else c.home
def Ct (K:Kf) (c:Cv):Kf×Cv:=
 if c.aM=true/\c.m0=V (K.t.length*256)then(if DU K c=true then(sT K (BI K c (toC K c)),tdC c)else(K,c))else(K,Cy K c K.t.length)
def Jc (c:Cv):Int:=if c.way=2 then 5 else 4
theorem Zvc {c:Cv} {m:AC} (D:M (pxt K.p K.x K.t [I c.m0,I c.m1,I c.m2,I c.m3,I c.m4,I c.m5,I a])=some (Kn K c a)):
  QN M K c m (I a)=some (if DU K c=true then m::B true::Ab (sT K (BI K c a)) (tdC c)else m::B true::Ab K c):=by
 unfold Kn at D;cases hb:DU K c
 ·rw[hb,ab (by simp)]at D;rw[ab (by simp)];exact eB D (eT rfl rfl)
 ·rw[hb,aa rfl]at D;rw[aa rfl];generalize BI K c a=t at*;refine eB D (eF rfl ?_);unfold tdC;refine eC (λe=> ?_) λe=> ?_
  ·have e:c.way=1:=eq_of_beq e;rw[aa e,aa e];exact(show _=_ from by kernel_rfl)
  ·have e:c.way≠1:=by simpa using e
   rw[ab e,ab e];exact(show _=_ from by kernel_rfl)
theorem Zx6 {c:Cv} (E:c.way≠0) (G:Z (nxL K c K.t.length)=some (DK c.m0 c.m1 c.m3 c.m4 (nxV K c K.t.length)))
  (J:∀to,M (pxt K.p K.x K.t [I c.m0,I c.m1,I c.m2,I c.m3,I c.m4,I c.m5,I to])=some (Kn K c to)):
  Tt M Z (Ab K c)=some (I (Jc c)::B true::Ab (Ct K c).1 (Ct K c).2):=by
 rw[Q07];refine eF (beF E) ?_;have key:∀m:AC,UJ c Z K M m=some (m::B true::Ab (Ct K c).1 (Ct K c).2):=by
  intro m;unfold Ct;have plan: ¬(c.aM=true/\c.m0=V (K.t.length*256))->((Z (nxL K c K.t.length)).bind λD=>some (m::B true::Ab K {c with m0:=gA D 0,m1:=gA D 1,m2:=gA D 2,m3:=gA D 3,m4:=gA D 4,m5:=gA D 5}))=some (m::B true::Ab (if c.aM=true/\c.m0=V (K.t.length*256)then(if DU K c=true then(sT K (BI K c (toC K c)),tdC c)else(K,c))else(K,Cy K c K.t.length)).1 (if c.aM=true/\c.m0=V (K.t.length*256)then(if DU K c=true then(sT K (BI K c (toC K c)),tdC c)else(K,c))else(K,Cy K c K.t.length)).2):=λL=>by
   rw[ab L];unfold Cy;generalize nxV K c K.t.length=v at*;exact eB G rfl
  have turn:(c.aM=true/\c.m0=V (K.t.length*256))->∀to,to=toC K c->QN M K c m (I to)=some (m::B true::Ab (if c.aM=true/\c.m0=V (K.t.length*256)then(if DU K c=true then(sT K (BI K c (toC K c)),tdC c)else(K,c))else(K,Cy K c K.t.length)).1 (if c.aM=true/\c.m0=V (K.t.length*256)then(if DU K c=true then(sT K (BI K c (toC K c)),tdC c)else(K,c))else(K,Cy K c K.t.length)).2):=λN to O=>by
   rw[aa N,<-O,Zvc (J to)];split<;>rfl
  refine eC (λe=> ?_) λe=>eC (λe2=> ?_) λe2=>eC (λe3=> ?_) λe3=> ?_
  ·have e:c.aM=false:=by simpa using e
   exact plan λq=>by rw[e]at q;cases q.1
  ·have e2:c.m0≠V (K.t.length*256):=λq=>by rw[bnF q]at e2;cases e2
   exact plan λq=>e2 q.2
  ·have e:c.aM=true:=by simpa using e
   have e2:c.m0=V (K.t.length*256):=bp λq=>by rw[bnT q]at e2;cases e2
   exact turn ⟨e,e2⟩ K.len (by unfold toC;rw[aa (show c.way=2 from eq_of_beq e3)])
  ·have e:c.aM=true:=by simpa using e
   have e2:c.m0=V (K.t.length*256):=bp λq=>by rw[bnT q]at e2;cases e2
   exact turn ⟨e,e2⟩ c.home (by unfold toC;rw[ab (show¬c.way=2 by simpa using e3)])
 unfold Jc;refine eC (λe=> ?_) λe=> ?_
 ·rw[aa (show c.way=2 from eq_of_beq e)];exact key _
 ·rw[ab (show¬c.way=2 by simpa using e)];exact key _
theorem Zh3 (h:KOK K) {n:Int} {c:Cv} (g:Ga K n c) (D:c.way≠0):Jx (Ab K c)=some (I (Jc c)::B true::Ab (Ct K c).1 (Ct K c).2):=
 Zx6 D (Vp h g.w0 K.t.length).1 (Zcx h c)
def B1 (K:Kf) (c:Cv):Int×Kf×Cv:=if(Bk K c).1≠0 then((Bk K c).1,K,(Bk K c).2)else if c.way≠0 then(Jc c,Ct K c)else(0,K,c)
theorem Zxk {N3:Lp} {ME MR D E G J MU MS MN MX MT MV:Fn} {c:Cv} (frm:Int)
  (X:MU (Ab K c)=some (if c.g0=2 then I 6::B true::Ab K (stand c)else I 0::B false::Ab K c))
  (Y:J (Ab K c)=some (I c.aI::B (c.aI !=0)::Ab K c))
  (hP:G (Ab K c)=some (if c.aH=true/\c.aM=true then I 8::B true::Ab K {c with aI:=8}else I 0::B false::Ab K c))
  (hB:E (Ab K c)=some (if c.on=true then I (A3 K c).1::B true::Ab K (A3 K c).2 else I 0::B false::Ab K c))
  (hG:D (Ab K c)=some (if c.way≠0 then I (Jc c)::B true::Ab (Ct K c).1 (Ct K c).2 else I 0::B false::Ab K c)):
  Am (Fl ME MR D E G J MU MS MN MX MT MV N3) (CT K frm 0 c)=some (1,LZ (B1 K c).2.1 frm (B1 K c).1 (B1 K c).2.2):=by
 have w:∀i:Int,0<=i->i<5->V (i+1)=i+1:=λi _ _=>Ae;have e:=λi=>Q9k ME MR D E G J MU MS MN MX MT MV N3 frm 5 i [] [] 0 0 0 0 0 0 0 [] [] 0 0 0 0 0 0 0 K c;have s0:c.g0≠2->Fl ME MR D E G J MU MS MN MX MT MV N3 (CT K frm 0 c)=some (0,CT K frm 1 c):=λh=>by
  refine co (e 0) (eT rfl (eT rfl (eB X ?_)));rw[ab h];rfl
 have s1:c.aI=0->Fl ME MR D E G J MU MS MN MX MT MV N3 (CT K frm 1 c)=some (0,CT K frm 2 c):=λh=>by
  refine co (e 1) (eT rfl (eF rfl (eT rfl (eB Y ?_))));rw[h];rfl
 have s2: ¬(c.aH=true/\c.aM=true)->Fl ME MR D E G J MU MS MN MX MT MV N3 (CT K frm 2 c)=some (0,CT K frm 3 c):=λh=>by
  refine co (e 2) (eT rfl (eF rfl (eF rfl (eT rfl (eB hP ?_)))));rw[ab h];rfl
 have s3:c.on=false->Fl ME MR D E G J MU MS MN MX MT MV N3 (CT K frm 3 c)=some (0,CT K frm 4 c):=λh=>by
  refine co (e 3) (eT rfl (eF rfl (eF rfl (eF rfl (eT rfl (eB hB ?_))))));rw[ab (by rw[h];simp)];rfl
 have s4: ¬c.way≠0->Fl ME MR D E G J MU MS MN MX MT MV N3 (CT K frm 4 c)=some (0,CT K frm 5 c):=λh=>by
  refine co (e 4) (eT rfl (eF rfl (eF rfl (eF rfl (eF rfl (eT rfl (eB hG ?_)))))));rw[ab h];rfl
 have U:c.way≠0->Fl ME MR D E G J MU MS MN MX MT MV N3 (CT K frm 4 c)=some (1,LZ (Ct K c).1 frm (Jc c) (Ct K c).2):=λh=>by
  refine co (e 4) (eT rfl (eF rfl (eF rfl (eF rfl (eF rfl (eT rfl (eB hG ?_)))))));rw[aa h];generalize Ct K c=z;generalize Jc c=mm;rfl
 have s5:Fl ME MR D E G J MU MS MN MX MT MV N3 (CT K frm 5 c)=some (1,LZ K frm 0 c):=by
  exact co (e 5) (eF rfl rfl)
 have O:∀x:Int×Cv,x.1≠0->Bk K c=x->B1 K c=(x.1,K,x.2):=λx hx e=>by unfold B1;rw[e,aa hx]
 by_cases h:c.g0=2
 ·have L:Bk K c=(6,stand c):=by unfold Bk;rw[aa h]
  rw[O _ (show(6:Int)≠0 by decide) L];refine Bg (co (e 0) (eT rfl (eT rfl (eB X ?_)))) (by simp);rw[aa h];rfl
 rw[BE (s0 h)];by_cases M:c.aI=0
 ·rw[BE (s1 M)];by_cases N:c.aH=true/\c.aM=true
  ·have L:Bk K c=(8,{c with aI:=8}):=by unfold Bk;rw[ab h,ab (by simpa using M),aa N]
   rw[O _ (show(8:Int)≠0 by decide) L];refine Bg (co (e 2) (eT rfl (eF rfl (eF rfl (eT rfl (eB hP ?_)))))) (by simp);rw[aa N];rfl
  ·rw[BE (s2 N)];cases S:c.on
   ·have L:Bk K c=(0,c):=by unfold Bk;rw[ab h,ab (by simpa using M),ab N,ab (by rw[S];simp)]
    rw[BE (s3 S)];unfold B1;rw[L,ab (by simp)];by_cases T:c.way≠0
    ·rw[aa T];exact Bg (U T) (by simp)
    ·rw[ab T,BE (s4 T)];exact Bg s5 (by simp)
   ·have L:Bk K c=A3 K c:=by unfold Bk;rw[ab h,ab (by simpa using M),ab N,aa S]
    rw[O _ (Zca K c) L];refine Bg (co (e 3) (eT rfl (eF rfl (eF rfl (eF rfl (eT rfl (eB hB ?_))))))) (by simp);rw[aa S];generalize A3 K c=wk;rfl
 ·have L:Bk K c=(c.aI,c):=by unfold Bk;rw[ab h,aa M]
  rw[O _ M L];refine Bg (co (e 1) (eT rfl (eF rfl (eT rfl (eB Y ?_))))) (by simp);rw[bnT M];rfl
def HG (K:Kf) (c:Cv) (s:Int):List Int×Cv:=if c.way=0 then BU K c s else([],c)
def Qdo (K:Kf) (c:Cv) (frm:Int):Rw:=if c.aL=true then []else Nu K frm (AB c)
theorem Zwq {MM MP MB MO MU:Fn} {c:Cv} {frm mode:Int}
  (N:MU (Ab K c)=some [I (AB c)]) (O:MO (Ab K c)=some [I (Ay K c)]) (G:Out (λo=>wA o 0=Nu K frm (AB c)) (MB (pxt K.p K.x K.t [I frm,I (AB c)])))
  (J:∀s,MP (I s::Ab K c)=some (.vC Aa ((BU K c s).1.map Ai)::Ab K (BU K c s).2)) (S:∀s,∃n q:Int,(BU K c s).2={c with aK:=n,outs:=q}) (E:∀u,MM (pxt K.p K.x K.t [I u])=some (ptR (Co K.p K.x K.t u))):
  SR MM MP MB MO MU (I frm::(Ab K c++[.vC kPt [], .vC Aa [],I mode,I 0,I 0,I 0,I 0,I 0,I 0]))=
   some (Ab K (HG K c (Ay K c)).2++H7 (Qdo K c frm) ((HG K c (Ay K c)).1.map Ai) mode (Ay K c) (D0 K c) c.s3 c.g1):=by
 refine co (Q75 MM MP MB MO MU frm [] [] mode 0 0 0 0 0 0 K c) ?_;refine eB N (eB O ?_);have key:∀(l:Rw) (L D:List AC),gA L 0=AB c->gA D 0=Ay K c->SA c MP D K MM L mode [] (.vC kPt l)=some (Ab K (HG K c (Ay K c)).2++H7 l ((HG K c (Ay K c)).1.map Ai) mode (Ay K c) (D0 K c) c.s3 c.g1):=by
  intro l L D T M;unfold SA HG;simp only[jA,T,M];have J:=J (Ay K c);obtain⟨n,q,U⟩:=S (Ay K c);have E:=E (AB c);rw[show D0 K c=Co K.p K.x K.t (AB c)from rfl];generalize Co K.p K.x K.t (AB c)=mt at*;generalize Ay K c=s at*;refine eC (λe=> ?_) λe=> ?_
  ·rw[aa (show c.way=0 from eq_of_beq e)];generalize BU K c s=ps at*;refine eB J ?_;rw[U];exact eB E rfl
  ·rw[ab (show¬c.way=0 by simpa using e)];exact eB E rfl
 unfold Qdo;refine eC (λe=> ?_) λe=> ?_
 ·have e:c.aL=false:=by simpa using e
  rw[ab (by rw[e];simp)];obtain⟨o,G,V⟩:=G;rw[<-V];exact eB G (key _ _ _ rfl rfl)
 ·have e:c.aL=true:=by simpa using e
  rw[aa e];exact key _ _ _ rfl rfl
def Bq (K:Kf) (c:Cv) (E:List Evn):Kf×Cv:=((BQ K c E).1,EL (Dx (BQ K c E).1 (A7 (DR (BQ K c E).2))))
def stA (K:Kf) (c:Cv) (E:List Evn):Int×Kf×Cv:=
 if(B1 (Bq K c E).1 (Bq K c E).2).1=0 then((CM (Bq K c E).1 (B1 (Bq K c E).1 (Bq K c E).2).2.2).1,(Bq K c E).1,(CM (Bq K c E).1 (B1 (Bq K c E).1 (Bq K c E).2).2.2).2)else B1 (Bq K c E).1 (Bq K c E).2
def Jp (K:Kf) (c:Cv) (E:List Evn):Kf×Cv:=((stA K c E).2.1,(HG (stA K c E).2.1 (stA K c E).2.2 (Ay (stA K c E).2.1 (stA K c E).2.2)).2)
def tkA (K:Kf) (c:Cv) (E:List Evn):List AC:=
 H7 (Qdo (stA K c E).2.1 (stA K c E).2.2 (AB (BQ K c E).2)) ((HG (stA K c E).2.1 (stA K c E).2.2 (Ay (stA K c E).2.1 (stA K c E).2.2)).1.map Ai) (stA K c E).1 (Ay (stA K c E).2.1 (stA K c E).2.2) (D0 (stA K c E).2.1 (stA K c E).2.2) (stA K c E).2.2.s3 (stA K c E).2.2.g1
theorem Zk6 {o:Nat×List AC} (D:∃e,o.2=Ci++Ab K e) {m:Int} {K2:Kf} {d2:Cv}
  (G:N (CT K a 0 d)=some (1,LZ K2 a m d2)) {w s:Int×Cv} (L:m=0->M (Ab K2 d2)=some (I w.1::Ab K2 w.2)) (E:s=if m=0 then w else(m,d2))
  {pul outs:Rw} {pos sp ft:Int} {mt:Pt} {q:Cv}
  (J:Z (I a::(Ab K2 s.2++[.vC kPt [], .vC Aa [],I s.1,I 0,I 0,I 0,I 0,I 0,I 0]))=some (Ab K2 q++H7 pul outs s.1 pos mt sp ft)):
  G1 N o M Z (I a) (Ab K d)=some (H7 pul outs s.1 pos mt sp ft++Ab K2 q):=by
 obtain⟨o1,o2⟩:=o;obtain⟨e,D⟩:=D;dsimp only at D;subst D;refine eB G (eT rfl ?_);by_cases h:m=0
 ·rw[aa h]at E;subst E;exact eT (show(m==0)=true from beT h) (eB (L h) (eB J rfl))
 ·rw[ab h]at E;subst E;exact eF (show(m==0)=false from beF h) (eB J rfl)
theorem Z4d {J L M X Y MO MU N O S U MV:Fn} {V D:Lp} {K K2:Kf} {c d:Cv} {T:List AC}
  (h3:V (.vC kPt (E.map evR)::I (E.map evR).length::I 0::(Ci++Ab K (Fs c)))=some (1,Ci++Ab K2 d))
  (hT:∀c,U (Ab K2 c)=some [B (H5 K2 c)]) (hX:∀(c:Cv) (bH:Int),S [I c.s0,I c.s1,I c.s2,I c.s3,I bH]=some [I (spS c bH).s0,I (spS c bH).s1,I (spS c bH).s2,I (spS c bH).s3])
  (hN:∀c,O (Ab K2 c)=some [I (AB c)]) (hS:∀c:Cv,N [I c.m0,I c.m1,I c.m2,I c.m3,I c.m4,I c.m5]=some [B (AP c)])
  (G:∀o:Nat×List AC,(∃e,o.2=Ci++Ab K2 e)->G1 D o L J (I (AB d)) (Ab K2 (EL (Dx K2 (A7 (DR d)))))=some T):
  VB J L M X Y MO MU N O S U MV V D (.vC kPt (E.map evR)::Ab K c)=some T:=by
 refine co (Q19 J L M X Y MO MU N O S U MV V D (E.map evR) K c) ?_;refine eB h3 (eT rfl ?_)
 have rest:∀b:Cv,DR d=b->AB b=AB d->AP b=AP d->
   ((U (Ab K2 (A7 b))).bind λo => bif !bA o 0 then (S [I b.s0, I b.s1, I b.s2, I b.s3, I K2.bH]).bind λo2 => (O (Ab K2 { A7 b with s0 := gA o2 0, s1 := gA o2 1, s2 := gA o2 2, s3 := gA o2 3 })).bind λo3 => (N [I d.m0, I d.m1, I d.m2, I d.m3, I d.m4, I d.m5]).bind λo4 => G1 D (1, Ci ++ Ab K2 d) L J (jA o3 0) (Ab K2 { A7 b with s0 := gA o2 0, s1 := gA o2 1, s2 := gA o2 2, s3 := gA o2 3, aM := bA o4 0 })
    else(O (Ab K2 (A7 b))).bind λo3=>(N [I d.m0,I d.m1,I d.m2,I d.m3,I d.m4,I d.m5]).bind λo4=>G1 D (1,Ci++Ab K2 d) L J (jA o3 0) (Ab K2 {A7 b with aM:=bA o4 0}))=some T:=λb hb hu hs=>by
  have G:=G (1,Ci++Ab K2 d) ⟨d,rfl⟩;rw[hb]at G;refine eB (hT (A7 b)) ?_;cases ht:H5 K2 (A7 b)
  ·have e1:Dx K2 (A7 b)=spS (A7 b) K2.bH:=by unfold Dx;rw[ab (by rw[ht];simp)]
   rw[e1]at G;refine eT rfl (eB (hX b K2.bH) ?_);refine co (ik (λz=>Option.bind z _) (hN (spS (A7 b) K2.bH))) (eB rfl (eB (hS d) ?_));have e2:AB (spS (A7 b) K2.bH)=AB d:=hu;have e3:({spS (A7 b) K2.bH with aM:=AP d}:Cv)=EL (spS (A7 b) K2.bH):=by
    unfold EL;rw[show AP (spS (A7 b) K2.bH)=AP b from rfl,hs]
   rw[<-e3,<-e2]at G;exact G
  ·have e1:Dx K2 (A7 b)=A7 b:=by unfold Dx;rw[aa ht]
   rw[e1]at G;refine eF rfl ?_;refine co (ik (λz=>Option.bind z _) (hN (A7 b))) (eB rfl (eB (hS d) ?_));have e2:AB (A7 b)=AB d:=hu;have e3:({A7 b with aM:=AP d}:Cv)=EL (A7 b):=by
    unfold EL;rw[show AP (A7 b)=AP b from rfl,hs]
   rw[<-e3,<-e2]at G;exact G
 refine eC (λt=> ?_) λt=>eC (λq=> ?_) λq=> ?_
 ·have t:d.aH=true:=t;exact rest {d with o2:=true} (by unfold DR;rw[aa (.inl t)]) rfl rfl
 ·have q:d.g0≠0:=λe=>by
   have:(d.g0 !=0)=true:=q;rw[bnF e]at this;cases this
  exact rest {d with o2:=true} (by unfold DR;rw[aa (.inr q)]) rfl rfl
 ·have t:d.aH=false:=t;have q:d.g0=0:=bp λe=>by
   have:(d.g0 !=0)=false:=q;rw[bnT e]at this;cases this
  exact rest d (by unfold DR;rw[ab (λw=>by rcases w with w|w;rw[t]at w;cases w;exact w q)]) rfl rfl
theorem Ga.sm {n:Int} {c d:Cv} (g:Ga K n c) (h:Sm c d):Ga K n d:=by
 refine⟨by rw[h.kp.way];exact g.way,by rw[h.kp.aK];exact g.pass,by rw[h.on,h.idx];exact g.task,?_,by rw[h.m0];exact g.m0⟩;have:=g.mo;unfold Mo at*;rw[h.m1,h.m2];exact this
theorem Ga.turn (h:KOK K) {n:Int} {c d:Cv} (g:Ga K n c) (N:0<=n) (D:d.way=0\/d.way=1\/d.way=2) (E:d.aK=c.aK) (G:d.on=c.on) (I:d.idx=c.idx) (J:d.m0=0) (L:d.m1=0) (M:d.m2=0) (t:Trk):Ga (sT K t) n d:=by
 refine⟨D,by rw[E];exact g.pass,by rw[G,I];exact g.task,?_,by rw[J];omega⟩;unfold Mo;rw[L,M];exact PU h.plan
theorem Q6l {n:Int} {c d:Cv} (g:Ga K n c) (h:Fi c d):Ga K n d:=by
 rcases h with rfl|⟨a,-,rfl⟩
 ·exact g
 ·exact⟨g.way,g.pass,g.task,g.mo,g.m0⟩
theorem Q1o (h:KOK K) {n:Int} (D:0<=n) {c:Cv} (g:Ga K n c) (m:Int):Ga (CK K c m).1 n (CK K c m).2:=by
 unfold CK;by_cases hb:ES K c m=true
 ·rw[aa hb];generalize BI K c (Qz K c m)=t;generalize Ay K c=z;exact g.turn (d:={zM c with o2:=false,way:=1,home:=z}) h D (.inr (.inl rfl)) rfl rfl rfl rfl rfl rfl t
 ·rw[ab hb];exact g
theorem Zt3 {n:Int} {c:Cv} (g:Ga K n c):Ga K n (HQ K c):=by
 have key:∀b:Bool,Ga K n {c with aH:=b}:=λb=>⟨g.way,g.pass,g.task,g.mo,g.m0⟩;exact key _
theorem Zrz {s:Kf×Cv} (h:KOK s.1) {n:Int} (I:0<=n) (g:Ga s.1 n s.2) (k m:Int) (J:m<=4194304):Ga (evA s k m).1 n (evA s k m).2:=by
 have g1:=g.sm (T3 s.2 k m);unfold evA;generalize evC s.2 k m=d at*;by_cases D:k=13
 ·rw[aa D];exact Q6l g1 (SI h d J).2
 ·rw[ab D];by_cases E:k=12
  ·rw[aa E];exact Zt3 g1
  ·rw[ab E];by_cases G:k=7
   ·rw[aa G];exact Q1o h I g1 m
   ·rw[ab G];exact g1
theorem Q7y {n:Int} (D:0<=n):∀(E:List Evn) {s:Kf×Cv},(∀e∈E,e.n<=4194304)->KOK s.1->Ga s.1 n s.2->Ga (E.foldl (λs e=>evA s e.aP e.n) s).1 n (E.foldl (λs e=>evA s e.aP e.n) s).2
 |[],_,_,_,g=>g
 |e::E,_,G,h,g=>Q7y D E (λx I=>G x (by simp[I])) (Qve h e.aP e.n) (Zrz h D g e.aP e.n (G e (by simp)))
theorem Qwy (h:KOK K) {n:Int} (D:0<=n) {c:Cv} (g:Ga K n c) {E:List Evn} (G:EvE E):Ga (BQ K c E).1 n (BQ K c E).2:=
 Q7y D E G.2 (s:=(K,Fs c)) h ⟨g.way,g.pass,g.task,g.mo,g.m0⟩
theorem Qx7 (K:Kf) (d:Cv):Sm d (EL (Dx K (A7 (DR d)))):=
 (Q6p d).trans (Sm.trans (b:=A7 (DR d)) ⟨⟨rfl,rfl,rfl,rfl⟩,rfl,rfl,rfl,rfl,rfl,rfl,rfl,rfl,rfl,rfl⟩ ((Zd7 K _).trans ⟨⟨rfl,rfl,rfl,rfl⟩,rfl,rfl,rfl,rfl,rfl,rfl,rfl,rfl,rfl,rfl⟩))
theorem Qrm (h:KOK K) {n:Int} (D:0<=n) {c:Cv} (g:Ga K n c) {E:List Evn} (G:EvE E):Ga (Bq K c E).1 n (Bq K c E).2:=(Qwy h D g G).sm (Qx7 _ _)
end Go.Bm
namespace Go.Bm
theorem Zvl {n:Int} {c:Cv} (g:Ga K n c):Ga K n (FL K c).2:=by
 have done:∀d:Cv,Ga K n d->Ga K n (GV d):=λd g=>⟨g.way,g.pass,λh=>(by cases h),g.mo,g.m0⟩;have cmd:∀D sp:Int,Ga K n (HY c D sp):=λD sp=>⟨g.way,g.pass,g.task,g.mo,g.m0⟩;unfold FL;split
 ·split
  ·exact done c g
  ·exact g
 ·split
  ·exact done c g
  ·split
   ·split
    ·exact g
    ·exact done c g
   ·split
    ·split
     ·exact done _ (cmd _ _)
     ·exact cmd _ _
    ·split
     ·exact⟨g.way,g.pass,g.task,g.mo,g.m0⟩
     ·exact done c g
theorem Zgl {n:Int} {c:Cv} (g:Ga K n c):Ga K n (A3 K c).2:=Zvl (K:=K) (c:=BT c) ⟨g.way,g.pass,g.task,g.mo,g.m0⟩
theorem Zdj {n:Int} {c:Cv} (h:KOK K) (g:Ga K n c) (E:0<=n/\n<=10000):Ga K n (Bk K c).2:=by
 unfold Bk;split
 ·have D:=(g.w0.stand h E).1;exact⟨g.way,g.pass,g.task,D.mo,D.m0⟩
 ·split
  ·exact g
  ·split
   ·exact⟨g.way,g.pass,g.task,g.mo,g.m0⟩
   ·split
    ·exact Zgl g
    ·exact g
theorem Zhx {n:Int} {c:Cv} (h:KOK K) (g:Ga K n c) (E:0<=n/\n<=10000) (l:Int):Ga K (n+1) (Cy K c l):=by
 have D:=ZR h g.w0 E l;exact⟨g.way,g.pass,g.task,D.mo,D.m0⟩
theorem Zbl {n:Int} {c:Cv} (h:KOK K) (g:Ga K n c) (D:0<=n/\n<=10000):Ga (Ct K c).1 (n+1) (Ct K c).2:=by
 unfold Ct;by_cases E:c.aM=true/\c.m0=V (K.t.length*256)
 ·rw[aa E];by_cases G:DU K c=true
  ·rw[aa G];generalize BI K c (toC K c)=t;have J:(tdC c).way=0\/(tdC c).way=1\/(tdC c).way=2:=by
    show(if c.way=1 then(2:Int)else 0)=0\/_=1\/(if c.way=1 then(2:Int)else 0)=2;by_cases I:c.way=1
    ·rw[aa I];exact .inr (.inr rfl)
    ·rw[ab I];exact .inl rfl
   exact(g.up D.1).turn (d:=tdC c) h (by omega) J rfl rfl rfl rfl rfl rfl t
  ·rw[ab G];exact g.up D.1
 ·rw[ab E];exact Zhx h g D _
theorem Qaz (h:KOK K) (c:Cv):KOK (Ct K c).1:=by
 unfold Ct;split
 ·split
  ·exact h.sT (Za8 h c _)
  ·exact h
 ·exact h
theorem Z4x (h:KOK K) (c:Cv):KOK (B1 K c).2.1:=by
 unfold B1;split
 ·exact h
 ·split
  ·exact Qaz h c
  ·exact h
theorem Ybc {n:Int} {c:Cv} (h:KOK K) (g:Ga K n c) (D:0<=n/\n<=10000):Ga (B1 K c).2.1 (n+1) (B1 K c).2.2:=by
 unfold B1;split
 ·exact(Zdj h g D).up D.1
 ·split
  ·exact Zbl h g D
  ·exact g.up D.1
theorem Ou {c:Cv} (h:(B1 K c).1=0):c.way=0/\B1 K c=(0,K,c):=by
 unfold B1 at h⊢;by_cases D:(Bk K c).1≠0
 ·rw[aa D]at h;exact absurd h D
 ·rw[ab D]at h⊢;by_cases E:c.way≠0
  ·rw[aa E]at h;have h:Jc c=0:=h;unfold Jc at h;split at h<;>cases h
  ·rw[ab E];exact⟨by simpa using E,rfl⟩
theorem Zlu {c:Cv} {n:Int} (h:KOK K) (g:Ga K n c):K6 (Ab K c)=some (if c.on=true then I (A3 K c).1::B true::Ab K (A3 K c).2 else I 0::B false::Ab K c):=by
 have key:∀{M:Fn},(c.on=true->M (Ab K c)=some (I (A3 K c).1::Ab K (A3 K c).2))->VM M (Ab K c)=some (if c.on=true then I (A3 K c).1::B true::Ab K (A3 K c).2 else I 0::B false::Ab K c):=by
  intro M D;rw[Q2v];cases e:c.on
  ·rw[ab (by simp)];rfl
  ·rw[aa rfl];have D:=D e;generalize A3 K c=E at*;exact eB D rfl
 exact key λe=>Qbm h (g.task e).1 (g.task e).2
theorem Qyn {n:Int} {c:Cv} (g:Ga K n c) (D:0<=n/\n<=10010): -300000000000<=AB c/\AB c<=300000000000:=Zb (c:=w0 c) g.w0 D
theorem Z9m (h:KOK K) (c:Cv) (E:List Evn):KOK (stA K c E).2.1:=by
 have D:KOK (Bq K c E).1:=Sx h c E;unfold stA;split
 ·exact D
 ·exact Z4x D _
theorem Zy4 {n:Int} {c:Cv} (h:KOK K) (g:Ga K n c) (D:0<=n/\n<=10000) {E:List Evn} (L:EvE E):Ga (stA K c E).2.1 (n+1) (stA K c E).2.2:=by
 have I:KOK (Bq K c E).1:=Sx h c E;have J:=Qrm h D.1 g L;unfold stA;by_cases G:(B1 (Bq K c E).1 (Bq K c E).2).1=0
 ·rw[aa G];obtain⟨M,e⟩:=Ou G;rw[e];exact(RH I (J.gd M) D).1.ga
 ·rw[ab G];exact Ybc I J D
theorem Zi8 {n:Int} {c:Cv} (g:Ga K n c) (E:0<=n) (s:Int):Ga K n (HG K c s).2:=by
 unfold HG;by_cases D:c.way=0
 ·rw[aa D];have hb:=TO K s (K.p.aD.drop c.aK.toNat) c;rw[bq]at hb;have hb:c.aK<=(BU K c s).2.aK/\(BU K c s).2.aK<=c.aK+((K.p.aD.length-c.aK.toNat:Nat):Int):=hb;obtain⟨m,q,e⟩:=R9 K c s;rw[e]at hb⊢;have G:=g.pass;exact⟨g.way,by dsimp only at hb⊢;omega,g.task,g.mo,g.m0⟩
 ·rw[ab D];exact g
theorem Yco (h:KOK K) {n:Int} {c:Cv} (g:Ga K n c):Jx (Ab K c)=some (if c.way≠0 then I (Jc c)::B true::Ab (Ct K c).1 (Ct K c).2 else I 0::B false::Ab K c):=by
 by_cases D:c.way≠0
 ·rw[aa D];exact Zh3 h g D
 ·rw[ab D];exact Q3m (by simpa using D)
theorem Qu8 {c:Cv} {n:Int} (h:KOK K) (g:Ga K n c) (G:0<=n/\n<=10000) {E:List Evn} (I:EvE E):
  Hi (.vC kPt (E.map evR)::Ab K c)=some (tkA K c E++Ab (Jp K c E).1 (Jp K c E).2):=by
 have M:KOK (Bq K c E).1:=Sx h c E;have N:=Qrm h G.1 g I;have ge:=Qwy h G.1 g I;have O:=Zy4 h g G I;have J:=Z9m h c E;have hf:=Qyn ge (by omega);have U:=Qyn O (by omega);refine Z4d (K2:=(BQ K c E).1) (d:=(BQ K c E).2) (Zui I h (fun{K} L c x k {n} G=>Z0o L c x k G)) (Q8c (Sx h c E)) Q86 (LP _) Qk8 λo S=> ?_;have T:=Zxk (ME:=LC) (MR:=Kw) (MS:=Ic) (MN:=Ds) (MX:=KC) (MT:=Ly) (MV:=JI) (N3:=TL) (K:=(Bq K c E).1) (c:=(Bq K c E).2) (AB (BQ K c E).2) (Q3n _ _) (Qxh _ _) (Q1v _ _) (Zlu M N) (Yco M N);have he:=Zwq (MM:=Dh) (MP:=NY) (MB:=Kx) (MO:=Dt) (MU:=Ds) (K:=(stA K c E).2.1) (c:=(stA K c E).2.2) (frm:=AB (BQ K c E).2) (mode:=(stA K c E).1) (LP _ _) (NA J _) (Q9z J _ _ (by omega)) (λs=>Qz5 J O.pass s) (R9 _ _) (KI J.f);have L:(B1 (Bq K c E).1 (Bq K c E).2).2.1=(stA K c E).2.1:=by
  unfold stA;by_cases D:(B1 (Bq K c E).1 (Bq K c E).2).1=0
  ·rw[aa D,(Ou D).2]
  ·rw[ab D]
 refine Zk6 (w:=CM (Bq K c E).1 (B1 (Bq K c E).1 (Bq K c E).2).2.2) (s:=((stA K c E).1,(stA K c E).2.2)) (K2:=(stA K c E).2.1) (d2:=(B1 (Bq K c E).1 (Bq K c E).2).2.2) (m:=(B1 (Bq K c E).1 (Bq K c E).2).1) S ?_ ?_ ?_ he
 ·rw[<-L];exact T
 ·intro D;rw[<-L,(Ou D).2];exact Zdk M (N.gd (Ou D).1) G
 ·unfold stA;by_cases D:(B1 (Bq K c E).1 (Bq K c E).2).1=0
  ·rw[aa D,aa D]
  ·rw[ab D,ab D]
end Go.Bm
namespace Go.Bm
open Classical
def okD (d:Pt):Prop:=(d.x=1\/d.x= -1)/\(d.y=1\/d.y= -1)/\(d.z=1\/d.z= -1)
theorem Zm5 {d a b:Pt} (D:k=1\/k= -1) (h:okD d):okD (D9 d a b k):=by
 obtain⟨E,G,I⟩:=h;unfold okD D9 RF;simp only;refine⟨?_,?_,?_⟩<;>(repeat' split)<;>omega
theorem Q7o {c:Pce} (h:∀k∈t.aE,okD k.aT) (E:okD c.aT):∀k∈(FN t c).aE,okD k.aT:=by
 unfold FN;by_cases g:t.aE≠[]/\c.bD≠0/\(Bp t.aE).bD=c.bD/\(Bp t.aE).aT=c.aT
 ·rw[aa g];intro k D;rcases d6 D with D|rfl
  ·exact h k D
  ·have:=h (Bp t.aE) (Qgh g.1);exact this
 ·rw[ab g];intro k D;rcases ba.1 D with D|D
  ·exact h k D
  ·rw[fa]at D;subst D;exact E
theorem Q1c {p:Pth} {x:Ax3} {mv lo hi f:Int} {d:Pt} (G:mv=1\/mv= -1) (I:okD d):∀j,(∀k∈(Cw p x mv lo hi (⟨[],0,f,d⟩,d) j).1.aE,okD k.aT)/\okD (Cw p x mv lo hi (⟨[],0,f,d⟩,d) j).2
 |0=>⟨by simp[Cw],I⟩
 |j+1=>by
  obtain⟨D,J⟩:=Q1c (p:=p) (x:=x) (lo:=lo) (hi:=hi) (f:=f) G I j;rw[Cw];unfold II;split
  ·unfold CW;simp only;have E:=Zm5 (a:=Fz p.aQ p.aF (ED p.aF.length mv j)) (b:=(sgA p.aF (ED p.aF.length mv j)).to) G J;refine⟨Q7o ?_ E,E⟩;split
   ·exact Q7o D E
   ·exact D
  ·exact⟨D,J⟩
theorem Zcl {x:Ax3} (D:okD q):∀k∈(AR p x q a b).aE,okD k.aT:=by
 unfold AR;exact(Q1c (by split<;>simp) D _).1
def Qv (a:Axs) (g:Int->Int) (f:Pt->Int) (c:Pce) (u:Int):Int:=D7 a (g (c.s+c.bD*(u-c.at_)))+DW a c.bD c.at_ (f c.was) (f c.aT) u
def JZ (a:Axs) (g:Int->Int) (f:Pt->Int):List Pce->Int->Int
 |[],_=>0
 |c::l,u=>if u<=c.at_+c.aR then Qv a g f c u else JZ a g f l u
def K3 (x:Ax3) (a:Axs) (f:Pt->Int):Prop:=(0<=a.bB/\a.bB<=1000)/\(∀d,okD d->f d=1\/f d= -1)/\(∀w d,f w≠f d->a.bB<=CG x w d)
theorem Qox {x:Ax3} (h:Ax3OK x):K3 x x.a Pt.x:=⟨h.a,λd D=>D.1,λw d E=>by have G:=h.a;unfold CG slk;rw[ab E];(repeat' split)<;>omega⟩
theorem Zct {x:Ax3} (h:Ax3OK x):K3 x x.b Pt.y:=⟨h.b,λd D=>D.2.1,λw d E=>by have G:=h.a;have I:=h.b;unfold CG slk;rw[ab E];(repeat' split)<;>omega⟩
theorem Ze3 {x:Ax3} (h:Ax3OK x):K3 x x.c Pt.z:=⟨h.c,λd D=>D.2.2,λw d E=>by have G:=h.a;have I:=h.b;unfold CG slk;rw[ab E];omega⟩
theorem Qyt {x:Ax3} {a:Axs} {f:Pt->Int} {g:Int->Int} {at_ s:Int} {c:Pce} {l:List Pce} (T:K3 x a f) (h:Dm x k Q at_ s q (c::l)) (U:k=1\/k= -1) (V:okD q) (X:okD c.aT):
  Qv a g f c at_=D7 a (g s)+Cx a (f q)/\Qv a g f c (at_+c.aR)=D7 a (g (s+c.bD*c.aR))+Cx a (f c.aT):=by
 obtain⟨hb,hf,I⟩:=T;obtain⟨Y,h2,h3,h4,-⟩:=h;have E:=hf q V;have D:=hf c.aT X;unfold Qv;rw[Y,h2,show at_-at_=0 by omega,show at_+c.aR-at_=c.aR by omega,Int.mul_zero,ja];rcases h4 with⟨J,L,G,-⟩|⟨J,L,G⟩
 ·have N:c.bD≠0:=by rcases U with rfl|rfl<;>omega
  unfold DW;rw[aa (.inl N),aa (.inl N)];refine⟨?_,rfl⟩;by_cases e:f q=f c.aT
  ·rw[e]
  ·have:=I q c.aT e;rw[G]at this;unfold Cx
   (repeat' split)<;>omega
 ·rw[J,L,kv,ja];by_cases e:f q=f c.aT
  ·unfold DW;have O:(0:Int)≠0\/f q=f c.aT:= .inr e;rw[aa O,aa O,e];exact⟨rfl,rfl⟩
  ·have:=I q c.aT e;rw[<-G]at this;have S: ¬((0:Int)≠0\/f q=f c.aT):=λg=>g.elim (λg=>g rfl) e;unfold DW Cx;rw[ab S,ab S];generalize D7 a (g s)=M;constructor
   ·rcases D with D|D<;>rcases E with E|E<;>rw[D,E]<;>simp<;>omega
   ·rcases D with D|D<;>rw[D]<;>simp<;>omega
theorem Q2a {a:Axs} {g:Int->Int} {f:Pt->Int}:∀{l:List Pce} {u:Int},fI l u<l.length->JZ a g f l u=Qv a g f (pcA l (fI l u)) u
 |[],_,h=>by simp at h
 |c::l,u,h=>by
  unfold fI at h⊢;unfold JZ;by_cases D:u<=c.at_+c.aR
  ·rw[aa D,aa D,IP]
  ·rw[ab D]at h⊢;rw[ab D,FV];exact Q2a (by simpa using h)
theorem Qwf:∀{d:Pt} {l:List Pce},l≠[]->FT d l=(Bp l).aT
 |_,[],h=>absurd rfl h
 |d,[c],_=>rfl
 |d,c::e::l,_=>by
  have D:=Qwf (d:=c.aT) (l:=e::l) (by simp);show FT c.aT (e::l)=_;rw[D];unfold Bp;simp
theorem Z3i (t:Trk):PC t=FT t.aT t.aE:=by
 unfold PC;by_cases c:t.aE=[]
 ·rw[aa c,c];rfl
 ·rw[ab c,Qwf c]
theorem Quy {x:Ax3} {a:Axs} {f:Pt->Int} {g:Int->Int} {mv:Int} {Q:Int->Pt->Prop} (G:K3 x a f) (I:mv=1\/mv= -1):∀{at_ s:Int} {d:Pt} {l:List Pce},Dm x mv Q at_ s d l->okD d->(∀k∈l,okD k.aT)->l≠[]->JZ a g f l (BD at_ l)=D7 a (g (endQ s l))+Cx a (f (FT d l))
 |at_,s,d,[c],h,J,E,_=>by
  have M:=(Qyt (g:=g) G h I J (E c (by simp))).2;have N:=h.1;show JZ a g f [c] (at_+c.aR)=_;unfold JZ;rw[aa,M];rfl
 |at_,s,d,c::e::l,h,J,E,_=>by
  have L:=h.2.2.2.2;have N:=h.1;have O:=Quy (g:=g) G I L (E c (by simp)) (λk D=>E k (by simp at D⊢;exact .inr D)) (by simp);have T:at_+c.aR<BD (at_+c.aR) (e::l):=by
   obtain⟨-,-,U,-,S⟩:=L;have:=SW S;simp only[BD];omega
  show JZ a g f (c::e::l) (BD (at_+c.aR) (e::l))=D7 a (g (endQ (s+c.bD*c.aR) (e::l)))+Cx a (f (FT c.aT (e::l)));rw[<-O];generalize BD (at_+c.aR) (e::l)=A at*;show(if _ then _ else _)=_;rw[ab]
theorem ZI {x:Ax3} {a:Axs} {f:Pt->Int} (g:Int->Int) {mv e:Int} {Q:Int->Pt->Prop} {t:Trk} {d:Pt} (J:K3 x a f) (L:mv=1\/mv= -1) (h:TC x mv Q t e d) (M:TQ t) (N:okD t.aT) (I:∀k∈t.aE,okD k.aT):
  D7 a (g (AA t 0))+shT a t 0 f=D7 a (g t.aQ)+Cx a (f t.aT)/\D7 a (g (AA t t.length))+shT a t t.length f=D7 a (g e)+Cx a (f (PC t)):=by
 obtain⟨D,V,G,-⟩:=h;have Y:=M.len;rw[Z3i];by_cases c:t.aE=[]
 ·unfold AA shT;rw[aa c,aa c,aa c];rw[c]at G⊢;simp only[endQ]at G;simp only[FT];rw[G];simp
 ·have E:∀v,0<=v->v<=t.length->clT t v=v:=by intro v g1 g2;unfold clT A6;omega
  have O:∀v:Int,0<=v->v<=t.length->D7 a (g (AA t v))+shT a t v f=JZ a g f t.aE v:=by
   intro v g1 g2;have S:=J4 M v c;have T:iT t v=fI t.aE v:=by unfold iT;rw[E v g1 g2]
   unfold AA shT;rw[ab c,ab c,T,E v g1 g2];rw[T]at S;exact(Q2a S).symm
  rw[O 0 (by omega) (by omega),O t.length (by omega) (by omega)];constructor
  ·cases U:t.aE with
   |nil=>exact absurd U c
   |cons k l=>
    rw[U]at D I;have X:=(Qyt (g:=g) J D L N (I k (by simp))).1;have g1:=D.1;have g3:=D.2.2.1;unfold JZ;rw[aa,X]
  ·have:=Quy (g:=g) J L D N I c;rw[V,G]at this;exact this
theorem Zs7 {x:Ax3} (D:Ax3M x) (E:a=1\/a= -1) (h:TC x a Q t b q) (G:TQ t) (I:okD t.aT) (J:∀k∈t.aE,okD k.aT):
  Co p x t 0=⟨(Gn p x t.aQ).x+Cx x.a t.aT.x,(Gn p x t.aQ).y+Cx x.b t.aT.y,(Gn p x t.aQ).z+Cx x.c t.aT.z⟩/\
  Co p x t t.length=⟨(Gn p x b).x+Cx x.a (PC t).x,(Gn p x b).y+Cx x.b (PC t).y,(Gn p x b).z+Cx x.c (PC t).z⟩:=by
 have L:=ZI (λs=>(atP p s).x) (Qox D.ok) E h G I J;have M:=ZI (λs=>(atP p s).y) (Zct D.ok) E h G I J;have N:=ZI (λs=>(atP p s).z) (Ze3 D.ok) E h G I J;unfold Co Gn;rw[D6,D6];exact⟨⟨L.1,M.1,N.1⟩,⟨L.2,M.2,N.2⟩⟩
def Iw (K:Kf):Prop:=∃(d:Pt) (a b:Int),okD d/\K.t=AR K.p K.x d a b
theorem Qwx {x:Ax3} {a:Axs} {f:Pt->Int} (Y:K3 x a f) {mv:Int} {Q:Int->Pt->Prop} (hv:mv=1\/mv= -1):∀{at_ s:Int} {d:Pt} {l:List Pce},Dm x mv Q at_ s d l->okD d->(∀k∈l,okD k.aT)->∀(u:Int) (M:Pt),at_<=u->u<=BD at_ l->l≠[]->
  ¬((pcA l (fI l u)).bD=0/\(pcA l (fI l u)).at_<u/\u<eI l (fI l u))->
  DW a (pcA l (fI l u)).bD (pcA l (fI l u)).at_ (f (pcA l (fI l u)).was) (f (pcA l (fI l u)).aT) u=Cx a (f (JG l u M))/\okD (JG l u M)
 |_,_,_,[],_,_,_,_,_,_,_,h,_=>absurd rfl h
 |at_,s,d,c::l,h,hd,hk,u,M,h0,h1,_,N=>by
  obtain⟨g1,g2,g3,g4,g5⟩:=h;have J:=hk c (by simp);by_cases hu:u<=c.at_+c.aR
  ·have e:fI (c::l) u=0:=by unfold fI;rw[aa hu]
   rw[e]at N⊢;have O:pcA (c::l) 0=c:=IP c l;have S:eI (c::l) 0=c.at_+c.aR:=by unfold eI;rw[O]
   rw[O,S]at N;rw[O];have T:JG (c::l) u M=if c.bD≠0\/u=c.at_+c.aR then c.aT else c.was:=by
    show(if u>c.at_+c.aR then _ else _)=_;rw[ab]
   rw[T];obtain⟨hb,hf,hs⟩:=Y;rcases g4 with⟨m1,m2,-⟩|⟨m1,m2,m3⟩
   ·have hm:c.bD≠0:=by rw[m1];rcases hv with h|h<;>omega
    rw[aa (.inl hm)];unfold DW;rw[aa (.inl hm)];exact⟨rfl,J⟩
   ·have E:=hf _ J;have I:=hf _ hd;have U:=hs d c.aT;by_cases L:u=c.at_+c.aR
    ·rw[aa (.inr L)];refine⟨?_,J⟩;unfold DW;by_cases D:f c.was=f c.aT
     ·rw[aa (.inr D)]
     ·rw[ab (λq=>by rcases q with q|q;exact q m1;exact D q)];rw[m2]at D;have:=U D;have G:min (u-c.at_) a.bB=a.bB:=by omega
      rw[G];unfold Cx;rcases E with E|E
      ·rw[E,ab (by decide),ab (by decide)];omega
      ·rw[E,aa rfl,aa rfl]
    ·rw[ab (λq=>by rcases q with q|q;exact q m1;exact L q)];have a0:u=c.at_:=by omega
     refine⟨?_,by rw[m2];exact hd⟩;unfold DW;by_cases D:f c.was=f c.aT
     ·rw[aa (.inr D),D]
     ·rw[ab (λq=>by rcases q with q|q;exact q m1;exact D q)];rw[m2]at D⊢;have G:min (u-c.at_) a.bB=0:=by omega
      rw[G];unfold Cx;rcases E with E|E
      ·have V:f d= -1:=by rcases I with I|I;exact absurd (I.trans E.symm) D;exact I
       rw[E,V,ab (by decide),aa rfl];omega
      ·have V:f d=1:=by rcases I with I|I;exact I;exact absurd (I.trans E.symm) D
       rw[E,V,aa rfl,ab (by decide)];omega
  ·have e:fI (c::l) u=fI l u+1:=by
    show(if u<=c.at_+c.aR then 0 else fI l u+1)=_;rw[ab hu]
   have T:JG (c::l) u M=JG l u M:=by
    show(if u>c.at_+c.aR then _ else _)=_;rw[aa]
   have X:l≠[]:=by
    intro q;subst q;simp only[BD]at h1;omega
   rw[e]at N⊢;have S:eI (c::l) (fI l u+1)=eI l (fI l u):=by unfold eI;rw[FV]
   rw[FV,S]at N;rw[FV,T];exact Qwx Y hv g5 J (λk q=>hk k (by simp[q])) u M (by omega) (by simpa only[BD]using h1) X N
theorem Q74 {x:Ax3} {mv:Int} {Q:Int->Pt->Prop} (D:mv=1\/mv= -1):∀{a s:Int} {d:Pt} {l:List Pce},Dm x mv Q a s d l->l≠[]->∀u:Int,a<=u->u<=BD a l->0<=mv*(plL l u-s)/\0<=mv*(endQ s l-plL l u)
 |_,_,_,[],_,h,_,_,_=>absurd rfl h
 |a,s,d,c::l,h,_,u,S,M=>by
  obtain⟨g1,g2,T,I,N⟩:=h;have G:c.bD=mv\/c.bD=0:=by rcases I with I|I<;>simp[I.1]
  have he:=U_ D N;unfold plL;by_cases J:u<=c.at_+c.aR
  ·rw[aa J,g1,g2];unfold endQ;rw[g1]at J;generalize endQ (s+c.bD*c.aR) l=E at*;rcases G with G|G<;>rcases D with D|D<;>rw[G]at he⊢<;>subst D<;>omega
  ·rw[ab J];have L:l≠[]:=by
    intro q;subst q;simp only[BD]at M;omega
   have O:=Q74 D N L u (by omega) (by simpa only[BD]using M);unfold endQ;generalize endQ (s+c.bD*c.aR) l=E at*;rcases G with G|G<;>rcases D with D|D<;>rw[G]at O<;>subst D<;>omega
theorem Qo3 {x:Ax3} {d:Pt} (J:Ax3OK x) (G:GoodPath p) (u:Int):0<=AA (AR p x d a b) u/\AA (AR p x d a b) u<=Av p.aF:=by
 have S:=Nq G;obtain⟨T,I,L,-⟩:=Lo (d:=d) (a:=a) (b:=b) (Q:=λ_ _=>True) J G (λ_ _ _ _ _ _ _ _=>trivial);have M:=LO d a b J G;have E:=VG p a b;have O:0<=A6 a (Av p.aF)/\A6 a (Av p.aF)<=Av p.aF:=by unfold A6;omega
 have U:0<=A6 b (Av p.aF)/\A6 b (Av p.aF)<=Av p.aF:=by unfold A6;omega
 by_cases D:(AR p x d a b).aE=[]
 ·unfold AA;rw[aa D,L];exact O
 ·have N:=JR M u;have hb:=Q74 E I.ch D (clT (AR p x d a b) u) N.1 (by rw[I.len];exact N.2);rw[I.s,L]at hb;rw[FQ M u D];generalize plL (AR p x d a b).aE (clT (AR p x d a b) u)=z at*;rcases E with E|E<;>rw[E]at hb<;>omega
theorem Zgg {x:Ax3} {d:Pt} (E:Ax3M x) (M:GoodPath p) (G:okD d) {u:Int} (S: ¬HZ (AR p x d a b) u):
  Co p x (AR p x d a b) u=⟨(Gn p x (AA (AR p x d a b) u)).x+Cx x.a (EO (AR p x d a b) u).x,(Gn p x (AA (AR p x d a b) u)).y+Cx x.b (EO (AR p x d a b) u).y,(Gn p x (AA (AR p x d a b) u)).z+Cx x.c (EO (AR p x d a b) u).z⟩/\okD (EO (AR p x d a b) u):=by
 obtain⟨d',N,h2,I⟩:=Lo (d:=d) (a:=a) (b:=b) (Q:=λ_ _=>True) E.ok M (λ_ _ _ _ _ _ _ _=>trivial);have T:=LO d a b E.ok M;have U:=VG p a b;have V:=Zcl (p:=p) (x:=x) (a:=a) (b:=b) G;by_cases D:(AR p x d a b).aE=[]
 ·have hf:EO (AR p x d a b) u=d:=by unfold EO;rw[D,I];rfl
  rw[hf];refine⟨?_,G⟩;unfold Co shT;rw[aa D,aa D,aa D,I]
 ·have O:=JR T u;have J:okD (AR p x d a b).aT:=by rw[I];exact G
  have L: ¬((pcA (AR p x d a b).aE (fI (AR p x d a b).aE (clT (AR p x d a b) u))).bD=0/\(pcA (AR p x d a b).aE (fI (AR p x d a b).aE (clT (AR p x d a b) u))).at_<clT (AR p x d a b) u/\clT (AR p x d a b) u<eI (AR p x d a b).aE (fI (AR p x d a b).aE (clT (AR p x d a b) u))):=λq=>S ⟨D,q⟩;have key:=fun(X:Axs) (f:Pt->Int) (Y:K3 x X f)=>Qwx Y U N.ch J V (clT (AR p x d a b) u) (AR p x d a b).aT O.1 (by rw[N.len];exact O.2) D L;refine⟨?_,(key x.a Pt.x (Qox E.ok)).2⟩;unfold Co shT iT;rw[ab D,ab D,ab D];have k1:=(key x.a Pt.x (Qox E.ok)).1;have k2:=(key x.b Pt.y (Zct E.ok)).1;have k3:=(key x.c Pt.z (Ze3 E.ok)).1;rw[k1,k2,k3];rfl
theorem Zgm (h:KOK K) (J:Iw K) {c:Cv} (hb:DU K c=true) (to:Int):Co K.p K.x (BI K c to) 0=D0 K c/\Iw (sT K (BI K c to)):=by
 obtain⟨d,a,b,L,G⟩:=J;have E: ¬HZ K.t (AB c):=by
  unfold DU at hb;rw[ak,ig]at hb;exact of_decide_eq_false hb.2
 have D:=E;rw[G]at D;obtain⟨m1,m2⟩:=Zgg h.f.x h.f.p L D;have pl:=Qo3 (d:=d) (a:=a) (b:=b) h.f.x.ok h.f.p (AB c);rw[<-G]at m1 m2 pl;unfold BI;refine⟨?_,⟨_,_,_,m2,rfl⟩⟩;obtain⟨T,M,N,I⟩:=Lo (d:=EO K.t (AB c)) (a:=Ay K c) (b:=to) (Q:=λ_ _=>True) h.f.x.ok h.f.p (λ_ _ _ _ _ _ _ _=>trivial);have O:=LO (EO K.t (AB c)) (Ay K c) to h.f.x.ok h.f.p;have e:=(Zs7 (p:=K.p) h.f.x (VG K.p (Ay K c) to) M O (by rw[I];exact m2) (Zcl m2)).1;have S:A6 (Ay K c) (Av K.p.aF)=AA K.t (AB c):=by
  show A6 (AA K.t (AB c)) (Av K.p.aF)=_;unfold A6;omega
 rw[N,I,S]at e;rw[e];exact m1.symm
theorem Qdu {x:Ax3} {Q:Int->Pt->Prop}:∀{a s:Int} {d:Pt} {l:List Pce} {u:Int},Dm x 1 Q a s d l->l≠[]->u<=BD a l->plL l u<=endQ s l
 |_,_,_,[],_,_,h,_=>absurd rfl h
 |a,s,d,c::l,u,h,_,J=>by
  obtain⟨N,O,S,D,L⟩:=h;have G:c.bD=1\/c.bD=0:=by rcases D with D|D<;>simp[D.1]
  have he:=U_ (.inl rfl) L;unfold plL;by_cases M:u<=c.at_+c.aR
  ·rw[aa M];unfold endQ;generalize endQ (s+c.bD*c.aR) l=E at*;rcases G with G|G<;>rw[G]at he⊢<;>omega
  ·rw[ab M];have I:l≠[]:=by
    intro e;subst e;simp only[BD]at J;omega
   exact Qdu L I J
theorem PA {x:Ax3} {Q:Int->Pt->Prop}:∀{a s:Int} {d:Pt} {l:List Pce},Dm x 1 Q a s d l->l≠[]->∀v w:Int,a<=v->v<=w->w<=BD a l->s<=plL l v/\plL l v<=plL l w
 |_,_,_,[],_,h,_,_,_,_,_=>absurd rfl h
 |a,s,d,c::l,h,_,v,w,O,N,E=>by
  obtain⟨g1,g2,S,G,L⟩:=h;have D:c.bD=1\/c.bD=0:=by rcases G with G|G<;>simp[G.1]
  have more: ¬w<=a+c.aR->l≠[]:=λT e=>by
   subst e;simp only[BD]at E;omega
  simp only[BD]at E;unfold plL;rw[g1,g2];by_cases M:v<=a+c.aR
  ·rw[aa M];by_cases I:w<=a+c.aR
   ·rw[aa I];rcases D with D|D<;>rw[D]<;>omega
   ·rw[ab I];have J:=PA L (more I) w w (by omega) (bz _) E;rcases D with D|D<;>rw[D]at J⊢<;>omega
  ·rw[ab M,ab];have J:=PA L (more (by omega)) v w (by omega) N E;rcases D with D|D<;>rw[D]at J<;>omega
structure Fw (t : Trk) (n : Int) : Prop where
 wh:∀z,0<=z->z<=n->0<=AO t z/\AO t z<=t.length/\AA t (AO t z)=z/\∀v,0<=v->v<AO t z->AA t v<z
 up:∀u v,u<=v->AA t u<=AA t v
 rg:∀u,0<=AA t u/\AA t u<=n
 zero:AA t 0=0
 len:0<=t.length/\t.length<=900000000000000
theorem Fw.le {n:Int} (h:Fw t n) {z u:Int} (D:0<=z) (E:z<=n) (G:u<=AO t z):AA t u<=z:=by
 have I:=h.wh z D E;have:=h.up u _ G;omega
theorem Fw.ge {n:Int} (h:Fw t n) {z u:Int} (D:0<=z) (E:z<=n) (G:0<=u) (I:z<=AA t u):AO t z<=u:=by
 apply bp;intro c;have:=(h.wh z D E).2.2.2 u G (by omega);omega
theorem Fw.wmono {n:Int} (h:Fw t n) {y z:Int} (E:0<=y) (G:y<=z) (I:z<=n):AO t y<=AO t z:=by
 have D:=h.wh z (by omega) I;refine h.ge E (by omega) D.1 ?_;rw[D.2.2.1];exact G
theorem Zz2 {x:Ax3} (X:Ax3OK x) (T:GoodPath p) (hm:0<=m/\m<=Av p.aF):Fw (AR p x q 0 m) m:=by
 have hn:=Nq T;obtain⟨d',G,L,-⟩:=Lo (d:=q) (a:=0) (b:=m) (Q:=λ_ _=>True) X T (λ_ _ _ _ _ _ _ _=>trivial);have E:=LO q 0 m X T;have Y:A6 0 (Av p.aF)=0:=by unfold A6;omega
 have c2:A6 m (Av p.aF)=m:=by unfold A6;omega
 have U:mvP p 0 m=1:=by unfold mvP;rw[Y,c2,ab]
 rw[U,c2]at G;rw[Y]at L;generalize AR p x q 0 m=t at*;obtain⟨ch,M,N,-⟩:=G;rw[L]at ch N;by_cases D:t.aE=[]
 ·have a0:m=0:=by rw[D]at N;exact N.symm
  have a5:t.length=0:=by rw[D]at M;exact M.symm
  have pl:∀u,AA t u=0:=λu=>by unfold AA;rw[aa D,L]
  refine⟨λz z0 z1=> ?_,λu v _=>by rw[pl,pl];omega,λu=>by rw[pl];omega,pl 0,E.len⟩;have O:AO t z=0:=by unfold AO;rw[aa (by rw[L];omega)]
  rw[O];exact⟨by omega,by omega,by rw[pl];omega,λv S G=>by omega⟩
 ·have cl:∀u,0<=clT t u/\clT t u<=t.length:=JR E;have I:∀u,0<=u->u<=t.length->clT t u=u:=λu S G=>by unfold clT A6;omega
  have J:∀u v,u<=v->clT t u<=clT t v:=λu v h=>by unfold clT A6;omega
  have up:∀u v,u<=v->AA t u<=AA t v:=λu v h=>by
   rw[FQ E u D,FQ E v D];exact(PA ch D _ _ (cl u).1 (J u v h) (by rw[M];exact(cl v).2)).2
  have lo:∀u,0<=AA t u:=λu=>by
   rw[FQ E u D];exact(PA ch D _ _ (cl u).1 (bz _) (by rw[M];exact(cl u).2)).1
  have hi:∀u,AA t u<=m:=λu=>by
   rw[FQ E u D];have:=Qdu ch D (u:=clT t u) (by rw[M];exact(cl u).2);rw[N]at this;exact this
  have zero:AA t 0=0:=by
   rw[FQ E 0 D,I 0 (by omega) E.len.1];obtain⟨c,l,e⟩:=ko D;rw[e]at ch⊢;obtain⟨g1,g2,g3,-⟩:=ch;unfold plL;rw[aa,g1,g2];simp
  refine⟨λz z0 z1=> ?_,up,λu=>⟨lo u,hi u⟩,zero,E.len⟩;by_cases V:z=0
  ·have O:AO t z=0:=by unfold AO;rw[aa (by rw[L];exact V)]
   rw[O];exact⟨by omega,E.len.1,by rw[zero,V],λv S G=>by omega⟩
  ·have O:AO t z=wF z t.aE:=by unfold AO;rw[ab (by rw[L];exact V)]
   obtain⟨a1,a2,a3,a4⟩:=(Z7 (.inl rfl) z ch).2.2 (by omega) (by rw[N];omega);rw[M]at a2;rw[O];refine⟨by omega,a2,?_,λv S G=> ?_⟩
   ·rw[FQ E _ D,I _ (by omega) a2,a3]
   ·rw[FQ E _ D,I v S (by omega)];have:=a4 v S G;omega
theorem Z3d {x:Ax3} (E:Ax3OK x) (D:GoodPath p):Fw (AR p x q 0 (Av p.aF)) (Av p.aF):=
 Zz2 E D ⟨(Nq D).1,bz _⟩
end Go.Bm
namespace Go.Bm
structure MarksOK (K : Kf) : Prop where
 fw:Fw K.t K.len
 closed:K.closed=true
 at_:∀i:Int,0<=i->i<K.p.aD.length->0<=(mkK K i).at_/\(mkK K i).at_<=K.len
 mono:∀i j:Int,0<=i->i<=j->j<K.p.aD.length->(mkK K i).at_<=(mkK K j).at_
theorem Zen {A:Int->Bool} {c:Cv} {known frm:Int} (J:∀k,A k=true->Cc k c=true):∀(l:List Mrk) (i:Nat),(∀m∈l,A m.aP=true->frm<=m.at_/\m.at_<=known)->
  (EM c known frm l i=(known,-1)/\∀m∈l,A m.aP=false)\/∃j,∃L:j<l.length,EM c known frm l i=(l[j].at_,((i+j:Nat):Int))/\Cc l[j].aP c=true/\∀k,∀M:k<j,A (l[k]'(by omega)).aP=false
 |[],_,_=> .inl ⟨rfl,λm O=>by cases O⟩
 |m::l,i,h=>by
  unfold EM;by_cases E:Cc m.aP c=true/\frm<=m.at_/\m.at_<=known
  ·rw[aa E];exact .inr ⟨0,by simp,rfl,E.1,λk M=>by omega⟩
  ·rw[ab E];have N:A m.aP=false:=by
    cases e:A m.aP
    ·rfl
    ·exact absurd ⟨J _ e,h m (by simp) e⟩ E
   rcases Zen J l (i+1) λq D=>h q (by simp[D])with⟨G,I⟩|⟨j,L,G,I,S⟩
   ·refine .inl ⟨G,λq D=> ?_⟩;rcases ao.1 D with rfl|D
    ·exact N
    ·exact I q D
   ·refine .inr ⟨j+1,by simpa using L,?_,by simpa using I,λk M=> ?_⟩
    ·rw[G];have:i+1+j=i+(j+1):=by omega
     rw[this];rfl
    ·cases k with
     |zero=>exact N
     |succ k=>exact S k (by omega)
theorem Z7e {A:Int->Bool} {c:Cv} {known frm:Int} (U:∀k,A k=true->Cc k c=true) (V:0<=c.next) (X:∀i:Int,c.next<=i->i<K.p.aD.length->A (mkK K i).aP=true->frm<=(mkK K i).at_/\(mkK K i).at_<=known):
  (BA K c known frm=(known,-1)/\∀i:Int,c.next<=i->i<K.p.aD.length->A (mkK K i).aP=false)\/
  ∃j:Int,BA K c known frm=((mkK K j).at_,j)/\c.next<=j/\j<K.p.aD.length/\Cc (mkK K j).aP c=true/\∀i:Int,c.next<=i->i<j->A (mkK K i).aP=false:=by
 have J:(max c.next 0).toNat=c.next.toNat:=by rw[kj V]
 have L:∀(k:Nat) (D:k<(K.p.aD.drop c.next.toNat).length),(K.p.aD.drop c.next.toNat)[k]=mkK K ((c.next.toNat+k:Nat):Int):=λk D=>by
  rw[jf];unfold mkK;rw[aj,List.getD,ag (by rw[bq]at D;omega)];rfl
 have em:∀{i:Int},c.next<=i->i<K.p.aD.length->∃k,∃D:k<(K.p.aD.drop c.next.toNat).length,mkK K i=(K.p.aD.drop c.next.toNat)[k]/\(k:Int)=i-c.next:=fun{i} E G=>by
  refine⟨(i-c.next).toNat,by rw[bq];omega,?_,by omega⟩;rw[L];have:((c.next.toNat+(i-c.next).toNat:Nat):Int)=i:=by omega
  rw[this]
 have I:∀m∈K.p.aD.drop c.next.toNat,A m.aP=true->frm<=m.at_/\m.at_<=known:=λm M O=>by
  obtain⟨k,D,rfl⟩:=kg.1 M;rw[L k D]at O⊢;rw[bq]at D;exact X _ (by omega) (by omega) O
 unfold BA;rw[J];rcases Zen U _ c.next.toNat I with⟨E,G⟩|⟨j,S,E,G,Y⟩
 ·refine .inl ⟨E,λi i1 T=> ?_⟩;obtain⟨k,D,e,-⟩:=em i1 T;rw[e];exact G _ (bf D)
 ·rw[L j S]at E G;have N:=S;rw[bq]at N;refine .inr ⟨_,E,by omega,by omega,G,λi i1 T=> ?_⟩;obtain⟨k,D,e,e2⟩:=em (i:=i) i1 (by omega);rw[e];exact Y k (by omega)
theorem KF (h:KOK K) (c:Cv):c.m0<=endC K c:=(V9 c.m0 (stL K c) (LQ h.plan c.m1 c.m2).2).1
theorem Qlm (h:KOK K) {n:Int} {c:Cv} (g:Gd K n c) (D:0<=n/\n<=10000):KE K c=endC K c:=by
 have:=SC g D;unfold KE one;rw[Zrm h.plan (by omega) g.mo];rfl
def Jm (A:Int->Bool) (K:Kf) (c:Cv):Prop:=∀i:Int,c.next<=i->i<K.p.aD.length->A (mkK K i).aP=true->endC K c<=256*AO K.t (mkK K i).at_
theorem Zut (h:KOK K) (mk:MarksOK K) {r z:Int} (O:0<=r) (D:0<=z) (E:z<=K.len) (S:r<=256*AO K.t z):DM K r<=z:=by
 have T:=mk.fw.wh z D E;have U:=mk.fw.len;have I:i64 K.len:=h.len;unfold i64 at I;have V:CQ r=(r+255)/256:=by
  unfold CQ;rw[Ae (x:=r+256),Ae (x:=r+256-1),ap (by omega)];rw[Ae];omega
 have J:0<=CQ r:=by omega
 have L:CQ r<=AO K.t z:=by omega
 have M:=mk.fw.le D E L;unfold DM;split
 ·next G=>
  have N:AA K.t (CQ r)<z:=by
   apply bp;intro q;have e:AA K.t (CQ r)=z:=by omega
   have:=mk.fw.ge D E J (by omega);rw[e]at G;omega
  rw[Ae (by have:=(mk.fw.rg (CQ r)).1;omega)];omega
 ·exact M
theorem Zgw {A:Int->Bool} (h:KOK K) (mk:MarksOK K) {n:Int} {c:Cv} (g:Gd K n c) (J:0<=n/\n<=10000) (L:∀k,A k=true->Cc k c=true) (U:0<=c.m0) (M:0<=c.next) (N:Jm A K c):
  (AG K c=(AO K.t K.len,-1)/\∀i:Int,c.next<=i->i<K.p.aD.length->A (mkK K i).aP=false)\/
  ∃j:Int,AG K c=(AO K.t (mkK K j).at_,j)/\c.next<=j/\j<K.p.aD.length/\Cc (mkK K j).aP c=true/\∀i:Int,c.next<=i->i<j->A (mkK K i).aP=false:=by
 have O:Ew K=K.len:=by unfold Ew;rw[aa mk.closed]
 have he:=KF h c;unfold AG;rw[Qlm h g J,O];have S:=Z7e (K:=K) (known:=K.len) (frm:=DM K (endC K c)) L M λi i1 I T=>by
  have D:=mk.at_ i (by omega) I;exact⟨Zut h mk (by omega) D.1 D.2 (N i i1 I T),D.2⟩
 rcases S with⟨E,G⟩|⟨j,E,G⟩
 ·rw[E];exact .inl ⟨rfl,G⟩
 ·rw[E];exact .inr ⟨j,rfl,G⟩
theorem Jm.bD {A:Int->Bool} (h:KOK K) (mk:MarksOK K) {n:Int} {c e:Cv} (g:Gd K n c) (S:0<=n/\n<=10000) (T:∀k,A k=true->Cc k c=true) (U:0<=c.m0) (V:0<=c.next) (M:Jm A K c)
  (he:EndQ K c e (AG K c).1) (I:e.next=c.next):Jm A K e:=by
 intro i i1 G E;rw[I]at i1;rcases he with he|he
 ·rcases Zgw h mk g S T U V M with⟨N,O⟩|⟨j,N,O,X,h4,Y⟩
  ·rw[O i i1 G]at E;cases E
  ·rw[N]at he;dsimp only at he;have J:j<=i:=by
    apply bp;intro q;rw[Y i i1 (by omega)]at E;cases E
   have D:=mk.at_ j (by omega) X;have L:=mk.at_ i (by omega) G;have hw:=mk.fw.wh _ D.1 D.2;have hl:=mk.fw.len;have:=mk.fw.wmono D.1 (mk.mono j i (by omega) J G) L.2;rw[Ae]at he;omega
 ·rw[he];exact M i i1 G E
end Go.Bm
namespace Go.Bm
open Classical
theorem Zao {aU aZ aX:Int}:∀(D:List Pt) (s:List Sgm×Int×Pt),∃l,(D.foldl (Bc aU aZ aX) s).1=s.1++l
 |[],s=>⟨[],by simp⟩
 |q::D,s=>by
  rw[fh];obtain⟨l,E⟩:=Zao (aU:=aU) (aZ:=aZ) (aX:=aX) D (Bc aU aZ aX s q);rw[E];unfold Bc;split
  ·exact⟨l,rfl⟩
  ·exact⟨_::l,(dk _ _ _).trans rfl⟩
theorem Ziq (aA:List Itm) (i:Nat) (s:BSt):∃l,(Dv aA i s).aF=s.aF++l:=by
 unfold Dv;split
 ·exact Zao _ _
 ·exact⟨[],by simp⟩
theorem Qy4 (aA:List Itm) (i:Nat):∀k,∃l,(Aq aA (i+k)).aF=(Aq aA i).aF++l
 |0=>⟨[],by simp⟩
 |k+1=>by
  obtain⟨l,D⟩:=Qy4 aA i k;obtain⟨m,E⟩:=Ziq aA (i+k) (Aq aA (i+k));refine⟨l++m,?_⟩;show(Dv aA (i+k) (Aq aA (i+k))).aF=_;rw[E,D,dk]
theorem Su {l:List Sgm} (h:∀g∈l,1<=g.len):0<=Av l:=by
 induction l with
 |nil=>simp[Av]
 |cons k l D=>
  have:=D λg E=>h g (by simp[E]);have:=h k (by simp);simp only[Av];omega
theorem Te (l m:List Sgm):Av (l++m)=Av l+Av m:=by
 induction l with
 |nil=>simp[Av]
 |cons k l D=>simp only[ay,Av,D];omega
def Z0r (aU:Int) (a:Pt) (g:Sgm):Prop:=bd B24 g.to/\g.to≠a/\g.len=AK a g.to/\aU<=g.aU/\(0<=g.aZ/\g.aZ<=16777216)/\(0<=g.aX/\g.aX<=16777216)
def Q8o (aU:Int) (a:Pt):List Sgm->Prop
 |[]=>True
 |g::l=>Z0r aU a g/\Q8o g.aU g.to l
def Z3n (last n:Int) (m:Mrk):Prop:=last<=m.at_/\m.at_<=n/\(1<=m.aP/\m.aP<=6)/\0<=m.aU
def Q2h (last n:Int):List Mrk->Prop
 |[]=>True
 |m::l=>Z3n last n m/\Q2h m.at_ n l
structure okW (R : Nat) (s : Spk) : Prop where
 ok:okS s
 u:s.u.natAbs<=R
 w:s.w.natAbs<=R
 r:s.r<=R
def Zfr:Int->List Sgm->Int
 |k,[]=>k
 |_,g::l=>Zfr g.aU l
structure VInv (i : Nat) (s : BSt) : Prop where
 bK:s.bK=true->bd B24 s.aQ/\Q8o 0 s.aQ s.aF/\Zfr 0 s.aF<=i
 aD:Q2h 0 s.len s.aD
theorem RI (aA:List Itm):AQ aA=⟨(Aq aA aA.length).aQ,(Aq aA aA.length).aF,(Aq aA aA.length).aD⟩:=rfl
noncomputable def mkA (aA:List Itm) (i:Nat):Mrk:=⟨(Aq aA (i+1)).len,if AF (vE aA i)then GY aA i else I6 (vE aA i),i⟩
theorem UO (aA:List Itm):∀n,(Aq aA n).aD=(List.range n).map (mkA aA)
 |0=>rfl
 |n+1=>by
  rw[List.range_succ,bn,<-UO aA n];show(Dv aA n (Aq aA n)).aD=_;unfold mkA;show _=_++[(⟨(Dv aA n (Aq aA n)).len,_,_⟩:Mrk)];unfold Dv;by_cases c:AF (vE aA n)
  ·simp only[aa c]
  ·simp only[ab c]
theorem Zej:∀l:List Itm,Fk l=1\/Fk l=2
 |[]=> .inr rfl
 |it::l=>by
  unfold Fk
  repeat' split
  all_goals first|exact .inl rfl|exact .inr rfl|exact Zej l
theorem Zmz (aA:List Itm) (i:Nat):GY aA i=6\/GY aA i=1\/GY aA i=2:=by
 unfold GY;have:=Zej (aA.drop (i+1))
 repeat' split
 all_goals omega
theorem QX {aA:List Itm} (h:BInv (Aq aA i)):(Aq aA i).len=Av (Aq aA i).aF:=by
 by_cases hb:(Aq aA i).bK=true
 ·exact(h.bK hb).2.2.2.symm
 ·obtain⟨D,E,-⟩:=h.empty (by simpa using hb);rw[D,E];rfl
theorem Zfp {aA:List Itm} (D:∀j<aA.length,¬B6 (vE aA j)) {i:Nat} (E:i<=aA.length):∀g∈(Aq aA i).aF,1<=g.len:=by
 have h:=IY D i E;by_cases hb:(Aq aA i).bK=true
 ·exact λg G=>(Vv (h.bK hb).1 (h.bK hb).2.1 g G).1
 ·rw[(h.empty (by simpa using hb)).1];simp
theorem Zeo {aA:List Itm} (D:∀j<aA.length,¬B6 (vE aA j)) {i k:Nat} (h:i+k<=aA.length):0<=(Aq aA i).len/\(Aq aA i).len<=(Aq aA (i+k)).len:=by
 rw[QX (IY D i (by omega)),QX (IY D (i+k) h)];obtain⟨l,I⟩:=Qy4 aA i k;have G:=Zfp D h;rw[I]at G⊢;rw[Te];have J:=Su (l:=(Aq aA i).aF) λg E=>G g (by simp[E]);have L:=Su (l:=l) λg E=>G g (by simp[E]);omega
theorem Q6x {aA:List Itm} (D:∀j<aA.length,¬B6 (vE aA j)) {i:Nat} (E:i<aA.length):
  0<=(mkA aA i).at_/\(mkA aA i).at_<=Av (AQ aA).aF:=by
 have h:=Zeo D (i:=i+1) (k:=aA.length-(i+1)) (by omega);rw[show i+1+(aA.length-(i+1))=aA.length by omega]at h;refine⟨h.1,?_⟩;have:=QX (IY D aA.length (cx _));rw[RI];simp only;rw[<-this];exact h.2
structure FwS (t : Trk) (s0 n : Int) : Prop where
 be:0<=s0/\s0<=n
 wh:∀z,s0<=z->z<=n->0<=AO t z/\AO t z<=t.length/\AA t (AO t z)=z/\∀v,0<=v->v<AO t z->AA t v<z
 rg:∀u,s0<=AA t u/\AA t u<=n
 up:∀u v,u<=v->AA t u<=AA t v
 len:0<=t.length/\t.length<=900000000000000
theorem Xf {x:Ax3} {d:Pt} (X:Ax3OK x) (T:GoodPath p) (Y:0<=m/\m<=Av p.aF):FwS (AR p x d m (Av p.aF)) m (Av p.aF):=by
 have hn:=Nq T;obtain⟨d',G,L,-⟩:=Lo (d:=d) (a:=m) (b:=Av p.aF) (Q:=λ_ _=>True) X T (λ_ _ _ _ _ _ _ _=>trivial);have E:=LO d m (Av p.aF) X T;have c1:A6 m (Av p.aF)=m:=by unfold A6;omega
 have c2:A6 (Av p.aF) (Av p.aF)=Av p.aF:=by unfold A6;omega
 have U:mvP p m (Av p.aF)=1:=by unfold mvP;rw[c1,c2,ab]
 rw[U,c2]at G;rw[c1]at L;generalize AR p x d m (Av p.aF)=t at*;generalize Av p.aF=n at*;obtain⟨ch,M,N,-⟩:=G;rw[L]at ch N;by_cases D:t.aE=[]
 ·have a0:n=m:=by rw[D]at N;exact N.symm
  have a5:t.length=0:=by rw[D]at M;exact M.symm
  have pl:∀u,AA t u=m:=λu=>by unfold AA;rw[aa D,L]
  refine⟨Y,λz z0 z1=> ?_,λu=>by rw[pl];omega,λu v _=>by rw[pl,pl];omega,E.len⟩;have O:AO t z=0:=by unfold AO;rw[aa (by rw[L];omega)]
  rw[O];exact⟨by omega,by omega,by rw[pl];omega,λv S G=>by omega⟩
 ·have cl:∀u,0<=clT t u/\clT t u<=t.length:=JR E;have I:∀u,0<=u->u<=t.length->clT t u=u:=λu S G=>by unfold clT A6;omega
  have J:∀u v,u<=v->clT t u<=clT t v:=λu v h=>by unfold clT A6;omega
  have lo:∀u,m<=AA t u:=λu=>by
   rw[FQ E u D];exact(PA ch D _ _ (cl u).1 (bz _) (by rw[M];exact(cl u).2)).1
  have hi:∀u,AA t u<=n:=λu=>by
   rw[FQ E u D];have:=Qdu ch D (u:=clT t u) (by rw[M];exact(cl u).2);rw[N]at this;exact this
  have up:∀u v,u<=v->AA t u<=AA t v:=λu v h=>by
   rw[FQ E u D,FQ E v D];exact(PA ch D _ _ (cl u).1 (J u v h) (by rw[M];exact(cl v).2)).2
  have zero:AA t 0=m:=by
   rw[FQ E 0 D,I 0 (by omega) E.len.1];obtain⟨c,l,e⟩:=ko D;rw[e]at ch⊢;obtain⟨g1,g2,g3,-⟩:=ch;unfold plL;rw[aa,g1,g2];simp
  refine⟨Y,λz z0 z1=> ?_,λu=>⟨lo u,hi u⟩,up,E.len⟩;by_cases V:z=m
  ·have O:AO t z=0:=by unfold AO;rw[aa (by rw[L];exact V)]
   rw[O];exact⟨by omega,E.len.1,by rw[zero,V],λv S G=>by omega⟩
  ·have O:AO t z=wF z t.aE:=by unfold AO;rw[ab (by rw[L];exact V)]
   obtain⟨a1,a2,a3,a4⟩:=(Z7 (.inl rfl) z ch).2.2 (by omega) (by rw[N];omega);rw[M]at a2;rw[O];refine⟨by omega,a2,?_,λv S G=> ?_⟩
   ·rw[FQ E _ D,I _ (by omega) a2,a3]
   ·rw[FQ E _ D,I v S (by omega)];have:=a4 v S G;omega
theorem FwS.ge {s0 n:Int} (h:FwS t s0 n) {z u:Int} (D:s0<=z) (E:z<=n) (G:0<=u) (I:z<=AA t u):AO t z<=u:=by
 apply bp;intro c;have:=(h.wh z D E).2.2.2 u G (by omega);omega
theorem FwS.wmono {s0 n:Int} (h:FwS t s0 n) {y z:Int} (E:s0<=y) (G:y<=z) (I:z<=n):AO t y<=AO t z:=by
 have D:=h.wh z (by omega) I;refine h.ge E (by omega) D.1 ?_;rw[D.2.2.1];exact G
theorem FwS.le {s0 n:Int} (h:FwS t s0 n) {z u:Int} (D:s0<=z) (E:z<=n) (G:u<=AO t z):AA t u<=z:=by
 have I:=h.wh z D E;have:=h.up u _ G;omega
theorem Qh4 (f:FwS K.t a K.len) (J:i64 K.len) {r z:Int} (S:0<=r) (D:a<=z) (E:z<=K.len) (I:r<=256*AO K.t z):a<=DM K r/\DM K r<=z:=by
 have T:=f.wh z D E;have U:=f.len;have V:=f.be;unfold i64 at J;have X:CQ r=(r+255)/256:=by
  unfold CQ;rw[Ae (x:=r+256),Ae (x:=r+256-1),ap (by omega)];rw[Ae];omega
 have L:0<=CQ r:=by omega
 have M:CQ r<=AO K.t z:=by omega
 have N:=f.le D E M;have I:=(f.rg (CQ r)).1;unfold DM;split
 ·next G=>
  have O:AA K.t (CQ r)<z:=by
   apply bp;intro q;have e:AA K.t (CQ r)=z:=by omega
   have:=f.ge D E L (by omega);rw[e]at G;omega
  rw[Ae];omega
 ·exact⟨I,N⟩
theorem Qwa {c:Cv} {known frm:Int}:∀{l:List Mrk} {i:Nat},((EM c known frm l i).2= -1/\(EM c known frm l i).1=known/\∀m∈l,¬(Cc m.aP c=true/\frm<=m.at_/\m.at_<=known))\/
  ∃j,∃L:j<l.length,EM c known frm l i=(l[j].at_,((i+j:Nat):Int))/\(Cc l[j].aP c=true/\frm<=l[j].at_/\l[j].at_<=known)/\∀k,∀M:k<j,¬(Cc (l[k]'(by omega)).aP c=true/\frm<=(l[k]'(by omega)).at_/\(l[k]'(by omega)).at_<=known)
 |[],_=> .inl ⟨rfl,rfl,λm N=>by cases N⟩
 |m::l,i=>by
  unfold EM;by_cases D:Cc m.aP c=true/\frm<=m.at_/\m.at_<=known
  ·rw[aa D];exact .inr ⟨0,by simp,rfl,D,λk M=>by omega⟩
  ·rw[ab D];rcases Qwa (l:=l) (i:=i+1)with⟨E,G,I⟩|⟨j,L,E,G,I⟩
   ·refine .inl ⟨E,G,λq J=> ?_⟩;rcases ao.1 J with rfl|J
    ·exact D
    ·exact I q J
   ·refine .inr ⟨j+1,by simpa using L,?_,by simpa using G,λk M=> ?_⟩
    ·rw[E];have:i+1+j=i+(j+1):=by omega
     rw[this];rfl
    ·cases k with
     |zero=>exact D
     |succ k=>exact I k (by omega)
theorem Zem {c:Cv} {known frm:Int} (S:0<=c.next):(BA K c known frm=(known,-1)/\∀i:Int,c.next<=i->i<K.p.aD.length-> ¬(Cc (mkK K i).aP c=true/\frm<=(mkK K i).at_/\(mkK K i).at_<=known))\/
  ∃j:Int,BA K c known frm=((mkK K j).at_,j)/\c.next<=j/\j<K.p.aD.length/\(Cc (mkK K j).aP c=true/\frm<=(mkK K j).at_/\(mkK K j).at_<=known)/\∀i:Int,c.next<=i->i<j-> ¬(Cc (mkK K i).aP c=true/\frm<=(mkK K i).at_/\(mkK K i).at_<=known):=by
 have I:(max c.next 0).toNat=c.next.toNat:=by rw[kj S]
 have M:∀(k:Nat) (D:k<(K.p.aD.drop c.next.toNat).length),(K.p.aD.drop c.next.toNat)[k]=mkK K ((c.next.toNat+k:Nat):Int):=λk D=>by
  rw[jf];unfold mkK;rw[aj,List.getD,ag (by rw[bq]at D;omega)];rfl
 have em:∀{i:Int},c.next<=i->i<K.p.aD.length->∃k,∃D:k<(K.p.aD.drop c.next.toNat).length,mkK K i=(K.p.aD.drop c.next.toNat)[k]/\(k:Int)=i-c.next:=fun{i} E G=>by
  refine⟨(i-c.next).toNat,by rw[bq];omega,?_,by omega⟩;rw[M];have:((c.next.toNat+(i-c.next).toNat:Nat):Int)=i:=by omega
  rw[this]
 unfold BA;rw[I];rcases Qwa (c:=c) (known:=known) (frm:=frm) (l:=K.p.aD.drop c.next.toNat) (i:=c.next.toNat)with⟨E,G,J⟩|⟨j,N,E,G,J⟩
 ·refine .inl ⟨Prod.ext G E,λi i1 O=> ?_⟩;obtain⟨k,D,e,-⟩:=em i1 O;rw[e];exact J _ (bf D)
 ·rw[M j N]at E G;have L:=N;rw[bq]at L;refine .inr ⟨_,E,by omega,by omega,G,λi i1 O=> ?_⟩;obtain⟨k,D,e,e2⟩:=em (i:=i) i1 (by omega);rw[e];exact J k (by omega)
structure MkI (K : Kf) : Prop where
 len:K.p.aD.length=K.aA.length
 aU:∀i:Int,0<=i->i<K.aA.length->(mkK K i).aU=i
 out:∀i:Int,0<=i->i<K.aA.length->((mkK K i).aP=5↔(itK K i).aP=10)
end Go.Bm
namespace Go.Bm
theorem Q87 (h:KOK K) {n:Int} {c:Cv} (g:Gd K n c) (E:0<=n/\n<=10000) {v:Int} (D:(AJ K.pa K.pb v (V (v-c.m1))).2=true\/∃r:Int,v=V (c.m1+r)/\r=AH K.pa K.pb c.m1 c.m2):c.m0<=V (c.m0+v):=by
 have G:=g.m0;have I:=DH h.plan (FA.1 (Qw6 h g.mo D)).1;rw[Ae];omega
theorem Qf7 (h:KOK K) {n:Int} {c:Cv} (g:Gd K n c) (D:0<=n/\n<=10000) (l:Int):c.m0<=(Cy K c l).m0:=Q87 h g D (Vp h g l).2
theorem Qg7 (c:Cv):(Bx c).m0=c.m0:=by unfold Bx;split<;>rfl
theorem Q7q (h:KOK K) {n:Int} {c:Cv} (g:Gd K n c) (D:0<=n/\n<=10000) (l:Int) {s:Sgm} (G:i64 s.aX):c.m0<=(DS K c l s).m0:=by
 have E:=Qf7 h g D l;unfold DS;split
 ·exact E
 ·unfold Gb;split
  ·exact E
  ·obtain⟨-,v,L,b,z,y,e,I,J⟩:=Qr2 h g l G;have e1:gA (thO K c l s.aX) 1=v:=by rw[I];rfl
   have up:=Q87 h g D J;have e2:(GG c (thO K c l s.aX)).m0=V (c.m0+v):=by
    show V (c.m0+gA (thO K c l s.aX) 1)=_;rw[e1]
   split
   ·rw[Qg7,e2];exact up
   ·rw[e2];exact up
theorem Qy6 (h:KOK K) {n:Int} {c:Cv} (g:Gd K n c) (D:0<=n/\n<=10000) (l:Int):c.m0<=(BB K c l).m0:=by
 unfold BB;split
 ·exact Qf7 h g D l
 ·rename_i G;have E:(vF K c).aX≠0:=λe=>G (.inl e);split
  ·exact Q7q h g D l (FG h E).2.2
  ·split
   ·exact Q7q h (g.go (vF K c)) D l (FG h E).2.2
   ·split
    ·rw[Qg7];exact bz _
    ·exact bz _
theorem Zzc (h:KOK K) {n:Int} {c:Cv} (g:Gd K n c) (D:0<=n/\n<=10000):c.m0<=(CM K c).2.m0:=by
 unfold CM;split
 ·have b:=Z79 K c (AG K c).2;split
  ·split
   ·rw[Qg7,b.m0];exact bz _
   ·rw[b.m0];exact bz _
  ·split
   ·exact bz _
   ·exact bz _
 ·exact Qy6 h g D _
theorem Q8x (h:KOK K) (c:Cv):LR (Ab K c)=some (Bv K.p++Ab K c):=by
 have D:=h.f.p.count;have E:=h.count;refine(Zzk K c).trans ?_;exact eT (BM (by rw[ac];omega)) (eT (BM (by rw[ac];omega)) rfl)
theorem Q52 (h:KOK K) (c:Cv):LW (Ab K c)=some (A4 K.t++Ab K c):=by
 have D:=h.f.t.q.count;refine(Zx5 K c).trans ?_;exact eT (BM (by rw[ac];omega)) rfl
structure Dr (K : Kf) (n : Int) (c : Cv) : Prop where
 k:KOK K
 g:Ga K n c
 l:Iw K
 m0:0<=c.m0
theorem Qpl (h:KOK K) (D:Iw K) {c d:Cv} (hb:DU K c=true) (to:Int) (E:d.m0=0):D0 (sT K (BI K c to)) d=D0 K c/\Iw (sT K (BI K c to)):=by
 have t:=Zgm h D hb to;refine⟨?_,t.2⟩;have e:D0 (sT K (BI K c to)) d=Co K.p K.x (BI K c to) (V (d.m0.tdiv 256)):=rfl;rw[e,E];exact t.1
def EvQ (s q:Kf×Cv):Prop:=D0 q.1 q.2=D0 s.1 s.2/\Iw q.1/\0<=q.2.m0/\q.2.aL=s.2.aL
theorem Zpu {c:Cv} {n:Int} (h:ES K c n=true):DU K c=true:=by
 unfold ES at h;rw[ak]at h;exact h.2
theorem Z1h (h:KOK K) (D:Iw K) {c:Cv} (E:0<=c.m0) (m:Int):EvQ (K,c) (CK K c m):=by
 unfold CK;by_cases hb:ES K c m=true
 ·rw[aa hb];have t:=Qpl h D (Zpu hb) (Qz K c m) (d:={zM c with o2:=false,way:=1,home:=Ay K c}) rfl;exact⟨t.1,t.2,bz _,rfl⟩
 ·rw[ab hb];exact⟨rfl,D,E,rfl⟩
structure Ky (c d : Cv) : Prop where
 m0:d.m0=c.m0
 m1:d.m1=c.m1
 m2:d.m2=c.m2
 next:d.next=c.next
 on:d.on=c.on
 idx:d.idx=c.idx
 aN:d.aN=c.aN
 aI:d.aI=c.aI
 aH:d.aH=c.aH
 y0:d.y0=c.y0
 y1:d.y1=c.y1
 y2:d.y2=c.y2
theorem Ky.rfl {c:Cv}:Ky c c:=⟨Eq.refl _,Eq.refl _,Eq.refl _,Eq.refl _,Eq.refl _,Eq.refl _,Eq.refl _,Eq.refl _,Eq.refl _,Eq.refl _,Eq.refl _,Eq.refl _⟩
theorem Ky.trans {a b c:Cv} (h:Ky a b) (g:Ky b c):Ky a c:=
 ⟨g.m0.trans h.m0,g.m1.trans h.m1,g.m2.trans h.m2,g.next.trans h.next,g.on.trans h.on,g.idx.trans h.idx,g.aN.trans h.aN,g.aI.trans h.aI,g.aH.trans h.aH,g.y0.trans h.y0,g.y1.trans h.y1,g.y2.trans h.y2⟩
structure Mk (c d : Cv) : Prop where
 next:d.next=c.next
 on:d.on=c.on
 idx:d.idx=c.idx
 aN:d.aN=c.aN
theorem Qdq (c:Cv):Mk c (Bx c):=by unfold Bx;split<;>exact⟨rfl,rfl,rfl,rfl⟩
theorem Q6q (K:Kf) (c:Cv) (l:Int) (s:Sgm):Mk c (DS K c l s):=by
 unfold DS;split
 ·exact⟨rfl,rfl,rfl,rfl⟩
 ·unfold Gb;split
  ·exact⟨rfl,rfl,rfl,rfl⟩
  ·split
   ·have:=Qdq (GG c (thO K c l s.aX));exact⟨this.next,this.on,this.idx,this.aN⟩
   ·exact⟨rfl,rfl,rfl,rfl⟩
theorem Qmi (K:Kf) (c:Cv) (l:Int):Mk c (BB K c l):=by
 unfold BB;split
 ·exact⟨rfl,rfl,rfl,rfl⟩
 ·split
  ·exact Q6q K c l _
  ·split
   ·have:=Q6q K (goC K c (vF K c)) l (vF K c);exact⟨this.next,this.on,this.idx,this.aN⟩
   ·split
    ·exact Qdq c
    ·exact⟨rfl,rfl,rfl,rfl⟩
def Z1k (c d:Cv):Prop:=Mk c d\/(d.next=V (c.idx+1)/\d.on=false/\(c.aN=true->c.aJ=true))
theorem Q6a (K:Kf) (c:Cv):Z1k c (A3 K c).2:=by
 unfold A3 FL;split
 ·split
  ·next h=>exact .inr ⟨rfl,rfl,λ_=>h.2⟩
  ·exact .inl ⟨rfl,rfl,rfl,rfl⟩
 ·next E=>
  have D:∀{p:Prop},c.aN=true->p:=λh=>absurd h E;split
  ·exact .inr ⟨rfl,rfl,D⟩
  ·split
   ·split
    ·exact .inl ⟨rfl,rfl,rfl,rfl⟩
    ·exact .inr ⟨rfl,rfl,D⟩
   ·split
    ·split
     ·exact .inr ⟨rfl,rfl,D⟩
     ·exact .inl ⟨rfl,rfl,rfl,rfl⟩
    ·split
     ·exact .inl ⟨rfl,rfl,rfl,rfl⟩
     ·exact .inr ⟨rfl,rfl,D⟩
structure Ix (A : Int -> Bool) (K : Kf) (c : Cv) : Prop where
 m0:0<=c.m0
 next:0<=c.next
 j:Jm A K c
 task:c.on=true->c.next<=c.idx/\c.idx<K.p.aD.length/\∀i:Int,c.next<=i->i<c.idx->A (mkK K i).aP=false
theorem Jm.sub {A:Int->Bool} {c d:Cv} (h:Jm A K c) (he:endC K d=endC K c) (G:c.next<=d.next):Jm A K d:=λi i1 D E=>by
 rw[he];exact h i (by omega) D E
structure OKm (K : Kf) : Prop where
 len:K.len=Av K.p.aF
 closed:K.closed=true
 mi:MkI K
 pos:0<K.aA.length
 at_:∀i:Int,0<=i->i<K.aA.length->0<=(mkK K i).at_/\(mkK K i).at_<=K.len
 last:(mkK K (K.aA.length-1)).at_=K.len/\(mkK K (K.aA.length-1)).aP=3
 end_:(itK K (K.aA.length-1)).aP=14
 no14:∀i:Int,0<=i->i<K.aA.length-1->(itK K i).aP≠14
theorem OKm.sT (h:OKm K) (t:Trk):OKm (Go.Bm.sT K t):=⟨h.len,h.closed,⟨h.mi.len,h.mi.aU,h.mi.out⟩,h.pos,h.at_,h.last,h.end_,h.no14⟩
structure Oj (K : Kf) (n : Int) (c : Cv) : Prop where
 k:KOK K
 m:OKm K
 g:Ga K n c
 l:Iw K
 m0:0<=c.m0
 w:c.way=0->(∃s0,FwS K.t s0 K.len)/\endC K c<=256*AO K.t K.len
 next:0<=c.next/\c.next<K.aA.length
 on:c.on=true->c.way=0/\(c.aI=0->c.idx+1<K.aA.length)
structure Sj (c d : Cv) : Prop where
 m0:d.m0=c.m0
 m1:d.m1=c.m1
 m2:d.m2=c.m2
 way:d.way=c.way
 next:d.next=c.next
 on:d.on=c.on
 idx:d.idx=c.idx
 aI:d.aI=c.aI
 aK:d.aK=c.aK
theorem Sj.of {c d:Cv} (h:Sm c d):Sj c d:=⟨h.m0,h.m1,h.m2,h.kp.way,h.next,h.on,h.idx,h.aI,h.kp.aK⟩
theorem H9 {c d:Cv} (D:d.m0=c.m0) (E:d.m1=c.m1) (G:d.m2=c.m2):endC K d=endC K c:=by unfold endC;rw[OA E G,D]
theorem Oj.same {n:Int} {c d:Cv} (o:Oj K n c) (g:Ga K n d) (s:Sj c d):Oj K n d:=by
 refine⟨o.k,o.m,g,o.l,by rw[s.m0];exact o.m0,?_,by rw[s.next];exact o.next,by rw[s.on,s.way,s.aI,s.idx];exact o.on⟩;rw[s.way,H9 s.m0 s.m1 s.m2];exact o.w
theorem Qa8 (h:KOK K) {c:Cv} (D:c.m0=0) (E:c.m1=0) (G:c.m2=0):endC K c=0:=by
 unfold endC;have I:Mo K c:=by
  unfold Mo;rw[E,G];exact PU h.plan
 rw[TD h.plan I (by omega),D];rfl
theorem Zla (h:KOK K) (m:OKm K) (E:Iw K) {d:Pt} {u:Int}:∃s0,FwS (AR K.p K.x d (AA K.t u) K.len) s0 K.len:=by
 obtain⟨e,a,b,-,G⟩:=E;have D:=Qo3 (d:=e) (a:=a) (b:=b) h.f.x.ok h.f.p u;rw[<-G]at D;have:=Xf (d:=d) (m:=AA K.t u) h.f.x.ok h.f.p D;rw[<-m.len]at this;exact⟨_,this⟩
theorem Zfk {n:Int} {c:Cv} (G:0<=n) (o:Oj K n c) (q:Int):Oj (CK K c q).1 n (CK K c q).2/\(CK K c q).2.aK=c.aK/\(CK K c q).2.aI=c.aI:=by
 have I:=Q1o o.k G o.g q;have J:=Qk2 o.k c q;have E:=Z1h o.k o.l o.m0 q;unfold CK at*;by_cases hb:ES K c q=true
 ·rw[aa hb]at*;have D:c.on=false:=by
   unfold ES at hb;simp only[ak,ig]at hb;exact hb.1.1.1.1.2
  refine⟨⟨J,o.m.sT _,I,E.2.1,E.2.2.1,λw=>(by cases w),o.next,λw=> ?_⟩,rfl,rfl⟩;have w:c.on=true:=w;rw[D]at w;cases w
 ·rw[ab hb]at*;exact⟨o,rfl,rfl⟩
theorem Zrw {n:Int} {c d:Cv} (o:Oj K n c) (h:Fi c d):Oj K n d/\d.aK=c.aK/\d.aI=c.aI:=by
 have g:=Q6l o.g h;rcases h with rfl|⟨a,-,rfl⟩
 ·exact⟨o,rfl,rfl⟩
 ·exact⟨o.same g ⟨rfl,rfl,rfl,rfl,rfl,rfl,rfl,rfl,rfl⟩,rfl,rfl⟩
theorem Z16 {n:Int} {c:Cv} (o:Oj K n c):Oj K n (HQ K c)/\(HQ K c).aK=c.aK/\(HQ K c).aI=c.aI:=by
 have key:∀b:Bool,Oj K n {c with aH:=b}/\({c with aH:=b}:Cv).aK=c.aK/\({c with aH:=b}:Cv).aI=c.aI:=λb=>⟨o.same ⟨o.g.way,o.g.pass,o.g.task,o.g.mo,o.g.m0⟩ ⟨rfl,rfl,rfl,rfl,rfl,rfl,rfl,rfl,rfl⟩,rfl,rfl⟩;exact key _
theorem Qv5 {s:Kf×Cv} {n:Int} (I:0<=n) (o:Oj s.1 n s.2) (k m:Int) (J:m<=4194304):Oj (evA s k m).1 n (evA s k m).2/\(evA s k m).2.aK=s.2.aK/\(evA s k m).2.aI=s.2.aI:=by
 have sm:=T3 s.2 k m;have o1:Oj s.1 n (evC s.2 k m):=o.same (o.g.sm sm) (Sj.of sm);have e1:=sm.kp.aK;have e2:=sm.aI;unfold evA;generalize evC s.2 k m=d at*;by_cases D:k=13
 ·rw[aa D];have r:=Zrw o1 (SI o.k d J).2;exact⟨r.1,r.2.1.trans e1,r.2.2.trans e2⟩
 ·rw[ab D];by_cases E:k=12
  ·rw[aa E];have r:=Z16 o1;exact⟨r.1,r.2.1.trans e1,r.2.2.trans e2⟩
  ·rw[ab E];by_cases G:k=7
   ·rw[aa G];have r:=Zfk I o1 m;exact⟨r.1,r.2.1.trans e1,r.2.2.trans e2⟩
   ·rw[ab G];exact⟨o1,e1,e2⟩
theorem Zdb {n:Int} (D:0<=n):∀(E:List Evn) {s:Kf×Cv},(∀e∈E,e.n<=4194304)->Oj s.1 n s.2->Oj (E.foldl (λs e=>evA s e.aP e.n) s).1 n (E.foldl (λs e=>evA s e.aP e.n) s).2/\(E.foldl (λs e=>evA s e.aP e.n) s).2.aK=s.2.aK/\(E.foldl (λs e=>evA s e.aP e.n) s).2.aI=s.2.aI
 |[],_,_,o=>⟨o,rfl,rfl⟩
 |e::E,s,G,o=>by
  have a:=Qv5 D o e.aP e.n (G e (by simp));have b:=Zdb D E (s:=evA s e.aP e.n) (λx I=>G x (by simp[I])) a.1;exact⟨b.1,b.2.1.trans a.2.1,b.2.2.trans a.2.2⟩
theorem Q93 {n:Int} {c:Cv} (D:0<=n) (o:Oj K n c) {E:List Evn} (G:EvE E):Oj (Bq K c E).1 n (Bq K c E).2/\(Bq K c E).2.aK=c.aK/\(Bq K c E).2.aI=c.aI:=by
 have I:Oj K n (Fs c):=o.same ⟨o.g.way,o.g.pass,o.g.task,o.g.mo,o.g.m0⟩ ⟨rfl,rfl,rfl,rfl,rfl,rfl,rfl,rfl,rfl⟩;have f:=Zdb D E (s:=(K,Fs c)) G.2 I;have sm:=Qx7 (BQ K c E).1 (BQ K c E).2;have sm:Sm (BQ K c E).2 (Bq K c E).2:=sm;have J:Oj (BQ K c E).1 n (BQ K c E).2:=f.1;exact⟨J.same (Qrm o.k D o.g G) (Sj.of sm),sm.kp.aK.trans f.2.1,sm.aI.trans f.2.2⟩
structure W4 (c d : Cv) : Prop where
 way:d.way=c.way
 aK:d.aK=c.aK
 o3:d.o3=c.o3
 o4:d.o4=c.o4
theorem Q9p (K:Kf) (c:Cv):W4 c (A3 K c).2:=by
 have t:W4 c (BT c):=⟨rfl,rfl,rfl,rfl⟩;have done:∀d:Cv,W4 c d->W4 c (GV d):=λd k=>⟨k.way,k.aK,k.o3,k.o4⟩;have cmd:∀D sp:Int,W4 c (HY (BT c) D sp):=λD sp=>⟨t.way,t.aK,t.o3,t.o4⟩;unfold A3 FL;split
 ·split
  ·exact done _ t
  ·exact t
 ·split
  ·exact done _ t
  ·split
   ·split
    ·exact t
    ·exact done _ t
   ·split
    ·split
     ·exact done _ (cmd _ _)
     ·exact cmd _ _
    ·split
     ·exact⟨rfl,rfl,rfl,rfl⟩
     ·exact done _ t
theorem Zk8 {c:Cv} (he:c.aI=0) (D:(itK K (mkK K c.idx).aU).aP≠14):(A3 K c).2.aI=0:=by
 unfold A3 FL;split
 ·split<;>exact he
 ·split
  ·exact he
  ·split
   ·split<;>exact he
   ·split
    ·split<;>exact he
    ·split
     ·next q=>exact absurd q D
     ·exact he
theorem Zjw {c:Cv} (D:c.aN=false) (E:(mkK K c.idx).aP=3) (G:(itK K (mkK K c.idx).aU).aP=14):A3 K c=(7,{BT c with aI:=7}):=by
 unfold A3 FL;have a1: ¬(BT c).aN=true:=by show¬c.aN=true;rw[D];simp
 have a2: ¬(mkK K (BT c).idx).aP≠3:=λq=>q E;have a3: ¬(itK K (mkK K (BT c).idx).aU).aP=7:=by show¬(itK K (mkK K c.idx).aU).aP=7;omega
 have a4: ¬(itK K (mkK K (BT c).idx).aU).aP=8:=by show¬(itK K (mkK K c.idx).aU).aP=8;omega
 have a5:(itK K (mkK K (BT c).idx).aU).aP=14:=G;rw[ab a1,ab a2,ab a3,ab a4,aa a5]
theorem Qum {n:Int} {c:Cv} (o:Oj K n c) (g:Ga K n (A3 K c).2) (on:c.on=true) (he:c.aI=0):Oj K n (A3 K c).2/\(A3 K c).2.aI=0:=by
 obtain⟨w0,E⟩:=o.on on;have E:=E he;have I:=o.g.task on;have G:=o.m.mi.aU c.idx I.1 (by omega);have L:(itK K (mkK K c.idx).aU).aP≠14:=by rw[G];exact o.m.no14 c.idx I.1 (by omega)
 have e0:=Zk8 (K:=K) he L;have mt:=Q89 K c;have J:=Q9p K c;have D:=Q6a K c;have S:=o.k.count;have M:=o.m.mi.len;generalize(A3 K c).2=d at*;refine⟨⟨o.k,o.m,g,o.l,by rw[mt.m0];exact o.m0,?_,?_,?_⟩,e0⟩
 ·rw[J.way,H9 mt.m0 mt.m1 mt.m2];exact o.w
 ·rcases D with D|⟨N,-,-⟩
  ·rw[D.next];exact o.next
  ·rw[Ae (x:=c.idx+1)]at N;omega
 ·rcases D with D|⟨-,O,-⟩
  ·intro _;rw[J.way,D.idx];exact⟨w0,λ_=>E⟩
  ·intro q;rw[O]at q;cases q
theorem Q7n (c:Cv):(Bx c).aI=c.aI/\(Bx c).way=c.way/\(Bx c).aK=c.aK:=by unfold Bx;split<;>exact⟨rfl,rfl,rfl⟩
def Qo0 (K:Kf) (q:Cv):Prop:=q.way=0/\Ay K q=K.len/\∀i:Int,q.next<=i->i<K.aA.length-1->(mkK K i).at_=K.len->Cc (mkK K i).aP q=false
theorem Q67 (f:FwS K.t a K.len) {c:Cv} {z:Int} (D:a<=z) (E:z<=K.len) (h:c.m0=V (AO K.t z*256)):Ay K c=z:=by
 have G:=f.wh z D E;have I:=f.len;rw[Ae]at h;have e:AB c=AO K.t z:=by
  show V (c.m0.tdiv 256)=_;rw[ap (by omega),Ae];omega
 show AA K.t (AB c)=z;rw[e];exact G.2.2.1
theorem Zi3 {n:Int} {c:Cv} (o:Oj K n c) (hn:0<=n/\n<=9999) (hw:c.way=0) (on:c.on=false) (he:c.aI=0):
  Oj K (n+1) (CM K c).2/\((CM K c).2.aI=7->Qo0 K (CM K c).2)/\(CM K c).2.aK=c.aK:=by
 obtain⟨⟨s0,f⟩,O⟩:=o.w hw;have gd:=o.g.gd hw;have gr:=RH o.k gd (by omega);have up:=Zzc o.k gd (by omega);have e0:=KF o.k c;have a3:=o.m0;have fr:=Qh4 f o.k.len (r:=endC K c) (z:=K.len) (by omega) f.be.2 (bz _) O;have N:Ew K=K.len:=by unfold Ew;rw[aa o.m.closed]
 have T:KE K c=endC K c:=Qlm o.k gd (by omega);have a6:=o.m.mi.len;have D:=o.m.last;have a2:=o.k.count;have a7:=o.next;have a0:=Zem (K:=K) (c:=c) (known:=K.len) (frm:=DM K (endC K c)) o.next.1;have M:AG K c=(AO K.t (BA K c K.len (DM K (endC K c))).1,(BA K c K.len (DM K (endC K c))).2):=by
  unfold AG;rw[T,N]
 obtain⟨j,ew,j1,j2,⟨j3,j4,j5⟩,j6⟩:∃j:Int,BA K c K.len (DM K (endC K c))=((mkK K j).at_,j)/\c.next<=j/\j<K.p.aD.length/\(Cc (mkK K j).aP c=true/\DM K (endC K c)<=(mkK K j).at_/\(mkK K j).at_<=K.len)/\∀i:Int,c.next<=i->i<j-> ¬(Cc (mkK K i).aP c=true/\DM K (endC K c)<=(mkK K i).at_/\(mkK K i).at_<=K.len):=by
  rcases a0 with⟨-,h2⟩|h2
  ·exact absurd ⟨by rw[D.2];rfl,by rw[D.1];exact fr.2,by rw[D.1];exact bz _⟩ (h2 (K.aA.length-1) (by omega) (by omega))
  ·exact h2
 rw[ew]at M;have l1:(AG K c).1=AO K.t (mkK K j).at_:=by rw[M]
 have l2:(AG K c).2=j:=by rw[M]
 have U:s0<=(mkK K j).at_:=by omega
 have stay:∀{d:Cv},Ga K (n+1) d->Sj c d->Oj K (n+1) d:=fun{d} g s=>⟨o.k,o.m,g,o.l,by rw[s.m0];exact o.m0,by rw[s.way,H9 s.m0 s.m1 s.m2];exact o.w,by rw[s.next];exact o.next,by rw[s.on,s.way,s.aI,s.idx];exact o.on⟩;have ob:j+1<K.aA.length->Oj K (n+1) {c with on:=true,idx:=j,aN:=Ec K c j,cnt:=0}:=λS=>
  ⟨o.k,o.m,⟨o.g.way,o.g.pass,λ_=>⟨by show 0<=j;omega,j2⟩,o.g.mo,by have:=o.g.m0;exact⟨by show _<=c.m0;omega,by show c.m0<=_;omega⟩⟩,o.l,o.m0,o.w,o.next,λ_=>⟨hw,λ_=>S⟩⟩
 have gb:=(Q28 (gd.up hn.1) (i:=j) (by omega) j2).1.ga;have a4:=o.m.mi.aU j (by omega) (by omega);have E: ¬j+1<K.aA.length->(itK K (mkK K j).aU).aP=14/\Cl K c j=(7,{BT {c with on:=true,idx:=j,aN:=Ec K c j,cnt:=0}with aI:=7}):=λS=>by
  have ej:j=K.aA.length-1:=by omega
  have X:(itK K (mkK K j).aU).aP=14:=by rw[a4,ej];exact o.m.end_
  have a5:Ec K c j=false:=by
   unfold Ec;have h3:(mkK K j).aP=3:=by rw[ej];exact D.2
   rw[h3,ab (by decide),ab (by decide),aa rfl,X];rfl
  exact⟨X,Zjw (c:={c with on:=true,idx:=j,aN:=Ec K c j,cnt:=0}) a5 (by show(mkK K j).aP=3;rw[ej];exact D.2) X⟩
 have I:Oj K (n+1) (Cl K c j).2/\((Cl K c j).2.aI=7-> ¬j+1<K.aA.length):=by
  by_cases S:j+1<K.aA.length
  ·have w:=Qum (ob S) gb rfl he;refine⟨w.1,λq=> ?_⟩;have q:(A3 K {c with on:=true,idx:=j,aN:=Ec K c j,cnt:=0}).2.aI=7:=q;rw[w.2]at q;cases q
  ·have eb:=(E S).2;rw[eb]at gb⊢;exact⟨⟨o.k,o.m,gb,o.l,o.m0,o.w,o.next,λ_=>⟨hw,λq=>by cases q⟩⟩,λ_=>S⟩
 have ga:=gr.1.ga;refine⟨?_,?_,gr.2.aK⟩
 ·unfold CM at ga up⊢;by_cases J:c.aM=true/\c.m0=V ((AG K c).1*256)
  ·rw[aa J]at ga up⊢;rw[l2,aa (show 0<=j by omega)]at ga up⊢;by_cases L:(mkK K j).aU=(Cl K c j).2.y0/\(itK K (mkK K j).aU).aP=5/\(Cl K c j).2.e0=1
   ·rw[aa L]at ga up⊢;have fm:=Qnb (Cl K c j).2;have fk:=Qdq (Cl K c j).2;have fe:=Q7n (Cl K c j).2;exact I.1.same ga ⟨fm.1,fm.2.1,fm.2.2,fe.2.1,fk.next,fk.on,fk.idx,fe.1,fe.2.2⟩
   ·rw[ab L]at ga up⊢;exact I.1
  ·rw[ab J]at ga up⊢;have mm:=Qmi K c (AG K c).1;have Y:=Z1c o.k gd (by omega) (AG K c).1;refine⟨o.k,o.m,ga,o.l,Int.le_trans a3 up,λ_=>⟨⟨s0,f⟩,?_⟩,by show 0<=(BB K c (AG K c).1).next/\(BB K c (AG K c).1).next<_;rw[mm.next];exact o.next,λq=> ?_⟩
   ·show endC K (BB K c (AG K c).1)<=_;unfold EndQ at Y;generalize endC K (BB K c (AG K c).1)=z at*;have wm:=f.wmono U j5 (bz _);have w1:=f.wh _ U j5;have hl:=f.len;rcases Y with Y|Y
    ·rw[l1,Ae]at Y;omega
    ·rw[Y];exact O
   ·have q:(BB K c (AG K c).1).on=true:=q;rw[mm.on,on]at q;cases q
 ·intro G;have a1: ¬j+1<K.aA.length->c.m0=V ((AG K c).1*256)->Qo0 K (Cl K c j).2:=λS hm=>by
   have ej:j=K.aA.length-1:=by omega
   rw[(E S).2];have hp:Ay K c=K.len:=by
    have:=Q67 f (c:=c) (z:=(mkK K j).at_) U j5 (by rw[<-l1];exact hm);rw[this,ej,D.1]
   refine⟨hw,hp,λi i1 i2 ia=> ?_⟩;have i1:c.next<=i:=i1;have h6:=j6 i i1 (by omega);cases ha:Cc (mkK K i).aP c with
   |false=>exact ha
   |true=>exact absurd ⟨ha,by rw[ia];exact fr.2,by rw[ia];exact bz _⟩ h6
  unfold CM at G⊢;by_cases J:c.aM=true/\c.m0=V ((AG K c).1*256)
  ·rw[aa J]at G⊢;rw[l2,aa (show 0<=j by omega)]at G⊢;by_cases L:(mkK K j).aU=(Cl K c j).2.y0/\(itK K (mkK K j).aU).aP=5/\(Cl K c j).2.e0=1
   ·rw[aa L]at G⊢;have G:(Bx (Cl K c j).2).aI=7:=G;rw[(Q7n _).1]at G;have:=(E (I.2 G)).1;have h5:=L.2.1;omega
   ·rw[ab L]at G⊢;exact a1 (I.2 G) J.2
  ·rw[ab J]at G⊢;have G:(BB K c (AG K c).1).aI=7:=G;rw[(Q0b K c (AG K c).1).aI,he]at G;cases G
end Go.Bm
