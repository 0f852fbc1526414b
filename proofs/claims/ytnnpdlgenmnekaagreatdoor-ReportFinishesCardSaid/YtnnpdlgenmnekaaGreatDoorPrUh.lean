/- laid together -/
import Derived.Test.YtnnpdlgenmnekaaGreatDoorPrYf
import Derived.Test.YtnnpdlgenmnekaaGreatDoorMy1
import Derived.Test.YtnnpdlgenmnekaaGreatDoorMx3
import Derived.Test.YtnnpdlgenmnekaaGreatDoorPrAtF
import Derived.Test.YtnnpdlgenmnekaaGreatDoorPrSt
set_option linter.unusedVariables false
set_option linter.unusedSimpArgs false
set_option maxRecDepth 100000
variable {K:Go.Bm.Kf} {p:Go.Bm.Pth} {i A:Nat} {a k u b v r R j S D:Int} {t:Go.Bm.Trk} {M Z W T P O:Go.Bm.Fn} {d q:Go.Bm.Pt} {l:Go.Bm.Rw} {N:Go.Bm.Lp} {E:List Go.Bm.Evn}
noncomputable section
open Go.IntKind (wrap)
namespace Go.Bm
def qI (it:Itm):Itm:=if it.aP=2\/it.aP=3 then{it with aZ:=2000000}else it
theorem Zxf {it:Itm} (h:1<=it.aP/\it.aP<=3):qI it=fqI it:=by
 unfold qI fqI;by_cases c:it.aP=1
 ·rw[ab c,aa]
 ·rw[aa c,ab]
theorem Q9a {it:Itm} (h:4<=it.aP):qI it=it:=by
 unfold qI;rw[aa]
abbrev Lf:List AC:=[I 0,I 0,I 0,I 0,I 0,I 0,I 0,I 0,I 0, .vC Aa [],I 0,I 0,I 0,I 0,I 0,I 0,I 0,I 0,I 0, .vC Aa [],I 0,I 0,I 0,I 0,I 0,I 0,I 0,I 0,I 0, .vC Aa [],I 0,I 0,I 0,I 0,I 0]
theorem Z4o {aA:List Itm} (hl:aA.length<=100000) {x:Ax3} {p0 p1 p2 p3 p4:Int}:
  Out (λo=>o=(1, .vC Ai ((aA.map qI).map Af)::(AG x++([I p0,I p1,I p2,I p3,I p4]++Lf))))
   (Am Qgp (.vC Ai (((aA.take 0).map qI++aA.drop 0).map Af)::I ((aA.map Af).length:Int)::I ((0:Nat):Int)::(AG x++([I p0,I p1,I p2,I p3,I p4]++Lf)))):=by
 refine Cd (λk:Nat=> .vC Ai (((aA.take k).map qI++aA.drop k).map Af)::I ((aA.map Af).length:Int)::I (k:Int)::(AG x++([I p0,I p1,I p2,I p3,I p4]++Lf)))
  (λk=>k<=aA.length) (λk=>aA.length-k) _ ?_ 0 (Nat.zero_le _)
 intro k hk;refine Out.eqv (Zyb (((aA.take k).map qI++aA.drop k).map Af) ((aA.map Af).length:Int) k x.a.step x.a.aS x.a.bD x.a.bE x.a.low x.a.aY x.a.bB x.a.aV x.a.aO (x.a.aW.map Aj) x.b.step x.b.aS x.b.bD x.b.bE x.b.low x.b.aY x.b.bB x.b.aV x.b.aO (x.b.aW.map Aj) x.c.step x.c.aS x.c.bD x.c.bE x.c.low x.c.aY x.c.bB x.c.aV x.c.aO (x.c.aW.map Aj) p0 p1 p2 p3 p4 0 0 0 0 0 0 0 0 0 [] 0 0 0 0 0 0 0 0 0 [] 0 0 0 0 0 0 0 0 0 [] 0 0 0 0 0) ?_;have el:((aA.map Af).length:Int)=aA.length:=by rw[ac]
 have T:(((aA.take k).map qI++aA.drop k).map Af).length=aA.length:=by
  rw[ac,aq,ac,d9,co];omega
 refine .cond (λM=> ?_) λM=> ?_
 ·have M:=Bg M;have L:k<aA.length:=by omega
  have U:aA.drop k=aA[k]::aA.drop (k+1):=ik L;have X:((aA.take k).map qI).length=k:=by rw[ac,d9];omega
  have N:nth [] (((aA.take k).map qI++aA.drop k).map Af) (k:Int).toNat=Af aA[k]:=by
   rw[af,E1 [] _ k (by rw[T];exact L),fj,ke (by rw[X];exact cm _)];simp only[X,i8,U,List.getElem_cons_zero]
  have en:(aA.take (k+1)).map qI++aA.drop (k+1)=(aA.take k).map qI++qI aA[k]::aA.drop (k+1):=by
   rw[gv,ag L,bt,df];rfl
  have es:∀it:Itm,(((aA.take k).map qI++aA.drop k).map Af).set (k:Int).toNat (Af it)=((aA.take k).map qI++it::aA.drop (k+1)).map Af:=λit=>by
   rw[U,bt,bj,bt,bj,af];have:=Q8c (((aA.take k).map qI).map Af) (Af aA[k]) (Af it) ((aA.drop (k+1)).map Af);rw[ac,X]at this;exact this
  have fin:(aA[k].aP=2\/aA[k].aP=3)->Out (λo=>(o.1=0/\∃O:Nat,o.2= .vC Ai (((aA.take O).map qI++aA.drop O).map Af)::I ((aA.map Af).length:Int)::I (O:Int)::(AG x++([I p0,I p1,I p2,I p3,I p4]++Lf))/\O<=aA.length/\aA.length-O<aA.length-k)\/o.1≠0/\o=(1, .vC Ai ((aA.map qI).map Af)::(AG x++([I p0,I p1,I p2,I p3,I p4]++Lf))))
    (bif decide (0<=(k:Int))&&decide ((k:Int)<((((aA.take k).map qI++aA.drop k).map Af).length:Int))then some ((0:Nat), .vC Ai ((((aA.take k).map qI++aA.drop k).map Af).set (k:Int).toNat (Af {aA[k]with aZ:=2000000}))::I ((aA.map Af).length:Int)::I (V ((k:Int)+1))::(AG x++([I p0,I p1,I p2,I p3,I p4]++Lf)))else none):=λhq=>by
   refine .cond (λ_=> ?_) λe=>(inB (by omega) (by rw[T];omega) e).elim;have Y:qI aA[k]={aA[k]with aZ:=2000000}:=by unfold qI;rw[ab hq]
   rw[Ad (x:=(k:Int)+1),es,<-Y,<-en];exact .some (.inl ⟨rfl,k+1,rfl,by omega,by omega⟩)
  refine .cond (λ_=> ?_) λe=>(inB (by omega) (by rw[T];omega) e).elim;refine .cond (λD=> ?_) λD=> ?_
  ·rw[N]at D;have D:(aA[k].aP==2)=true:=D;refine Out.eqv ?_ (fin (.inl (by simpa using D)));show(bif _ then _ else _)=_;rw[N];rfl
  ·refine .cond (λ_=> ?_) λe=>(inB (by omega) (by rw[T];omega) e).elim;refine .cond (λG=> ?_) λG=> ?_
   ·rw[N]at G;have G:(aA[k].aP==3)=true:=G;refine Out.eqv ?_ (fin (.inr (by simpa using G)));show(bif _ then _ else _)=_;rw[N];rfl
   ·rw[N]at D G;have D:(aA[k].aP==2)=false:=D;have G:(aA[k].aP==3)=false:=G;have Y:qI aA[k]=aA[k]:=by unfold qI;rw[aa (by rintro(h|h)<;>simp[h]at D G)]
    refine .some (.inl ⟨rfl,k+1,?_,by omega,by omega⟩);dsimp only;rw[en,Y,<-U,Ad (x:=(k:Int)+1)];rfl
 ·have M:=Bd M;have e:k=aA.length:=by omega
  refine .some (.inr ⟨by simp,?_⟩);rw[e,jg,List.drop_length,jb];rfl
theorem Z7s {aA:List Itm} (G:aA.length<=100000) (x:Ax3) {p0 p1 p2:Int} (p3 p4:Int) (L:0<=p0/\p0<=1000000) (M:0<=p1/\p1<=1000000) (N:0<=p2/\p2<=1000000):
  O2 (.vC Ai (aA.map Af)::(AG x++[I p0,I p1,I p2,I p3,I p4]))=some (.vC Ai ((aA.map qI).map Af)::(AG x++[I (p0+50),I (p1+10),I (p2+2000),I p3,I p4])):=by
 obtain⟨o,D,rfl⟩:=Z4o G (x:=x) (p0:=p0) (p1:=p1) (p2:=p2) (p3:=p3) (p4:=p4);refine dp (Z6u Q9 (aA.map Af) x.a.step x.a.aS x.a.bD x.a.bE x.a.low x.a.aY x.a.bB x.a.aV x.a.aO (x.a.aW.map Aj) x.b.step x.b.aS x.b.bD x.b.bE x.b.low x.b.aY x.b.bB x.b.aV x.b.aO (x.b.aW.map Aj) x.c.step x.c.aS x.c.bD x.c.bE x.c.low x.c.aY x.c.bB x.c.aV x.c.aO (x.c.aW.map Aj) p0 p1 p2 p3 p4) ?_;have D:Q9 (.vC Ai (aA.map Af)::I ((aA.map Af).length:Int)::I 0::(AG x++([I p0,I p1,I p2,I p3,I p4]++Lf)))=_:=D;refine eB D (eT rfl ?_);rw[<-Ad (x:=p0+50),<-Ad (x:=p1+10),<-Ad (x:=p2+2000)];rfl
def Jl (m:Int):Bool:=m==7||m==8
def Hg (E:List Evn):Nat->Nat->Kf->Cv->Rw
 |0,_,_,_=>[]
 |n+1,k,K,c=>tkA K c (atE E k)::if Jl (stA K c (atE E k)).1=true then []else Hg E n (k+1) (Eh K c (atE E k)).1 (Eh K c (atE E k)).2
theorem Q5n (E:List Evn):∀(n k:Nat) (K:Kf) (c:Cv),(Hg E n k K c).length<=n
 |0,_,_,_=>cm _
 |n+1,k,K,c=>by
  have:=Q5n E n (k+1) (Eh K c (atE E k)).1 (Eh K c (atE E k)).2;unfold Hg;split
  ·simp
  ·simpa using this
abbrev tV (l:Rw):AC:= .vC [Kd.sl kPt,Kd.sl Aa,kI,kI,kI,kI,kI,kI,kI] l
theorem Znp (D:E.length<=1000000) (k:Int):O8 [.vC kPt (E.map evR),I k]=some [.vC kPt ((atE E k).map evR)]:=by
 have G:Am Uv [.vC kPt [],I k, .vC kPt (E.map evR),I E.length,I ((0:Nat):Int)]=some (1,[.vC kPt ((E.filter λe=>e.cycle==k).map evR)]):=by
  refine Zlj (P:=λe=>e.cycle==k) D (enc:=λl i=>[.vC kPt l,I k, .vC kPt (E.map evR),I E.length,I (i:Int)]) λl i M L=> ?_;rw[Zh7];by_cases h:i<E.length
  ·rw[jy h,Cj (by simp;omega),Cj (by simp;omega),Q1f E h,Ad (x:=(i:Int)+1)];by_cases c:(E[i].cycle==k)=true
   ·rw[Cj (show(gA (evR E[i]) 0==k)=true from c),BF (by simp;omega),ab c];rfl
   ·rw[B4 (show(gA (evR E[i]) 0==k)=false from Bool.eq_false_iff.2 c),aa c,jb];rfl
  ·rw[dif_neg h,B4 (by simp;omega)]
 show Qo9 (Am Uv) [.vC kPt (E.map evR),I k]=_;rw[Z7z,ac];rw[show(0:Int)=((0:Nat):Int)from rfl,G];rfl
def VE:Int->List Evn->Prop
 |_,[]=>True
 |p,e::l=>(p<=e.cycle/\e.cycle<=1073741824/\1<=e.aP/\e.aP<=13/\ -1073741824<=e.n/\e.n<=1073741824)/\VE e.cycle l
theorem Qt0 {E:List Evn} (L:E.length<=2000):∀(m i:Nat) (p:Int),i+m=E.length->VE p (E.drop i)->Am Nd [I p, .vC kPt (E.map evR),I E.length,I (i:Int)]=some (2,[])
 |0,i,p,h,_=>by
  have e:Nd [I p, .vC kPt (E.map evR),I E.length,I (i:Int)]=some (2,[]):=by
   rw[Q9w];exact eF (al (by omega)) rfl
  exact Bn e (by simp)
 |m+1,i,p,h,D=>by
  have G:i<E.length:=by omega
  rw[ik G]at D;obtain⟨⟨M,N,O,T,U,V⟩,D⟩:=D;have e:Nd [I p, .vC kPt (E.map evR),I E.length,I (i:Int)]=some (0,[I E[i].cycle, .vC kPt (E.map evR),I E.length,I ((i+1:Nat):Int)]):=by
   rw[Q9w];refine eT (ai (by omega)) (eT (by rw[ac];simp;omega) ?_);rw[Q1f E G,Ad (x:=(i:Int)+1)];exact eF (al (show¬E[i].cycle<p by omega)) (eF (al (show¬E[i].cycle>1073741824 by omega)) (eF (al (show¬E[i].aP<1 by omega)) (eF (al (show¬E[i].aP>13 by omega)) (eF (al (show¬E[i].n< -1073741824 by omega)) (eF (al (show¬E[i].n>1073741824 by omega)) rfl)))))
  rw[BB e];exact Qt0 L m (i+1) _ (by omega) D
theorem Zpz (D:E.length<=2000) (h:VE 0 E):OZ [.vC kPt (E.map evR)]=some [B true]:=by
 show Qkm (Am Nd) [.vC kPt (E.map evR)]=_;rw[Zv9,ac];exact eF (al (by omega)) (eB (Qt0 D E.length 0 0 (by omega) h) rfl)
structure RunI (MS : Fn) (E : List Evn) (n0 : Nat) (J : Nat -> Kf -> Cv -> Prop) : Prop where
 step:∀(k:Nat) (K:Kf) (c:Cv),J k K c->k<n0->MS (.vC kPt ((atE E k).map evR)::Ae K c)=some (tkA K c (atE E k)++Ae (Eh K c (atE E k)).1 (Eh K c (atE E k)).2)
 next:∀(k:Nat) (K:Kf) (c:Cv),J k K c->k<n0->Jl (stA K c (atE E k)).1=false->J (k+1) (Eh K c (atE E k)).1 (Eh K c (atE E k)).2
theorem Zan {MS G MN MV:Fn} {E:List Evn} {n0:Nat} (T:n0<=1073741824) {J:Nat->Kf->Cv->Prop} (L:RunI MS E n0 J) (M:∀k:Nat,G [.vC kPt (E.map evR),I k]=some [.vC kPt ((atE E k).map evR)]):
  ∀(n k:Nat) (acc:Rw) (K:Kf) (c:Cv),k+n=n0->acc.length<=k->J k K c->
   Am (OM MS G MN MV) (tV acc:: .vC kPt (E.map evR)::I n0::I k::Ae K c)=some (1,[tV (acc++Hg E n k K c)])
 |0,k,acc,K,c,h,_,_=>by
  have e:OM MS G MN MV (tV acc:: .vC kPt (E.map evR)::I n0::I k::Ae K c)=some (1,[tV acc]):=by
   rw[Q52];exact eF (al (by omega)) rfl
  rw[Bn e (by simp),Hg,jb]
 |n+1,k,acc,K,c,h,X,N=>by
  have U:=L.step k K c N (by omega);have hb:Nat.ble ((acc++[tkA K c (atE E k)]).length*104) 140737488355328=true:=BF (by rw[aq,dh];omega);have key:∀{r:Option (Nat×List AC)},(bif(stA K c (atE E k)).1==7 then some (1,[tV (acc++[tkA K c (atE E k)])])else bif(stA K c (atE E k)).1==8 then some (1,[tV (acc++[tkA K c (atE E k)])])else some (0,tV (acc++[tkA K c (atE E k)]):: .vC kPt (E.map evR)::I n0::I ((k+1:Nat):Int)::Ae (Eh K c (atE E k)).1 (Eh K c (atE E k)).2))=r->
    OM MS G MN MV (tV acc:: .vC kPt (E.map evR)::I n0::I k::Ae K c)=r:=by
   rintro r rfl;rw[Q52];refine eT (ai (by omega)) (eB (M k) (eB U (eT hb ?_)));rw[Ad (x:=(k:Int)+1)];rfl
  rw[Hg];cases D:Jl (stA K c (atE E k)).1
  ·have O:((stA K c (atE E k)).1==7)=false/\((stA K c (atE E k)).1==8)=false:=by unfold Jl at D;simpa using D
   rw[BB (key (by rw[O.1,O.2];rfl)),aa (by simp),Zan T L M n (k+1) _ _ _ (by omega) (by rw[aq,dh];omega) (L.next k K c N (by omega) D),df];rfl
  ·rw[ab rfl];refine Bn (key ?_) (by simp);unfold Jl at D;cases V:(stA K c (atE E k)).1==7
   ·rw[V]at D;have D:((stA K c (atE E k)).1==8)=true:=D;rw[D];rfl
   ·rfl
theorem Zgr (U:i<=1073741824) {J:Nat->Kf->Cv->Prop} (V:RunI M E i J) (X:∀k:Nat,Z [.vC kPt (E.map evR),I k]=some [.vC kPt ((atE E k).map evR)])
  (hV:T [.vC kPt (E.map evR)]=some [B true]) {x:Ax3} {p0 G L N O:Int} {D:Rw} {K:Kf} {c:Cv} (Y:W (AG x++[I p0,I G,I L,I N,I O]++[.vC Ai D,B true])=some (I 0::Ae K c)) (h0:J 0 K c):
  Qhq M Z W T (Am (OM M Z W T)) (AG x++[I p0,I G,I L,I N,I O]++[.vC Ai D, .vC kPt (E.map evR),I (i:Int)])=some [tV (Hg E i 0 K c),I 0]:=by
 refine dp (Zog M Z W T _ x.a.step x.a.aS x.a.bD x.a.bE x.a.low x.a.aY x.a.bB x.a.aV x.a.aO (x.a.aW.map Aj) x.b.step x.b.aS x.b.bD x.b.bE x.b.low x.b.aY x.b.bB x.b.aV x.b.aO (x.b.aW.map Aj) x.c.step x.c.aS x.c.bD x.c.bE x.c.low x.c.aY x.c.bB x.c.aV x.c.aO (x.c.aW.map Aj) p0 G L N O D (E.map evR) i) ?_;have hl:=Zan (MN:=W) (MV:=T) U V X i 0 [] K c (by omega) (cm _) h0;exact eB hV (eF rfl (eF (al (by omega)) (eB Y (eF rfl (eB hl (eT rfl rfl))))))
theorem Qvn (O:E.length<=2000) (T:VE 0 E) {n0:Nat} (U:n0<=1073741824) {J:Nat->Kf->Cv->Prop} (V:RunI JY E n0 J)
  {x:Ax3} {p0 G L M N:Int} {D:Rw} {K:Kf} {c:Cv} (X:IT (AG x++[I p0,I G,I L,I M,I N]++[.vC Ai D,B true])=some (I 0::Ae K c)) (Y:J 0 K c):
  KT (AG x++[I p0,I G,I L,I M,I N]++[.vC Ai D, .vC kPt (E.map evR),I (n0:Int)])=some [tV (Hg E n0 0 K c),I 0]:=
 Zgr U V (λk=>Znp (by omega) k) (Zpz O T) X Y
theorem Q7u (l:Rw) (t:List AC) (D:l.length<=1073741824):J2 [tV (l++[t])]=some [B (gA t 2==7)]:=by
 show YH _=_;rw[Zs4];have e:((l++[t]).length:Int)=l.length+1:=by rw[aq,dh];omega
 rw[e,Ad (x:=(l.length:Int)+1-1),show(l.length:Int)+1-1=l.length by omega];refine eT (ai (by omega)) (eT (by rw[ai (by omega),ai (by omega)];rfl) ?_);rw[af,E1 [] _ l.length (by rw[aq,dh];omega),ke (cm _)];simp only[i8,List.getElem_singleton]
theorem Z6v:J3 0=⟨#[48]⟩:=by
 unfold J3 Lib.itoa;rw[aa (by decide),Lib.decDigits,jy (by decide)];rfl
theorem Zvu:J3 7=⟨#[55]⟩:=by
 unfold J3 Lib.itoa;rw[aa (by decide),Lib.decDigits,jy (by decide)];rfl
theorem Zta:J3 160=⟨#[49,54,48]⟩:=by
 unfold J3 Lib.itoa;rw[aa (by decide),show(160:Int).toNat=160 from rfl,Lib.decDigits,dif_neg (by decide),show 160/10=16 from rfl,Lib.decDigits,dif_neg (by decide),show 16/10=1 from rfl,Lib.decDigits,jy (by decide)];rfl
theorem Qb0 {n:Int} (h: -9223372036854775808<=n/\n<=9223372036854775807):L8 [I n]=some [.raw (.string (J3 n))]:=by
 show cond (decide (-9223372036854775808<=n)&&decide (n<=9223372036854775807)) _ _=_;rw[ai h.1,ai h.2];rfl
theorem Zdz (D:M [I 0]=some [.raw (.string ⟨#[48]⟩)]) (G:M [I 7]=some [.raw (.string ⟨#[55]⟩)]) (L:M [I 160]=some [.raw (.string ⟨#[49,54,48]⟩)]):
  XJ M (Am (RH M)) [I 0, .vC kPt [], .vC Aa [],I 7,I 160,I 0,I 0,I 0,I 0,I 0]=some [.raw (.string ⟨#[48,32,109,111,100,101,55,32,97,116,49,54,48,32,102,97,117,108,116,48,10]⟩)]:=by
 have N:RH M [AC.raw (Go.Value.string ⟨#[48,32,109,111,100,101,55,32,97,116,49,54,48,32,102,97,117,108,116,48]⟩), .vC Aa [],I 0,I 0]=some (1,[AC.raw (Value.string ⟨#[48,32,109,111,100,101,55,32,97,116,49,54,48,32,102,97,117,108,116,48]⟩)]):=by
  rw[Zrv];rfl
 rw[Zt0];exact eB D (eT rfl (eB G (eT rfl (eT rfl (eB L (eT rfl (eT rfl (eB D (eT rfl (eB (Bn N (by simp)) (eT rfl (eT rfl rfl))))))))))))
theorem Z9r:Qa2 [I 0, .vC kPt [], .vC Aa [],I 7,I 160,I 0,I 0,I 0,I 0,I 0]=some [.raw (.string ⟨#[48,32,109,111,100,101,55,32,97,116,49,54,48,32,102,97,117,108,116,48,10]⟩)]:=
 Zdz (by rw[Qb0 (by decide),Z6v]) (by rw[Qb0 (by decide),Zvu]) (by rw[Qb0 (by decide),Zta])
theorem Z77 {b:ByteArray} (h:M [I 0, .vC kPt [], .vC Aa [],I 7,I 160,I 0,I 0,I 0,I 0,I 0]=some [.raw (.string b)]) (hb:b.size<=1000):
  Qp M [tV [[.vC (Aa++(Aa++(Aa++[]))) [], .vC Aa [],I 7,I 160,I 0,I 0,I 0,I 0,I 0]]]=some [.raw (.string ⟨b.data.toList.toArray⟩)]:=by
 refine eT rfl ?_;have e:F3 M [[.vC (Aa++(Aa++(Aa++[]))) [], .vC Aa [],I 7,I 160,I 0,I 0,I 0,I 0,I 0]] 1=some b.data.toList:=by
  refine eB (x:=[]) rfl (eT rfl (eB h (eT (BF ?_) rfl)));show 0+b.size<=_;omega
 exact eB e rfl
theorem Zwp:P9 [tV [[.vC (Aa++(Aa++(Aa++[]))) [], .vC Aa [],I 7,I 160,I 0,I 0,I 0,I 0,I 0]]]=some [.raw (.string ⟨#[48,32,109,111,100,101,55,32,97,116,49,54,48,32,102,97,117,108,116,48,10]⟩)]:=
 Z77 Z9r (by decide)
theorem Z3w {t:List AC} (D:W (AG P4++[I 9,I 3,I 100,I 1,I 0]++[.vC Ai (([]:List Itm).map Af), .vC kPt (([]:List Evn).map evR),I ((5:Nat):Int)])=some [tV [t],I 0]) (G:Z [tV [t]]=some [B true])
  (L:M [tV [[.vC (Aa++(Aa++(Aa++[]))) [], .vC Aa [],I 7,I 160,I 0,I 0,I 0,I 0,I 0]]]=some [.raw (.string ⟨#[48,32,109,111,100,101,55,32,97,116,49,54,48,32,102,97,117,108,116,48,10]⟩)]):
  Qge M Z W []=some [B true]:=by
 rw[Z76];exact eB D (eT rfl (eT rfl (eB G (eT rfl (eB L (iz (λq=>some [B q]) (beq_self_eq_true (ByteArray.toList ⟨#[48,32,109,111,100,101,55,32,97,116,49,54,48,32,102,97,117,108,116,48,10]⟩))))))))
end Go.Bm
namespace Go.Bm
open Classical
end Go.Bm
namespace Go.Bm
theorem Zz1 (a b c d:Rw):∃q:Bool,P5 [.vC Aa a, .vC Aa b, .vC Aa c, .vC Aa d]=some [B q]/\(q=true->a.length<=60/\b.length<=60/\c.length<=60/\d.length<=60):=by
 obtain⟨q,I,D⟩:=Z2q (L:=[a,b,c,d]) (by simp);refine⟨q,?_,λh=>⟨D h a (by simp),D h b (by simp),D h c (by simp),D h d (by simp)⟩⟩;show ZO KE _=_;rw[Zdp];have G:KE [.vC [Kd.sl Aa] [[.vC Aa a],[.vC Aa b],[.vC Aa c],[.vC Aa d]]]=some [B q]:=I;rw[G];rfl
def Rd (u w x y s t dir:Int):Prop:=
 if crs u w x y*dir>0 then crs u w s t*dir>=0/\crs s t x y*dir>=0
 else if crs u w x y*dir=0/\dt2 u w x y<0 then crs u w s t*dir>=0
 else crs x y s t*dir<=0\/crs s t u w*dir<=0
end Go.Bm
namespace Go.Bm
open Classical
theorem Qd5 (u w x y:Int):crs x y u w= -crs u w x y:=by unfold crs;grind
theorem Zlo (u w x y s t:Int):dt2 u w s t*crs u w x y-crs u w s t*dt2 u w x y=sq2 u w*crs s t x y:=by unfold dt2 crs sq2;grind
theorem Fg (hb:0<=b) (h:a*a<=b*b):a<=b:=by
 by_cases c:a<=b
 ·exact c
 ·have:=Int.mul_self_lt_mul_self hb (show b<a by omega);omega
theorem Zz4 (hb:0<=b) (h:a*a<b*b):a<b:=by
 by_cases c:a<b
 ·exact c
 ·have:=an hb (show b<=a by omega);omega
theorem Qo {u R n:Int} (L:u.natAbs<=100000000) (M:0<=R/\R<=50000000) (V:0<n/\n<=20000000000000000) (N:u*u<=n):
  ∃j:Nat,AN u R n=(if u<0 then-(j:Int)else(j:Int))/\(j=0\/(2*(j:Int)-1)*(2*(j:Int)-1)*n<=(2*(u.natAbs*R))*(2*(u.natAbs*R)))/\(2*(u.natAbs*R))*(2*(u.natAbs*R))<=(2*(j:Int)+1)*(2*(j:Int)+1)*n/\(j:Int)<=R:=by
 obtain⟨-,I⟩:=Ru (x:=u) (r:=R) (n:=n) (cb L (by decide)) (by omega) (by omega) N;have X:(AN u R n).natAbs<=R.natAbs:=by
  refine Xa (by omega) ?_ I;have:((u.natAbs*u.natAbs:Nat):Int)=u*u:=cq;omega
 obtain⟨r,rfl⟩:=bh M.1;obtain⟨m,rfl⟩:=bh (show 0<=n by omega);refine⟨(AN u r m).natAbs,?_,?_,?_,by omega⟩
 ·unfold AN;by_cases c:u<0
  ·rw[ab c,ab c];omega
  ·rw[aa c,aa c];omega
 all_goals
  generalize(AN u r m).natAbs=j at*;simp only[i6]at I;generalize u.natAbs=x at*;obtain⟨D,O⟩:=I
 ·rcases D with D|D
  ·exact .inl D
  ·by_cases T:j=0
   ·exact .inl T
   right;have U:(2*j-1)*(2*j-1)*m<=4*(x*r*(x*r)):=by
    split at D<;>omega
   have e1:((2*j-1:Nat):Int)=2*(j:Int)-1:=by omega
   have G:(((2*j-1)*(2*j-1)*m:Nat):Int)<=((4*(x*r*(x*r)):Nat):Int):=by omega
   rw[cd,cd,e1]at G;refine dw G (js ?_);simp only[cd]
   grind
 ·have U:4*(x*r*(x*r))<=(2*j+1)*(2*j+1)*m:=by
   split at O<;>omega
  have G:((4*(x*r*(x*r)):Nat):Int)<=(((2*j+1)*(2*j+1)*m:Nat):Int):=by omega
  refine dw (js ?_) (dw G (js ?_))
  ·simp only[cd];grind
  ·simp only[cd,gi];rfl
theorem NV {u R n S:Int} (M:u.natAbs<=100000000) (L:0<=R/\R<=50000000) (N:0<n/\n<=20000000000000000) (O:u*u<=n) (T:0<=S/\S*S<=n/\n<(S+1)*(S+1)):
  -(S+2*R+1)<=2*AN u R n*S-2*(u*R)/\2*AN u R n*S-2*(u*R)<=S+2*R+1:=by
 obtain⟨j,e,D,U,X⟩:=Qo M L N O;have Y:0<=(u.natAbs:Int)*R:=bv (by omega) L.1;have G:2*(j:Int)*S-2*(u.natAbs*R)<=S:=by
  rcases D with D|D
  ·rw[D];simp;omega
  ·by_cases V:j=0
   ·rw[V];simp;omega
   ·have:(2*(j:Int)-1)*S<=2*(u.natAbs*R):=by
     refine Fg (by omega) (dw ?_ D);have e2:(2*(j:Int)-1)*S*((2*(j:Int)-1)*S)=(2*(j:Int)-1)*(2*(j:Int)-1)*(S*S):=by grind
     rw[e2];exact cg T.2.1 (B3 _)
    have e3:(2*(j:Int)-1)*S=2*(j:Int)*S-S:=by grind
    omega
 have I:2*(u.natAbs*R)<=2*(j:Int)*S+S+2*j+1:=by
  have:2*(u.natAbs*R)<=(2*(j:Int)+1)*(S+1):=by
   refine Fg (bv (by omega) (by omega)) (dw U ?_);have e2:(2*(j:Int)+1)*(S+1)*((2*(j:Int)+1)*(S+1))=(2*(j:Int)+1)*(2*(j:Int)+1)*((S+1)*(S+1)):=by grind
   rw[e2];exact cg (by omega) (B3 _)
  have e3:(2*(j:Int)+1)*(S+1)=2*(j:Int)*S+S+2*j+1:=by grind
  omega
 rw[e];by_cases c:u<0
 ·rw[ab c];have e1:(u.natAbs:Int)= -u:=by omega
  rw[e1]at G I;have e2: -u*R= -(u*R):=by grind
  rw[e2]at G I;have e3:2* -(j:Int)*S= -(2*(j:Int)*S):=by grind
  rw[e3];omega
 ·rw[aa c];have e1:(u.natAbs:Int)=u:=by omega
  rw[e1]at G I;omega
theorem Zeb {u w R:Int} (L:u.natAbs<=100000000) (M:w.natAbs<=100000000) (T:1<=R/\R<=50000000) (V: ¬(u=0/\w=0)):
  (R-1)*(R-1)<=sq2 (AN u R (sq2 u w)) (AN w R (sq2 u w))/\sq2 (AN u R (sq2 u w)) (AN w R (sq2 u w))<=(R+1)*(R+1):=by
 have G:=JP V;have b1:=B0 L;have b2:=B0 M;have X:sq2 u w<=20000000000000000:=by unfold sq2;omega
 obtain⟨Y,q2⟩:=Iz u w;obtain⟨j,e1,I,h2,h3⟩:=Qo L ⟨by omega,T.2⟩ ⟨G,X⟩ Y;obtain⟨i,e2,g1,g2,g3⟩:=Qo M ⟨by omega,T.2⟩ ⟨G,X⟩ q2;have N:∀(c:Prop) [Decidable c] (j:Nat),(if c then-(j:Int)else(j:Int))*(if c then-(j:Int)else(j:Int))=(j:Int)*j:=by
  intro c _ j;by_cases h:c
  ·rw[ab h];grind
  ·rw[aa h]
 have D:sq2 (AN u R (sq2 u w)) (AN w R (sq2 u w))=(j:Int)*j+(i:Int)*i:=by
  rw[e1,e2];unfold sq2;rw[N,N]
 rw[D];have eU:(2*((u.natAbs:Int)*R))*(2*(u.natAbs*R))+(2*((w.natAbs:Int)*R))*(2*(w.natAbs*R))=(2*R)*(2*R)*sq2 u w:=by
  have a1:(u.natAbs:Int)*u.natAbs=u*u:=cq;have a2:(w.natAbs:Int)*w.natAbs=w*w:=cq;unfold sq2;rw[<-a1,<-a2]
  grind
 generalize(2*((u.natAbs:Int)*R))*(2*(u.natAbs*R))=U at*;generalize(2*((w.natAbs:Int)*R))*(2*(w.natAbs*R))=W at*;generalize sq2 u w=n at*;clear e1 e2 D N b1 b2 Y q2 L M V;have hU:0<=U\/True:= .inr trivial;constructor
 ·
  have O:(2*R)*(2*R)*n<=((2*(j:Int)+1)*(2*(j:Int)+1)+(2*(i:Int)+1)*(2*(i:Int)+1))*n:=by
   rw[d7];omega
  have k2:=fq O G;have k3:(2*(j:Int)+1)*(2*(j:Int)+1)+(2*(i:Int)+1)*(2*(i:Int)+1)=4*((j:Int)*j+(i:Int)*i)+4*((j:Int)+i)+2:=by grind
  have k4:(2*R)*(2*R)=4*(R*R):=by grind
  have k5:(R-1)*(R-1)=R*R-2*R+1:=by grind
  by_cases c:2*((j:Int)+i)<=3*(R-1)
  ·omega
  ·have k6:(3*(R-1))*(3*(R-1))<=(2*((j:Int)+i))*(2*((j:Int)+i)):=an (by omega) (by omega);have k7:(2*((j:Int)+i))*(2*((j:Int)+i))=8*((j:Int)*j+(i:Int)*i)-4*(((j:Int)-i)*((j:Int)-i)):=by grind
   have k8:=B3 ((j:Int)-i);have k9:(3*(R-1))*(3*(R-1))=9*((R-1)*(R-1)):=by grind
   have a0:=B3 (R-1);omega
 ·have k5:(R+1)*(R+1)=R*R+2*R+1:=by grind
  have jj:(j:Int)*j<=R*R:=an (by omega) h3;have ii:(i:Int)*i<=R*R:=an (by omega) g3;rcases I with I|I
  ·rw[I];simp;omega
  rcases g1 with g1|g1
  ·rw[g1];simp;omega
  by_cases cj:j=0
  ·rw[cj];simp;omega
  by_cases ci:i=0
  ·rw[ci];simp;omega
  have O:((2*(j:Int)-1)*(2*(j:Int)-1)+(2*(i:Int)-1)*(2*(i:Int)-1))*n<=(2*R)*(2*R)*n:=by
   rw[d7];omega
  have k2:=fq O G;have k3:(2*(j:Int)-1)*(2*(j:Int)-1)+(2*(i:Int)-1)*(2*(i:Int)-1)=4*((j:Int)*j+(i:Int)*i)-4*((j:Int)+i)+2:=by grind
  have k4:(2*R)*(2*R)=4*(R*R):=by grind
  have k6:(2*(j:Int)-1)+(2*(i:Int)-1)<=3*R:=by
   refine Fg (by omega) ?_;have e4:((2*(j:Int)-1)+(2*(i:Int)-1))*((2*(j:Int)-1)+(2*(i:Int)-1))=2*((2*(j:Int)-1)*(2*(j:Int)-1)+(2*(i:Int)-1)*(2*(i:Int)-1))-((2*(j:Int)-1)-(2*(i:Int)-1))*((2*(j:Int)-1)-(2*(i:Int)-1)):=by grind
   have e5:=B3 ((2*(j:Int)-1)-(2*(i:Int)-1));have e6:3*R*(3*R)=9*(R*R):=by grind
   have e7:=B3 R;rw[e4,e6];omega
  omega
structure Spo (s : Spk) : Prop where
 ok:okS s
 r:128<=s.r
 norm:(s.r-1)*(s.r-1)<=sq2 s.u s.w/\sq2 s.u s.w<=(s.r+1)*(s.r+1)
theorem Zl9 {u w M:Int} (D:0<=M) (h:sq2 u w<=M*M):(u.natAbs:Int)<=M/\(w.natAbs:Int)<=M:=by
 obtain⟨G,I⟩:=Iz u w;have a1:(u.natAbs:Int)*u.natAbs=u*u:=cq;have a2:(w.natAbs:Int)*w.natAbs=w*w:=cq;exact⟨Fg D (by omega),Fg D (by omega)⟩
theorem UW {x y E:Int} (D: -E<=y/\y<=E): -(x.natAbs*E)<=x*y:=by
 have h:(x*y).natAbs=x.natAbs*y.natAbs:=Int.natAbs_mul x y;have G:x.natAbs*y.natAbs<=x.natAbs*E.natAbs:=jz _ (by omega);have I:((x.natAbs*E.natAbs:Nat):Int)=x.natAbs*E:=by rw[cd];congr 1;omega
 omega
theorem side {p q u w R S dir:Int} (D:dir=1\/dir= -1) (G:u.natAbs<=100000000) (I:w.natAbs<=100000000) (L:1<=R/\R<=50000000) (U: ¬(u=0/\w=0)) (M:0<=S/\S*S<=sq2 u w/\sq2 u w<(S+1)*(S+1))
  (h:(p.natAbs+q.natAbs)*(S+2*R+1)<2*R*(crs p q u w*dir)):0<crs p q (AN u R (sq2 u w)) (AN w R (sq2 u w))*dir:=by
 have N:=JP U;have b1:=B0 G;have b2:=B0 I;have O:sq2 u w<=20000000000000000:=by unfold sq2;omega
 obtain⟨V,X⟩:=Iz u w;have e1:=NV G ⟨by omega,L.2⟩ ⟨N,O⟩ V M;have e2:=NV I ⟨by omega,L.2⟩ ⟨N,O⟩ X M;generalize AN u R (sq2 u w)=a at*;generalize AN w R (sq2 u w)=b at*;have Y:0<=S+2*R+1:=by omega
 generalize S+2*R+1=E at*;have m1:=UW (x:=p) (y:=(2*b*S-2*(w*R))*dir) (E:=E) (by rcases D with rfl|rfl<;>omega);have m2:=UW (x:= -q) (y:=(2*a*S-2*(u*R))*dir) (E:=E) (by rcases D with rfl|rfl<;>omega);have e3:((-q).natAbs:Int)=q.natAbs:=by omega
 rw[e3]at m2;have key:2*S*(crs p q a b*dir)=2*R*(crs p q u w*dir)+p*((2*b*S-2*(w*R))*dir)+ -q*((2*a*S-2*(u*R))*dir):=by unfold crs;grind
 have T:0<2*S*(crs p q a b*dir):=by
  rw[d7]at h;omega
 by_cases c:0<crs p q a b*dir
 ·exact c
 ·have:2*S*(crs p q a b*dir)<=0:=Int.mul_nonpos_of_nonneg_of_nonpos (by omega) (by omega);omega
theorem Znn {n:Int} (h:0<=n/\n<=4000000000000000000):∃S:Int,0<=S/\S*S<=n/\n<(S+1)*(S+1):=by
 obtain⟨m,rfl⟩:=bh h.1;obtain⟨r,D,G⟩:=KR m;refine⟨r,by omega,?_,?_⟩
 ·rw[<-cd];omega
 ·have:((r:Int)+1)*((r:Int)+1)=(((r+1)*(r+1):Nat):Int):=by simp
  rw[this];omega
theorem Zy0 (t:Int) (D:0<=t):((2*(t+128)+33)*35)*((2*(t+128)+33)*35)+324*((t+128)*(t+128))<(32*(t+128)-63)*(2*((t+127)*(t+127))):=by
 have G:0<=t*t:=bv D D;have I:0<=t*t*t:=bv G D;have e1:((2*(t+128)+33)*35)*((2*(t+128)+33)*35)=4900*(t*t)+1416100*t+102313225:=by grind
 have e2:324*((t+128)*(t+128))=324*(t*t)+82944*t+5308416:=by grind
 have e3:(32*(t+128)-63)*(2*((t+127)*(t+127)))=64*(t*t*t)+24322*(t*t)+3081020*t+130096514:=by grind
 omega
theorem Zyh {A B D d X p:Int} (G:D=A+B-2*d) (M:X*X+d*d=A*B) (N:0<d) (O:128<=p) (T:(p-1)*(p-1)<=A) (hB:(p-1)*(p-1)<=B) (U:32*p-64<D)
  (I: -((2*p+33)*35)<=A-B/\A-B<=(2*p+33)*35) (V:0<X):9*p<X:=by
 have e1:4*(X*X)=2*(D*(A+B))-D*D-(A-B)*(A-B):=by
  have:X*X=A*B-d*d:=by omega
  rw[this,G];grind
 have Y:D*D<=D*(A+B):=cg (by omega) (by omega);have k2:(A-B)*(A-B)<=((2*p+33)*35)*((2*p+33)*35):=by
  have:(A-B).natAbs<=((2*p+33)*35).natAbs:=by omega
  have h:=eg this this;have a1:((A-B).natAbs:Int)*(A-B).natAbs=(A-B)*(A-B):=cq;have a2:(((2*p+33)*35).natAbs:Int)*((2*p+33)*35).natAbs=((2*p+33)*35)*((2*p+33)*35):=cq;rw[<-a1,<-a2,<-cd,<-cd];omega
 have n0:=B3 (p-1);have k3:(32*p-63)*(2*((p-1)*(p-1)))<=D*(A+B):=db (by omega) (by omega) (by omega) (by omega);have L:=Zy0 (p-128) (by omega);rw[show p-128+128=p by omega,show p-128+127=p-1 by omega]at L;refine Zz4 (by omega) ?_;have e2:9*p*(9*p)=81*(p*p):=by grind
 rw[e2];omega
theorem Lq {x y:Spk} (G:Spo x) (I:Spo y) {u w:Int} (L:u.natAbs<=100000000) (M:w.natAbs<=100000000) (N: ¬(u=0/\w=0)):Spo (Dg x y u w)/\Dg x y u w=⟨AN u (hf x.r y.r) (sq2 u w),AN w (hf x.r y.r) (sq2 u w),hf x.r y.r,hf x.h y.h⟩:=by
 have D:=Qqx G.ok I.ok L M;have e:Dg x y u w=⟨AN u (hf x.r y.r) (sq2 u w),AN w (hf x.r y.r) (sq2 u w),hf x.r y.r,hf x.h y.h⟩:=aa N;have O:128<=hf x.r y.r/\hf x.r y.r<=50000000:=by
  have:=G.r;have:=I.r;have:=G.ok.2.2.1;have:=I.ok.2.2.1
  unfold hf;omega
 rw[e]at D⊢;exact⟨⟨D,O.1,Zeb L M (R:=hf x.r y.r) ⟨by omega,O.2⟩ N⟩,rfl⟩
theorem Zhp (D:128<=a):(4*a)*(7*a)<2*a*((a-1)*(a-1)):=by
 have G:0<a*(a*a-16*a+1):=by
  refine gp (by omega) ?_;have:128*a<=a*a:=ax D (by omega);omega
 have e1:2*a*((a-1)*(a-1))-(4*a)*(7*a)=2*(a*(a*a-16*a+1)):=by grind
 omega
theorem Z3x {x y p c A B:Int} (I:A<=(x+1)*(x+1)) (hB:B<=(y+1)*(y+1)) (D:0<=x/\x+1<=p+c) (G:0<=y/\y+1<=p+c):2*(A+B)<=(2*(p+c))*(2*(p+c)):=by
 have L:(x+1)*(x+1)<=(p+c)*(p+c):=an (by omega) D.2;have M:(y+1)*(y+1)<=(p+c)*(p+c):=an (by omega) G.2;have e:(2*(p+c))*(2*(p+c))=4*((p+c)*(p+c)):=by grind
 omega
theorem Q9d {x y p A B:Int} (G:A<=(x+1)*(x+1)) (hB:(y-1)*(y-1)<=B) (I:x+y<=2*p+33) (D:0<=x+y) (L:x-y<=33):A-B<=(2*p+33)*35:=by
 have e:(x+1)*(x+1)-(y-1)*(y-1)=(x+y)*(x-y+2):=by grind
 have M:(x+y)*(x-y+2)<=(x+y)*35:=cg (by omega) D;omega
theorem Q7h (a b:Int):(mn a b=a/\a<=b)\/(mn a b=b/\b<=a):=by unfold mn;split<;>omega
theorem Qwh {p R S n C:Int} (D:128<=p) (I:p<=R/\R<=p+64) (L:0<=S/\S<=2*(p+65)) (M:0<=n/\n<=2*(p+65)) (G:(p-1)*(p-1)<=C):n*(S+2*R+1)<2*R*C:=by
 have k:n*(S+2*R+1)<=(4*p)*(7*p):=db (by omega) (by omega) (by omega) (by omega);have N:2*p*((p-1)*(p-1))<=2*R*C:=db (by omega) G (B3 _) (by omega);have:=Zhp D;omega
theorem Qsk {p R S n C:Int} (D:128<=p) (G:p<=R/\R<=p+33) (I:0<=S/\S<=2*(p+34)) (L:0<=n/\n<=2*(p+34)) (M:9*p<C):n*(S+2*R+1)<2*R*C:=by
 have k:n*(S+2*R+1)<=(3*p)*(6*p):=db (by omega) (by omega) (by omega) (by omega);have N:2*p*(9*p+1)<=2*R*C:=db (by omega) (by omega) (by omega) (by omega);have e1:2*p*(9*p+1)=(3*p)*(6*p)+2*p:=by grind
 omega
theorem Um {u w M:Int} (D:0<=M) (h:sq2 u w<=M*M):0<=(u.natAbs:Int)+w.natAbs/\(u.natAbs:Int)+w.natAbs<=2*M:=by
 have:=Zl9 D h;omega
structure Rad (x y : Spk) (c p : Int) : Prop where
 m:mn x.r y.r=p/\128<=p
 R:p<=hf x.r y.r/\hf x.r y.r<=p+c
 R5:1<=hf x.r y.r/\hf x.r y.r<=50000000
 A:(p-1)*(p-1)<=sq2 x.u x.w/\(p-1)*(p-1)<=sq2 y.u y.w
 S:2*(sq2 x.u x.w+sq2 y.u y.w)<=(2*(p+(c+1)))*(2*(p+(c+1)))
 cx:0<=(x.u.natAbs:Int)+x.w.natAbs/\(x.u.natAbs:Int)+x.w.natAbs<=2*(p+(c+1))
 cy:0<=(y.u.natAbs:Int)+y.w.natAbs/\(y.u.natAbs:Int)+y.w.natAbs<=2*(p+(c+1))
 d:x.r+y.r<=2*p+c/\0<=x.r+y.r/\x.r-y.r<=c/\y.r-x.r<=c
theorem Ma {x y:Spk} (I:Spo x) (L:Spo y) {c:Int} (h:((x.r-y.r).natAbs:Int)<=c):Rad x y c (mn x.r y.r):=by
 obtain⟨N,D⟩:=I.norm;obtain⟨O,G⟩:=L.norm;have T:=I.r;have U:=L.r;have ux:=I.ok.2.2.1;have uy:=L.ok.2.2.1;have V:=Q7h x.r y.r;generalize X:mn x.r y.r=p at*;have Y:=Um (M:=x.r+1) (by omega) D;have k2:=Um (M:=y.r+1) (by omega) G;have k3:=Z3x (p:=p) (c:=c+1) D G (by omega) (by omega);have k4:(p-1)*(p-1)<=sq2 x.u x.w:=dw (an (by omega) (by omega)) N;have k5:(p-1)*(p-1)<=sq2 y.u y.w:=dw (an (by omega) (by omega)) O;refine⟨⟨X,by omega⟩,?_,?_,⟨k4,k5⟩,k3,⟨Y.1,by omega⟩,⟨k2.1,by omega⟩,by omega⟩
 ·unfold hf;omega
 ·unfold hf;omega
theorem FP (x y:Spk):sq2 (x.u-y.u) (x.w-y.w)=sq2 x.u x.w+sq2 y.u y.w-2*dt2 x.u x.w y.u y.w:=by unfold sq2 dt2;grind
theorem SI (x y:Spk):sq2 (x.u+y.u) (x.w+y.w)=sq2 x.u x.w+sq2 y.u y.w+2*dt2 x.u x.w y.u y.w:=by unfold sq2 dt2;grind
theorem Z26 (x y:Spk) {dir:Int} (D:dir*dir=1):(crs x.u x.w y.u y.w*dir)*(crs x.u x.w y.u y.w*dir)+dt2 x.u x.w y.u y.w*dt2 x.u x.w y.u y.w=sq2 x.u x.w*sq2 y.u y.w:=by
 have:(crs x.u x.w y.u y.w*dir)*(crs x.u x.w y.u y.w*dir)=crs x.u x.w y.u y.w*crs x.u x.w y.u y.w*(dir*dir):=by grind
 rw[this,D];unfold sq2 dt2 crs;grind
theorem IR (u w:Int):0<=sq2 u w:=by have:=B3 u;have:=B3 w;unfold sq2;omega
theorem PN (D:a=1\/a= -1):a*a=1:=by rcases D with rfl|rfl<;>rfl
theorem QS {u w:Int} (D:u.natAbs<=100000000) (G:w.natAbs<=100000000):∃S:Int,0<=S/\S*S<=sq2 u w/\sq2 u w<(S+1)*(S+1):=by
 have I:=B0 D;have L:=B0 G;exact Znn ⟨IR _ _,by unfold sq2;omega⟩
theorem Q9k (a b c d dir:Int):crs a b c d*dir=crs c d a b* -dir:=by unfold crs;grind
theorem Qoa {x y:Spk} (D:okS x) (G:okS y) {dir:Int} (I:dir=1\/dir= -1):(dir*(y.w-x.w)).natAbs<=100000000/\(dir*(x.u-y.u)).natAbs<=100000000:=by
 have:=D.1;have:=D.2.1;have:=G.1;have:=G.2.1
 rcases I with rfl|rfl<;>omega
theorem Q14 {x y:Spk} (D:okS x) (G:okS y):(x.u+y.u).natAbs<=100000000/\(x.w+y.w).natAbs<=100000000:=by
 have:=D.1;have:=D.2.1;have:=G.1;have:=G.2.1
 omega
abbrev SG (x y:Spk) (dir:Int) (m:Spk):Prop:=Spo m/\m.r=hf x.r y.r/\m.h=hf x.h y.h/\0<crs x.u x.w m.u m.w*dir/\0<crs m.u m.w y.u y.w*dir
theorem Qza {x y:Spk} {dir u w S C N:Int} (T:dir=1\/dir= -1) (U:Spo x) (V:Spo y) (G:u.natAbs<=100000000) (I:w.natAbs<=100000000) (D:1<=hf x.r y.r/\hf x.r y.r<=50000000) (L: ¬(u=0/\w=0)) (O:0<=S/\S*S<=sq2 u w/\sq2 u w<(S+1)*(S+1))
  (eC:crs x.u x.w u w*dir=C) (M:crs y.u y.w u w* -dir=N) (X:((x.u.natAbs:Int)+x.w.natAbs)*(S+2*hf x.r y.r+1)<2*hf x.r y.r*C) (Y:((y.u.natAbs:Int)+y.w.natAbs)*(S+2*hf x.r y.r+1)<2*hf x.r y.r*N):SG x y dir (Dg x y u w):=by
 obtain⟨s1,s2⟩:=Lq U V G I L;have t1:=side (p:=x.u) (q:=x.w) T G I D L O (by rw[eC];exact X);have t2:=side (p:=y.u) (q:=y.w) (dir:= -dir) (by omega) G I D L O (by rw[M];exact Y);refine⟨s1,by rw[s2],by rw[s2],by rw[s2];exact t1,?_⟩;rw[s2,Q9k];exact t2
theorem Ng {x y:Spk} (L:a=1\/a= -1) (M:Spo x) (N:Spo y) (I:((x.r-y.r).natAbs:Int)<=64) (h:dt2 x.u x.w y.u y.w<=0):SG x y a (AI x y a false):=by
 have G:=Ma M N I;have D:=PN L;have eM:BN x y a false=(a*(y.w-x.w),a*(x.u-y.u)):=by
  unfold BN;rw[aa (by simp),aa (λg=>absurd h (Int.not_le.2 g.1)),aa (λg=>absurd h (Int.not_le.2 g))]
 unfold AI;rw[eM];simp only;have eN:sq2 (a*(y.w-x.w)) (a*(x.u-y.u))=sq2 (x.u-y.u) (x.w-y.w):=by
  have:sq2 (a*(y.w-x.w)) (a*(x.u-y.u))=a*a*sq2 (x.u-y.u) (x.w-y.w):=by unfold sq2;grind
  rw[this,D,ex]
 have eC:crs x.u x.w (a*(y.w-x.w)) (a*(x.u-y.u))*a=sq2 x.u x.w-dt2 x.u x.w y.u y.w:=by
  have:crs x.u x.w (a*(y.w-x.w)) (a*(x.u-y.u))*a=a*a*(sq2 x.u x.w-dt2 x.u x.w y.u y.w):=by unfold crs sq2 dt2;grind
  rw[this,D,ex]
 have O:crs y.u y.w (a*(y.w-x.w)) (a*(x.u-y.u))* -a=sq2 y.u y.w-dt2 x.u x.w y.u y.w:=by
  have:crs y.u y.w (a*(y.w-x.w)) (a*(x.u-y.u))* -a=a*a*(sq2 y.u y.w-dt2 x.u x.w y.u y.w):=by unfold crs sq2 dt2;grind
  rw[this,D,ex]
 obtain⟨Y,hw⟩:=Qoa M.ok N.ok L;have nS:=IR (x.u+y.u) (x.w+y.w);rw[SI]at nS;rw[FP]at eN;have hA:=G.A;have hp:=G.m.2;have hR:=G.R;have a0:2*(sq2 x.u x.w+sq2 y.u y.w)<=(2*(mn x.r y.r+65))*(2*(mn x.r y.r+65)):=G.S;have T:=G.cx;have U:=G.cy;have V:=G.R5;clear G I D;generalize mn x.r y.r=p at*;have h0: ¬(a*(y.w-x.w)=0/\a*(x.u-y.u)=0):=by
  rintro⟨g1,g2⟩;rw[g1,g2]at eC;have e0:crs x.u x.w 0 0*a=0:=by unfold crs;simp
  rw[e0]at eC;have:0<(p-1)*(p-1):=gp (by omega) (by omega);omega
 obtain⟨S,X,r2,r3⟩:=QS Y hw;have hS:S<=2*(p+65):=Fg (by omega) (by omega);exact Qza L M N Y hw V h0 ⟨X,r2,r3⟩ eC O (Qwh hp hR ⟨X,hS⟩ T (by omega)) (Qwh hp hR ⟨X,hS⟩ U (by omega))
theorem Q5d {x y:Spk} (hd:a=1\/a= -1) (M:Spo x) (N:Spo y) (h1:0<dt2 x.u x.w y.u y.w) (h2:0<crs x.u x.w y.u y.w*a) (h3:((x.r-y.r).natAbs:Int)<=33) (h4:32*mn x.r y.r-64<sq2 (x.u-y.u) (x.w-y.w)):SG x y a (AI x y a false):=by
 have G:=Ma M N h3;have L:=PN hd;have eM:BN x y a false=(x.u+y.u,x.w+y.w):=by
  unfold BN;rw[aa (by simp),ab ⟨h1,h2⟩]
 unfold AI;rw[eM];simp only;have eC:crs x.u x.w (x.u+y.u) (x.w+y.w)*a=crs x.u x.w y.u y.w*a:=by unfold crs;grind
 have O:crs y.u y.w (x.u+y.u) (x.w+y.w)* -a=crs x.u x.w y.u y.w*a:=by unfold crs;grind
 obtain⟨hu,hw⟩:=Q14 M.ok N.ok;have nx:=M.norm;have T:=N.norm;have D:=G.d;have d1:=Q9d (p:=mn x.r y.r) nx.2 T.1 D.1 D.2.1 D.2.2.1;have d2:=Q9d (p:=mn x.r y.r) T.2 nx.1 (by rw[j8];exact D.1) (by rw[j8];exact D.2.1) D.2.2.2;have I:=Zyh (p:=mn x.r y.r) (FP x y) (Z26 x y L) h1 G.m.2 G.A.1 G.A.2 h4 ⟨by omega,d1⟩ h2;have nD:=IR (x.u-y.u) (x.w-y.w);have eS:=SI x y;rw[FP]at nD;have hp:=G.m.2;have hR:=G.R;have a0:2*(sq2 x.u x.w+sq2 y.u y.w)<=(2*(mn x.r y.r+34))*(2*(mn x.r y.r+34)):=G.S;have U:=G.cx;have V:=G.cy;have X:=G.R5;clear G h3 L d1 d2 nx T D h4;generalize mn x.r y.r=p at*;have h0: ¬(x.u+y.u=0/\x.w+y.w=0):=by
  rintro⟨g1,g2⟩;rw[g1,g2]at eC;have e0:crs x.u x.w 0 0*a=0:=by unfold crs;simp
  rw[e0]at eC;omega
 obtain⟨S,Y,r2,r3⟩:=QS hu hw;have hS:S<=2*(p+34):=Fg (by omega) (by omega);exact Qza hd M N hu hw X h0 ⟨Y,r2,r3⟩ eC O (Qsk hp hR ⟨Y,hS⟩ U I) (Qsk hp hR ⟨Y,hS⟩ V I)
theorem Z9d (D G mu I L M N O dir:Int):(crs L M N O*dir)*(crs D G mu I*dir)=(crs L M mu I*dir)*(crs D G N O*dir)+(crs D G L M*dir)*(crs mu I N O*dir):=by unfold crs;grind
theorem Zc2 (D G mu I L M N O dir:Int):(crs D G L M*dir)*(crs mu I N O*dir)=(crs D G mu I*dir)*(crs L M N O*dir)+(crs D G N O*dir)*(crs mu I L M*dir):=by unfold crs;grind
theorem Qh3 (hb:0<b) (h:0<=a*b):0<=a:=by
 by_cases c:0<=a
 ·exact c
 ·have:=Int.mul_neg_of_neg_of_pos (show a<0 by omega) hb;omega
structure Btw (x y q : Spk) : Prop where
 sp:Spo q
 r:mn x.r y.r<=q.r/\q.r<=mx x.r y.r
 h:mn x.h y.h<=q.h/\q.h<=mx x.h y.h
theorem Qyj {x y:Spk} (D:Spo y):Btw x y y:=⟨D,by unfold mn mx;split<;>split<;>omega,by unfold mn mx;split<;>split<;>omega⟩
theorem Quu {x y:Spk} (D:Spo x):Btw x y x:=⟨D,by unfold mn mx;split<;>split<;>omega,by unfold mn mx;split<;>split<;>omega⟩
theorem NY (a b:Int):mn a b<=hf a b/\hf a b<=mx a b:=by unfold hf mn mx;split<;>split<;>omega
theorem Yf {x m y q:Spk} (D:m.r=hf x.r y.r) (G:m.h=hf x.h y.h) (h:Btw x m q):Btw x y q:=by
 have I:=NY x.r y.r;have L:=NY x.h y.h;rw[<-D]at I;rw[<-G]at L;obtain⟨s,r,M⟩:=h;refine⟨s,?_,?_⟩
 ·unfold mn mx at*;split at* <;>split at* <;>split at* <;>omega
 ·unfold mn mx at*;split at* <;>split at* <;>split at* <;>omega
theorem Qar {x m y q:Spk} (D:m.r=hf x.r y.r) (G:m.h=hf x.h y.h) (h:Btw m y q):Btw x y q:=by
 have I:=NY x.r y.r;have L:=NY x.h y.h;rw[<-D]at I;rw[<-G]at L;obtain⟨s,r,M⟩:=h;refine⟨s,?_,?_⟩
 ·unfold mn mx at*;split at* <;>split at* <;>split at* <;>omega
 ·unfold mn mx at*;split at* <;>split at* <;>split at* <;>omega
theorem Oy {x m y:Spk} (D:m.r=hf x.r y.r) (h:((x.r-y.r).natAbs:Int)<=64):((x.r-m.r).natAbs:Int)<=33/\((m.r-y.r).natAbs:Int)<=33:=by
 rw[D];unfold hf;omega
theorem Rj {dir:Int} (N:dir=1\/dir= -1):∀(k:Nat) {x y:Spk},Spo x->Spo y->0<crs x.u x.w y.u y.w*dir->(((x.r-y.r).natAbs:Int)<=33\/(((x.r-y.r).natAbs:Int)<=64/\dt2 x.u x.w y.u y.w<=0))->
  ∀q∈AK dir k false x y,Btw x y q/\0<=crs x.u x.w q.u q.w*dir/\0<=crs q.u q.w y.u y.w*dir
 |0,x,y,_,G,I,_,q,D=>by
  unfold AK at D;rw[de]at D;subst D;exact⟨Qyj G,by omega,by unfold crs;grind⟩
 |k+1,x,y,T,G,I,V,q,D=>by
  unfold AK at D;by_cases c:DE x y dir false
  ·rw[ab c,de]at D;subst D;exact⟨Qyj G,by omega,by unfold crs;grind⟩
  ·rw[aa c]at D;have L:((x.r-y.r).natAbs:Int)<=64:=by rcases V with h|h<;>omega
   have X:SG x y dir (AI x y dir false):=by
    by_cases M:dt2 x.u x.w y.u y.w<=0
    ·exact Ng N T G L M
    ·have U:=V.resolve_right (λh=>M h.2);refine Q5d N T G (by omega) I U ?_;have: ¬sq2 (x.u-y.u) (x.w-y.w)<=32*mn x.r y.r-64:=λh=>c ⟨rfl,I,h⟩;omega
   obtain⟨m1,m2,m3,m4,m5⟩:=X;generalize AI x y dir false=m at*;obtain⟨Y,d2⟩:=Oy m2 L;rcases be.1 D with D|D
   ·obtain⟨g1,g2,O⟩:=Rj N k T m1 m4 (.inl Y) q D;refine⟨Yf m2 m3 g1,g2,Qh3 m4 ?_⟩;rw[Z9d];have a1:=bv O (Int.le_of_lt I);have a2:=bv g2 (Int.le_of_lt m5);omega
   ·obtain⟨g1,g2,O⟩:=Rj N k m1 G m5 (.inl d2) q D;refine⟨Qar m2 m3 g1,Qh3 m5 ?_,O⟩;rw[Zc2];have a1:=bv (Int.le_of_lt m4) O;have a2:=bv (Int.le_of_lt I) g2;omega
theorem Qmb (M:a=1\/a= -1) (k:Nat) {x y:Spk} (U:Spo x) (N:Spo y) (I:((x.r-y.r).natAbs:Int)<=64) (L:dt2 x.u x.w y.u y.w<=0):
  ∀q∈AK a (k+1) false x y,Btw x y q/\Rd x.u x.w y.u y.w q.u q.w a:=by
 intro q D;by_cases O:0<crs x.u x.w y.u y.w*a
 ·obtain⟨g1,g2,T⟩:=Rj M (k+1) U N O (.inr ⟨I,L⟩) q D;refine⟨g1,?_⟩;unfold Rd;rw[ab O];exact⟨g2,T⟩
 ·unfold AK at D;rw[aa (λc:DE x y a false=>O c.2.1)]at D;obtain⟨m1,m2,m3,m4,m5⟩:=Ng M U N I L;generalize AI x y a false=m at*;obtain⟨Y,d2⟩:=Oy m2 I;have key:Btw x y q/\(0<=crs x.u x.w q.u q.w*a\/0<=crs q.u q.w y.u y.w*a):=by
   rcases be.1 D with D|D
   ·obtain⟨g1,g2,T⟩:=Rj M k U m1 m4 (.inl Y) q D;exact⟨Yf m2 m3 g1, .inl g2⟩
   ·obtain⟨g1,g2,T⟩:=Rj M k m1 N m5 (.inl d2) q D;exact⟨Qar m2 m3 g1, .inr T⟩
  refine⟨key.1,?_⟩;have G:=key.2;have e1:crs y.u y.w q.u q.w= -crs q.u q.w y.u y.w:=Qd5 _ _ _ _;have e2:crs q.u q.w x.u x.w= -crs x.u x.w q.u q.w:=Qd5 _ _ _ _;unfold Rd;rw[aa O];by_cases c:crs x.u x.w y.u y.w*a=0/\dt2 x.u x.w y.u y.w<0
  ·rw[ab c];rcases G with G|G
   ·exact G
   ·have c0:crs x.u x.w y.u y.w=0:=by have:=c.1;rcases M with rfl|rfl<;>omega
    have V:=Zlo y.u y.w x.u x.w q.u q.w;rw[Qd5 x.u x.w y.u y.w,c0,e1,e2]at V;have X:0<sq2 y.u y.w:=by
     have:=N.norm.1;have:=N.r;have:0<(y.r-1)*(y.r-1):=gp (by omega) (by omega);omega
    have e3:dt2 y.u y.w x.u x.w=dt2 x.u x.w y.u y.w:=by unfold dt2;grind
    rw[e3]at V;refine Qh3 X ?_;have e4:crs x.u x.w q.u q.w*a*sq2 y.u y.w= -((crs q.u q.w y.u y.w*a)*dt2 x.u x.w y.u y.w):=by
     have:crs x.u x.w q.u q.w*a*sq2 y.u y.w= -(sq2 y.u y.w* -crs x.u x.w q.u q.w*a):=by grind
     rw[this,<-V];grind
    rw[e4];have:=Int.mul_nonpos_of_nonneg_of_nonpos G L;omega
  ·rw[aa c];rcases G with G|G
   ·right;rw[e2];rw[jn];omega
   ·left;rw[e1];rw[jn];omega
theorem U7 (I:u.natAbs<=100000000) (G:1<=R/\R<=50000000) (L:u*u<=R*R):AN u R (R*R)=u:=by
 have M:0<R*R:=gp (by omega) (by omega);have N:R*R<=50000000*50000000:=an (by omega) G.2;obtain⟨j,e,D,O,T⟩:=Qo I ⟨by omega,G.2⟩ ⟨M,by omega⟩ L;have U:(j:Int)<=u.natAbs:=by
  rcases D with D|D
  ·omega
  ·have:(2*(j:Int)-1)*R<=2*(u.natAbs*R):=by
    refine Fg (bv (by omega) (bv (by omega) (by omega))) (dw (js ?_) D)
    grind
   have e3:2*((u.natAbs:Int)*R)=2*(u.natAbs:Int)*R:=by grind
   rw[e3]at this;have:=fq this (by omega);omega
 have V:(u.natAbs:Int)<=j:=by
  have:2*((u.natAbs:Int)*R)<=(2*(j:Int)+1)*R:=by
   refine Fg (bv (by omega) (by omega)) (dw O (js ?_))
   grind
  have e3:2*((u.natAbs:Int)*R)=2*(u.natAbs:Int)*R:=by grind
  rw[e3]at this;have:=fq this (by omega);omega
 rw[e];split<;>omega
theorem Zsq (O:a=1\/a= -1) (k:Nat) {x y:Spk} (L:Spo x) (T:Spo y) (U:y.u=x.u/\y.w=x.w) (V:y.r=x.r) (he:sq2 x.u x.w=x.r*x.r):
  ∀q∈AK a (k+2) true x y,Btw x y q:=by
 intro q G;rw[AK]at G;rw[aa (λc:DE x y a true=>by cases c.1)]at G;have a0:=L.r;have X:0<x.r*x.r:=gp (by omega) (by omega);have h0: ¬(-x.u=0/\ -x.w=0):=by
  rintro⟨g1,g2⟩;have a1:x.u=0:=by omega
  have a2:x.w=0:=by omega
  rw[a1,a2]at he;unfold sq2 at he;omega
 have hb:=L.ok;obtain⟨s1,s2⟩:=Lq L T (u:= -x.u) (w:= -x.w) (by have:=hb.1;omega) (by have:=hb.2.1;omega) h0;have Y:sq2 (-x.u) (-x.w)=x.r*x.r:=by rw[<-he];unfold sq2;grind
 obtain⟨q1,q2⟩:=Iz (-x.u) (-x.w);rw[Y]at q1 q2;have D:hf x.r y.r=x.r:=by rw[V];unfold hf;omega
 have n1:=U7 (u:= -x.u) (R:=x.r) (by have:=hb.1;omega) ⟨by omega,hb.2.2.1.2⟩ q1;have n2:=U7 (u:= -x.w) (R:=x.r) (by have:=hb.2.1;omega) ⟨by omega,hb.2.2.1.2⟩ q2;rw[D,Y,n1,n2]at s2;have eM:AI x y a true=Dg x y (-x.u) (-x.w):=by
  unfold AI BN;rw[ab rfl]
 rw[eM]at G;generalize Dg x y (-x.u) (-x.w)=m at*;have M:m.r=hf x.r y.r:=by rw[s2,D]
 have mh:m.h=hf x.h y.h:=by rw[s2]
 have N:dt2 x.u x.w m.u m.w<=0:=by
  have:dt2 x.u x.w m.u m.w= -(x.r*x.r):=by rw[s2,<-he];unfold dt2 sq2;grind
  omega
 have I:dt2 m.u m.w y.u y.w<=0:=by
  have:dt2 m.u m.w y.u y.w= -(x.r*x.r):=by rw[s2,<-he,U.1,U.2];unfold dt2 sq2;grind
  omega
 rcases be.1 G with G|G
 ·exact Yf M mh (Qmb O k L s1 (by rw[M,D];omega) N q G).1
 ·exact Qar M mh (Qmb O k s1 T (by rw[M,D,V];omega) I q G).1
theorem Yq (h:0<R):EX (R*R)=R:=by
 refine NN ⟨by omega,?_, .inr ?_⟩
 ·have:R*(R+1)=R*R+R:=by grind
  omega
 ·have:(R-1)*R=R*R-R:=by grind
  omega
theorem Zux {r s k t:Int} (I:0<=r) (L:0<=s) (M:0<=k/\k<=3) (N:1<=t/\t<=3):dt2 (AX r k) (AY r k) (AX s (k+t)) (AY s (k+t))<=0:=by
 have O:=bv I L;have D:k=0\/k=1\/k=2\/k=3:=by omega
 have G:t=1\/t=2\/t=3:=by omega
 rcases D with rfl|rfl|rfl|rfl<;>rcases G with rfl|rfl|rfl<;>simp[dt2,AX,AY,Int.mul_neg,jn]<;>omega
structure ArcEnds (it : Itm) (R0 R1 : Int) : Prop where
 a:Spo (AE it it.fr)
 b:Spo (AE it it.to)
 ra:(AE it it.fr).r=R0/\sq2 (AE it it.fr).u (AE it it.fr).w=R0*R0
 rb:(AE it it.to).r=R1/\sq2 (AE it it.to).u (AE it it.to).w=R1*R1
 le:128<=R0/\R0<=R1/\R1<=R0+64
 bG:it.bG=true->(AE it it.to).u=(AE it it.fr).u/\(AE it it.to).w=(AE it it.fr).w/\R1=R0
 part:it.bG=false->dt2 (AE it it.fr).u (AE it it.fr).w (AE it it.to).u (AE it it.to).w<=0
theorem Zho {it:Itm} (h:ArcMade a it) (U:CE it):∃R0 R1,ArcEnds it R0 R1:=by
 obtain⟨r,k,t,g,x,h1,h2,V,X,h5,h6,h7,h8,h9,N,I,D,L⟩:=h.ends;have G:=h.aG;have a1:dU it it.fr=AX r k:=by unfold dU;rw[D,(DD G).1];omega
 have a2:dW it it.fr=AY r k:=by unfold dW;rw[D,(DD G).2.1];omega
 have a3:dU it it.to=AX (r+g) (k+t):=by unfold dU;rw[D,L,(DD G).1,(DD G).1];omega
 have a4:dW it it.to=AY (r+g) (k+t):=by unfold dW;rw[D,L,(DD G).2.1,(DD G).2.1];omega
 have e1:sq2 (dU it it.fr*16) (dW it it.fr*16)=(16*r)*(16*r):=by
  have:sq2 (dU it it.fr*16) (dW it it.fr*16)=256*sq2 (dU it it.fr) (dW it it.fr):=by unfold sq2;grind
  rw[this,a1,a2,Q1];grind
 have e2:sq2 (dU it it.to*16) (dW it it.to*16)=(16*(r+g))*(16*(r+g)):=by
  have:sq2 (dU it it.to*16) (dW it it.to*16)=256*sq2 (dU it it.to) (dW it it.to):=by unfold sq2;grind
  rw[this,a3,a4,Q1];grind
 have m1:(AE it it.fr).r=16*r:=by unfold AE;simp only;rw[e1,Yq (by omega)]
 have m2:(AE it it.to).r=16*(r+g):=by unfold AE;simp only;rw[e2,Yq (by omega)]
 obtain⟨-,Y,v2,v3⟩:=U;obtain⟨-,-,T,-⟩:=v3 h.aP;have o1:=L0 T Y;have o2:=L0 T v2;have M:∀R:Int,128<=R->(R-1)*(R-1)<=R*R/\R*R<=(R+1)*(R+1):=λR hR=>⟨an (by omega) (by omega),an (by omega) (by omega)⟩;refine⟨16*r,16*(r+g),⟨o1,by omega,?_⟩,⟨o2,by omega,?_⟩,⟨m1,e1⟩,⟨m2,e2⟩,by omega,?_,?_⟩
 ·rw[m1];show _<=sq2 (dU it it.fr*16) (dW it it.fr*16)/\sq2 (dU it it.fr*16) (dW it it.fr*16)<=_
  rw[e1];exact M _ (by omega)
 ·rw[m2];show _<=sq2 (dU it it.to*16) (dW it it.to*16)/\sq2 (dU it it.to*16) (dW it it.to*16)<=_
  rw[e2];exact M _ (by omega)
 ·intro hf;rw[I]at hf;have O:=of_decide_eq_true hf;have hg:=N O;show dU it it.to*16=dU it it.fr*16/\dW it it.to*16=dW it it.fr*16/\_;rw[a1,a2,a3,a4,O,hg,fm,fm];exact⟨rfl,rfl,rfl⟩
 ·intro hf;rw[I]at hf;have O:=of_decide_eq_false hf;show dt2 (dU it it.fr*16) (dW it it.fr*16) (dU it it.to*16) (dW it it.to*16)<=0;have e3:dt2 (dU it it.fr*16) (dW it it.fr*16) (dU it it.to*16) (dW it it.to*16)=256*dt2 (dU it it.fr) (dW it it.fr) (dU it it.to) (dW it it.to):=by unfold dt2;grind
  have:=Zux (r:=r) (s:=r+g) (k:=k) (t:=t) (by omega) (by omega) ⟨V,X⟩ (by omega);rw[e3,a1,a2,a3,a4];omega
theorem Zd3 {it:Itm} (O:it.dir=1\/it.dir= -1) (h:ArcEnds it k v):∀q∈CJ it,Btw (AE it it.fr) (AE it it.to) q/\(it.bG=true\/Rd (AE it it.fr).u (AE it it.fr).w (AE it it.to).u (AE it it.to).w q.u q.w it.dir):=by
 intro q D;have hle:=h.le;unfold CJ at D;have G:=h.ra;have M:=h.rb;generalize L:AE it it.fr=a at*;generalize hb:AE it it.to=b at*;rcases av.1 D with D|D
 ·subst D;refine⟨Quu (L▸h.a),?_⟩;by_cases hf:it.bG=true
  ·exact .inl hf
  ·right;have z:crs q.u q.w q.u q.w=0:=by unfold crs;grind
   have I:=h.part (by simpa using hf);rw[L,hb]at I;unfold Rd;rw[z];by_cases T:crs q.u q.w b.u b.w*it.dir>0
   ·rw[ab T];exact⟨by simp,by omega⟩
   ·rw[aa T];by_cases U:crs q.u q.w b.u b.w*it.dir=0/\dt2 q.u q.w b.u b.w<0
    ·rw[ab U];simp
    ·rw[aa U];right;simp
 ·by_cases hf:it.bG=true
  ·rw[hf]at D;have g:=h.bG hf;rw[L,hb]at g;exact⟨Zsq O 14 (L▸h.a) (hb▸h.b) ⟨g.1,g.2.1⟩ (by rw[M.1,G.1,g.2.2]) (by rw[G.2,G.1]) q D, .inl hf⟩
  ·have N:it.bG=false:=by simpa using hf
   rw[N]at D;have I:=h.part N;rw[L,hb]at I;obtain⟨g1,g2⟩:=Qmb O 15 (L▸h.a) (hb▸h.b) (by rw[G.1,M.1];omega) I q D;exact⟨g1, .inr g2⟩
theorem Zpk (u w x y:Int):dt2 u w x y*dt2 u w x y+crs u w x y*crs u w x y=sq2 u w*sq2 x y:=by unfold dt2 crs sq2;grind
theorem tri {p q x y a b:Int} (D:0<=a) (hb:0<=b) (G:sq2 p q<=a*a) (I:sq2 x y<=b*b):sq2 (p+x) (q+y)<=(a+b)*(a+b):=by
 have M:=Zpk p q x y;have N:=B3 (crs p q x y);have O:=IR p q;have L:=IR x y;have T:dt2 p q x y<=a*b:=by
  refine Fg (bv D hb) ?_;have U:sq2 p q*sq2 x y<=(a*a)*(b*b):=db G I L (bv D D);have e:a*b*(a*b)=(a*a)*(b*b):=by grind
  omega
 have e1:sq2 (p+x) (q+y)=sq2 p q+sq2 x y+2*dt2 p q x y:=by unfold sq2 dt2;grind
 have e2:(a+b)*(a+b)=a*a+b*b+2*(a*b):=by grind
 omega
theorem Z6r (L:128<=R) (M: -2<=a) (N:50*a<=31*R) (O:32*R-607<=D) (T:(a-4)*(4*R-a-2)<=D):(2*(a.natAbs:Int)+11)*(2*(a.natAbs:Int)+11)<=D:=by
 by_cases c:a<=20
 ·have:(2*(a.natAbs:Int)+11)*(2*(a.natAbs:Int)+11)<=51*51:=an (by omega) (by omega);omega
 have e0:(a.natAbs:Int)=a:=by omega
 rw[e0];by_cases U:a<=60
 ·have G:(a-4)*(510-a)<=(a-4)*(4*R-a-2):=cg (by omega) (by omega);have I:0<=(a-21)*(60-a):=bv (by omega) (by omega);have e1:(a-4)*(510-a)-(2*a+11)*(2*a+11)=5*((a-21)*(60-a))+65*a+4139:=by grind
  omega
 ·have G:(a-4)*(169*a-62)<=(a-4)*(31*(4*R-a-2)):=cg (by omega) (by omega);have e1:(a-4)*(31*(4*R-a-2))=31*((a-4)*(4*R-a-2)):=by grind
  have e2:(a-4)*(169*a-62)-31*((2*a+11)*(2*a+11))=45*(a*a)-2102*a-3503:=by grind
  have I:60*a<=a*a:=ax (by omega) (by omega);omega
theorem Z8t (D:128<=R) (G:0<=S) (h:(2*R-3)*(2*R-3)<=2*((S+1)*(S+1))):50*(2*R-S)<=31*R:=by
 by_cases c:50*(2*R-S)<=31*R
 ·exact c
 ·exfalso;have I:(50*(S+1))*(50*(S+1))<=(69*R+50)*(69*R+50):=an (by omega) (by omega);have e1:(50*(S+1))*(50*(S+1))=2500*((S+1)*(S+1)):=by grind
  have e2:(69*R+50)*(69*R+50)=4761*(R*R)+6900*R+2500:=by grind
  have e3:(2*R-3)*(2*R-3)=4*(R*R)-12*R+9:=by grind
  have L:128*R<=R*R:=ax D (by omega);omega
theorem Zga {G I mu L R S D:Int} (Y:128<=R) (hS:0<=S/\S*S<=sq2 G I/\sq2 G I<(S+1)*(S+1)) (hz:S<=2*R+2) (N:50*(2*R-S)<=31*R) (h2:32*R-607<=D) (h3:(2*R-S-4)*(4*R-(2*R-S)-2)<=D)
  (e1: -(S+2*R+1)<=2*mu*S-2*(G*R)/\2*mu*S-2*(G*R)<=S+2*R+1) (e2: -(S+2*R+1)<=2*L*S-2*(I*R)/\2*L*S-2*(I*R)<=S+2*R+1):
  4*sq2 (G-2*mu) (I-2*L)<=D:=by
 have hD:=Z6r Y (show-2<=2*R-S by omega) N h2 h3;obtain⟨z,O⟩:∃z,z=2*R-S:=⟨_,rfl⟩;rw[<-O]at hD N;have M:0<S:=by omega
 have k1:sq2 (G* -z) (I* -z)<=((S+1)*z.natAbs)*((S+1)*z.natAbs):=by
  have a1:(z.natAbs:Int)*z.natAbs=z*z:=cq;have e3:sq2 (G* -z) (I* -z)=sq2 G I*(z*z):=by unfold sq2;grind
  have e4:((S+1)*(z.natAbs:Int))*((S+1)*z.natAbs)=(S+1)*(S+1)*(z*z):=by rw[<-a1];grind
  rw[e3,e4];exact ax (by omega) (B3 z)
 have k2:sq2 (-(2*mu*S-2*(G*R))) (-(2*L*S-2*(I*R)))<=(2*(S+2*R+1))*(2*(S+2*R+1)):=by
  have X:∀e:Int,-(S+2*R+1)<=e/\e<=S+2*R+1-> -e* -e<=(S+2*R+1)*(S+2*R+1):=λe he=>by
   have:0<=(S+2*R+1-e)*(S+2*R+1+e):=bv (by omega) (by omega);have e5:(S+2*R+1-e)*(S+2*R+1+e)=(S+2*R+1)*(S+2*R+1)- -e* -e:=by grind
   omega
  have a1:=X _ e1;have a2:=X _ e2;have n:=B3 (S+2*R+1);have e6:(2*(S+2*R+1))*(2*(S+2*R+1))=4*((S+2*R+1)*(S+2*R+1)):=by grind
  unfold sq2;omega
 have t:=tri (bv (by omega) (by omega)) (by omega) k1 k2;have e7:sq2 (G* -z+ -(2*mu*S-2*(G*R))) (I* -z+ -(2*L*S-2*(I*R)))=S*S*sq2 (G-2*mu) (I-2*L):=by
  rw[O];unfold sq2;grind
 rw[e7]at t;have k3:2*((S+1)*(z.natAbs:Int)+2*(S+2*R+1))<=S*(2*z.natAbs+11):=by
  have e8:(S+1)*(z.natAbs:Int)=S*z.natAbs+z.natAbs:=by grind
  have e9:S*(2*(z.natAbs:Int)+11)=2*(S*z.natAbs)+11*S:=by grind
  omega
 have k0:0<=(S+1)*(z.natAbs:Int):=bv (by omega) (by omega);have k4:=an (show 0<=2*((S+1)*(z.natAbs:Int)+2*(S+2*R+1)) by omega) k3;have T:2*((S+1)*(z.natAbs:Int)+2*(S+2*R+1))*(2*((S+1)*(z.natAbs:Int)+2*(S+2*R+1)))=4*(((S+1)*(z.natAbs:Int)+2*(S+2*R+1))*((S+1)*(z.natAbs:Int)+2*(S+2*R+1))):=by grind
 have U:S*(2*(z.natAbs:Int)+11)*(S*(2*(z.natAbs:Int)+11))=S*S*((2*(z.natAbs:Int)+11)*(2*(z.natAbs:Int)+11)):=by grind
 rw[T,U]at k4;have V:0<S*S:=gp M M;have k5:S*S*(4*sq2 (G-2*mu) (I-2*L))<=S*S*((2*(z.natAbs:Int)+11)*(2*(z.natAbs:Int)+11)):=by
  have a0:S*S*(4*sq2 (G-2*mu) (I-2*L))=4*(S*S*sq2 (G-2*mu) (I-2*L)):=by grind
  omega
 have:=Int.le_of_mul_le_mul_left k5 V;omega
theorem Z2p (x y m:Spk):4*sq2 (x.u-m.u) (x.w-m.w)=sq2 (x.u-y.u) (x.w-y.w)+sq2 (x.u+y.u-2*m.u) (x.w+y.w-2*m.w)+2*dt2 (x.u-y.u) (x.w-y.w) (x.u+y.u-2*m.u) (x.w+y.w-2*m.w)/\
  4*sq2 (m.u-y.u) (m.w-y.w)=sq2 (x.u-y.u) (x.w-y.w)+sq2 (x.u+y.u-2*m.u) (x.w+y.w-2*m.w)-2*dt2 (x.u-y.u) (x.w-y.w) (x.u+y.u-2*m.u) (x.w+y.w-2*m.w):=by
 constructor<;>(unfold sq2 dt2;grind)
theorem Z2v (p q x y:Int):4*dt2 p q x y<=sq2 p q+4*sq2 x y/\ -(4*dt2 p q x y)<=sq2 p q+4*sq2 x y:=by
 have D:=IR (p-2*x) (q-2*y);have G:=IR (p+2*x) (q+2*y);have e1:sq2 (p-2*x) (q-2*y)=sq2 p q+4*sq2 x y-4*dt2 p q x y:=by unfold sq2 dt2;grind
 have e2:sq2 (p+2*x) (q+2*y)=sq2 p q+4*sq2 x y+4*dt2 p q x y:=by unfold sq2 dt2;grind
 omega
theorem Z9i {x y:Spk} (G:Spo x) (I:Spo y) (h1:0<dt2 x.u x.w y.u y.w) (h2:0<crs x.u x.w y.u y.w*k) (h3:((x.r-y.r).natAbs:Int)<=33) (h4:32*mn x.r y.r-64<sq2 (x.u-y.u) (x.w-y.w)):
  16*sq2 (x.u-(AI x y k false).u) (x.w-(AI x y k false).w)<=9*sq2 (x.u-y.u) (x.w-y.w)/\16*sq2 ((AI x y k false).u-y.u) ((AI x y k false).w-y.w)<=9*sq2 (x.u-y.u) (x.w-y.w):=by
 have eM:BN x y k false=(x.u+y.u,x.w+y.w):=by
  unfold BN;rw[aa (by simp),ab ⟨h1,h2⟩]
 obtain⟨N,O⟩:=Q14 G.ok I.ok;have h0: ¬(x.u+y.u=0/\x.w+y.w=0):=by
  rintro⟨g1,g2⟩;have:dt2 x.u x.w y.u y.w=dt2 x.u x.w (x.u+y.u) (x.w+y.w)-sq2 x.u x.w:=by unfold dt2 sq2;grind
  rw[g1,g2]at this;have e0:dt2 x.u x.w 0 0=0:=by unfold dt2;simp
  have:=IR x.u x.w;omega
 obtain⟨-,s2⟩:=Lq G I N O h0;have hr:=Ma G I h3;obtain⟨S,T,U,V⟩:=QS N O;have q1:=B0 N;have q2:=B0 O;have D:=JP h0;have hn:sq2 (x.u+y.u) (x.w+y.w)<=20000000000000000:=by unfold sq2;omega
 obtain⟨X,Y⟩:=Iz (x.u+y.u) (x.w+y.w);have L:=hr.R5;have a0:=NV N (R:=hf x.r y.r) ⟨by omega,L.2⟩ ⟨D,hn⟩ X ⟨T,U,V⟩;have a3:=NV O (R:=hf x.r y.r) ⟨by omega,L.2⟩ ⟨D,hn⟩ Y ⟨T,U,V⟩;have M:AI x y k false=⟨AN (x.u+y.u) (hf x.r y.r) (sq2 (x.u+y.u) (x.w+y.w)),AN (x.w+y.w) (hf x.r y.r) (sq2 (x.u+y.u) (x.w+y.w)),hf x.r y.r,hf x.h y.h⟩:=by
  unfold AI;rw[eM];exact s2
 have hT:4*sq2 (x.u+y.u-2*(AI x y k false).u) (x.w+y.w-2*(AI x y k false).w)<=sq2 (x.u-y.u) (x.w-y.w):=by
  rw[M];simp only;have nx:=G.norm;have ny:=I.norm;have rx:=G.r;have ry:=I.r;have eS:=SI x y;have eD:=FP x y;have hm:=Q7h x.r y.r;have hR:2*hf x.r y.r=x.r+y.r\/2*hf x.r y.r=x.r+y.r+1:=by unfold hf;omega
  have t:=tri (p:=x.u) (q:=x.w) (x:=y.u) (y:=y.w) (a:=x.r+1) (b:=y.r+1) (by omega) (by omega) nx.2 ny.2;have a4:S<=x.r+1+(y.r+1):=Fg (by omega) (by omega);have k2:(2*hf x.r y.r-3)*(2*hf x.r y.r-3)<=2*(sq2 x.u x.w+sq2 y.u y.w):=by
   have a1:(2*hf x.r y.r-3)*(2*hf x.r y.r-3)<=(x.r-1+(y.r-1))*(x.r-1+(y.r-1)):=an (by omega) (by omega);have a2:=B3 (x.r-1-(y.r-1));have e1:(x.r-1+(y.r-1))*(x.r-1+(y.r-1))=2*((x.r-1)*(x.r-1))+2*((y.r-1)*(y.r-1))-(x.r-1-(y.r-1))*(x.r-1-(y.r-1)):=by grind
   omega
  refine Zga (R:=hf x.r y.r) (by omega) ⟨T,U,V⟩ (by omega) (Z8t (by omega) T (by omega)) (by omega) ?_ a0 a3;have e3:(2*hf x.r y.r-S-4)*(4*hf x.r y.r-(2*hf x.r y.r-S)-2)=(2*hf x.r y.r-3)*(2*hf x.r y.r-3)-(S+1)*(S+1):=by grind
  omega
 generalize AI x y k false=m at*;obtain⟨c1,c2⟩:=Z2p x y m;obtain⟨g1,g2⟩:=Z2v (x.u-y.u) (x.w-y.w) (x.u+y.u-2*m.u) (x.w+y.w-2*m.w);omega
def DV (P:Spk->Spk->Prop):Spk->List Spk->Prop
 |_,[]=>True
 |x,y::l=>P x y/\DV P y l
theorem Qpb {P:Spk->Spk->Prop} {m:Spk} {I:List Spk}:∀{x:Spk} {L:List Spk},DV P x (L++[m])->DV P m I->DV P x (L++[m]++I)
 |_,[],D,G=>⟨D.1,G⟩
 |_,_::_,D,G=>⟨D.1,Qpb D.2 G⟩
theorem Q2f {dir:Int}:∀(k:Nat) (bG:Bool) (a b:Spk),∃l,AK dir k bG a b=l++[b]
 |0,_,_,b=>⟨[],rfl⟩
 |k+1,bG,a,b=>by
  unfold AK;split
  ·exact⟨[],rfl⟩
  ·obtain⟨l,D⟩:=Q2f (dir:=dir) k false (AI a b dir bG) b;rw[D];exact⟨AK dir k false a (AI a b dir bG)++l,by rw[df]⟩
theorem M9 {P:Spk->Spk->Prop} {x m y:Spk} (D:DV P x (AK a i false x m)) (G:DV P m (AK a i false m y)):DV P x (AK a i false x m++AK a i false m y):=by
 obtain⟨l,I⟩:=Q2f (dir:=a) i false x m;rw[I]at D⊢;exact Qpb D G
structure Leaf (dir : Int) (x y : Spk) : Prop where
 lef:Spo x
 rig:Spo y
 turn:0<crs x.u x.w y.u y.w*dir
 flat:sq2 (x.u-y.u) (x.w-y.w)<=32*mn x.r y.r-64
theorem Z2 (a b:Int):mn a b<=mn a (hf a b)/\mn a b<=mn (hf a b) b:=by unfold hf mn;split<;>split<;>split<;>omega
theorem Qvg {p A B M D d e:Int} (G:128<=p) (I:(p-1)*(p-1)<=A) (L:(p-1)*(p-1)<=M) (N:2*(A+B)<=(2*(p+34))*(2*(p+34))) (O:D<A+B) (h:16*d<=9*D) (he:d=A+M-2*e):0<e:=by
 have e1:(2*(p+34))*(2*(p+34))=4*(p*p)+272*p+4624:=by grind
 have e2:(p-1)*(p-1)=p*p-2*p+1:=by grind
 have k:128*p<=p*p:=ax G (by omega);omega
theorem Lc {dir thr:Int} (V:dir=1\/dir= -1):∀(k:Nat) {x y:Spk},Spo x->Spo y->0<crs x.u x.w y.u y.w*dir->0<dt2 x.u x.w y.u y.w->((x.r-y.r).natAbs:Int)<=33->thr<=32*mn x.r y.r-64->9^k*sq2 (x.u-y.u) (x.w-y.w)<=16^k*thr->
  DV (Leaf dir) x (AK dir k false x y)
 |0,x,y,G,I,N,_,_,ht,Y=>by
  unfold AK;exact⟨⟨G,I,N,by simp at Y;omega⟩,trivial⟩
 |k+1,x,y,G,I,N,T,L,ht,Y=>by
  unfold AK;by_cases c:DE x y dir false
  ·rw[ab c];exact⟨⟨G,I,N,c.2.2⟩,trivial⟩
  ·rw[aa c];have D:32*mn x.r y.r-64<sq2 (x.u-y.u) (x.w-y.w):=by
    have: ¬sq2 (x.u-y.u) (x.w-y.w)<=32*mn x.r y.r-64:=λh=>c ⟨rfl,N,h⟩;omega
   obtain⟨m1,m2,m3,m4,m5⟩:=Q5d V G I T N L D;obtain⟨d1,d2⟩:=Z9i G I T N L D;have M:=Ma G I L;generalize AI x y dir false=m at*;obtain⟨f1,f2⟩:=Oy m2 (show((x.r-y.r).natAbs:Int)<=64 by omega);have X:=Z2 x.r y.r;rw[<-m2]at X;have U:sq2 (x.u-y.u) (x.w-y.w)<sq2 x.u x.w+sq2 y.u y.w:=by rw[FP];omega
   have hM:(mn x.r y.r-1)*(mn x.r y.r-1)<=sq2 m.u m.w:=by
    refine dw (an (by have:=M.m.2;omega) ?_) m1.norm.1;have:=M.R.1;rw[m2];omega
   have hS:2*(sq2 x.u x.w+sq2 y.u y.w)<=(2*(mn x.r y.r+34))*(2*(mn x.r y.r+34)):=M.S;have g1:0<dt2 x.u x.w m.u m.w:=Qvg M.m.2 M.A.1 hM hS U d1 (FP x m);have g2:0<dt2 m.u m.w y.u y.w:=Qvg (A:=sq2 y.u y.w) (B:=sq2 x.u x.w) M.m.2 M.A.2 hM (by rw[j8];exact hS) (by rw[j8];exact U) d2 (by rw[FP m y];omega);have key:∀O,16*O<=9*sq2 (x.u-y.u) (x.w-y.w)->9^k*O<=16^k*thr:=by
    intro O h;have p1:(0:Int)<=9^k:=Int.pow_nonneg (by omega);have h2:9^k*(16*O)<=9^k*(9*sq2 (x.u-y.u) (x.w-y.w)):=cg h p1;have e1:(9:Int)^k*(9*sq2 (x.u-y.u) (x.w-y.w))=9^(k+1)*sq2 (x.u-y.u) (x.w-y.w):=by rw[Int.pow_succ];grind
    have e2:(16:Int)^(k+1)*thr=16*(16^k*thr):=by rw[Int.pow_succ];grind
    have e3:(9:Int)^k*(16*O)=16*(9^k*O):=by grind
    omega
   exact M9 (Lc V k G m1 m4 g1 f1 (by omega) (key _ d1)) (Lc V k m1 I m5 g2 f2 (by omega) (key _ d2))
theorem Us {p q u w R S dir:Int} (D:dir=1\/dir= -1) (G:u.natAbs<=100000000) (I:w.natAbs<=100000000) (L:1<=R/\R<=50000000) (T: ¬(u=0/\w=0)) (M:0<=S/\S*S<=sq2 u w/\sq2 u w<(S+1)*(S+1)):
  2*R*(crs p q u w*dir)-(p.natAbs+q.natAbs)*(S+2*R+1)<=2*S*(crs p q (AN u R (sq2 u w)) (AN w R (sq2 u w))*dir):=by
 have N:=JP T;have b1:=B0 G;have b2:=B0 I;have O:sq2 u w<=20000000000000000:=by unfold sq2;omega
 obtain⟨U,V⟩:=Iz u w;have e1:=NV G ⟨by omega,L.2⟩ ⟨N,O⟩ U M;have e2:=NV I ⟨by omega,L.2⟩ ⟨N,O⟩ V M;generalize AN u R (sq2 u w)=a at*;generalize AN w R (sq2 u w)=b at*;have X:0<=S+2*R+1:=by omega
 generalize S+2*R+1=E at*;have m1:=UW (x:=p) (y:=(2*b*S-2*(w*R))*dir) (E:=E) (by rcases D with rfl|rfl<;>omega);have m2:=UW (x:= -q) (y:=(2*a*S-2*(u*R))*dir) (E:=E) (by rcases D with rfl|rfl<;>omega);have e3:((-q).natAbs:Int)=q.natAbs:=by omega
 rw[e3]at m2;have key:2*S*(crs p q a b*dir)=2*R*(crs p q u w*dir)+p*((2*b*S-2*(w*R))*dir)+ -q*((2*a*S-2*(u*R))*dir):=by unfold crs;grind
 rw[d7];omega
theorem Qsm {p R S n C X:Int} (D:128<=p) (L:p<=R/\R<=p+64) (M:0<=S/\S<=2*(p+65)) (N:0<=n/\n<=2*(p+65)) (G:(p-1)*(p-1)<=C) (O:0<X) (h:2*R*C-n*(S+2*R+1)<=2*S*X):28*p<=X:=by
 have k:n*(S+2*R+1)<=(4*p)*(7*p):=db (by omega) (by omega) (by omega) (by omega);have T:2*p*((p-1)*(p-1))<=2*R*C:=db (by omega) G (B3 _) (by omega);have U:2*S*X<=(8*p)*X:=ax (by omega) (by omega);have e1:(8*p)*X=(2*p)*(4*X):=by grind
 have e2:2*p*((p-1)*(p-1))-(4*p)*(7*p)=(2*p)*((p-1)*(p-1)-14*p):=by grind
 have I:(2*p)*((p-1)*(p-1)-14*p)<=(2*p)*(4*X):=by omega
 have V:=Int.le_of_mul_le_mul_left I (by omega);have e3:(p-1)*(p-1)=p*p-2*p+1:=by grind
 have Y:128*p<=p*p:=ax D (by omega);omega
theorem Q4b {p R S n C:Int} (G:128<=p) (I:p<=R/\R<=p+64) (L:0<=S/\S<=2*(p+65)) (M:0<=n/\n<=2*(p+65)) (D:16*p<=C):n*(S+2*R+1)<2*R*C:=by
 have k:n*(S+2*R+1)<=(4*p)*(7*p):=db (by omega) (by omega) (by omega) (by omega);have N:2*p*(16*p)<=2*R*C:=db (by omega) D (by omega) (by omega);have e1:2*p*(16*p)=32*(p*p):=by grind
 have e2:(4*p)*(7*p)=28*(p*p):=by grind
 have:0<p*p:=gp (by omega) (by omega);omega
theorem RO (a b c d:Int):dt2 a b c d=crs b (-a) c d*1:=by unfold dt2 crs;grind
theorem VM {x y:Spk} (hd:k=1\/k= -1) (hx:Spo x) (hy:Spo y) (N:((x.r-y.r).natAbs:Int)<=64) (h:dt2 x.u x.w y.u y.w<=0):
  28*mn x.r y.r<=crs x.u x.w (AI x y k false).u (AI x y k false).w*k/\28*mn x.r y.r<=crs (AI x y k false).u (AI x y k false).w y.u y.w*k/\
  (16*mn x.r y.r<=crs x.u x.w y.u y.w*k->0<dt2 x.u x.w (AI x y k false).u (AI x y k false).w/\0<dt2 (AI x y k false).u (AI x y k false).w y.u y.w):=by
 obtain⟨-,-,-,O,D⟩:=Ng hd hx hy N h;have L:=Ma hx hy N;have G:=PN hd;have eM:BN x y k false=(k*(y.w-x.w),k*(x.u-y.u)):=by
  unfold BN;rw[aa (by simp),aa (λg=>absurd h (Int.not_le.2 g.1)),aa (λg=>absurd h (Int.not_le.2 g))]
 have eN:sq2 (k*(y.w-x.w)) (k*(x.u-y.u))=sq2 (x.u-y.u) (x.w-y.w):=by
  have:sq2 (k*(y.w-x.w)) (k*(x.u-y.u))=k*k*sq2 (x.u-y.u) (x.w-y.w):=by unfold sq2;grind
  rw[this,G,ex]
 have eC:crs x.u x.w (k*(y.w-x.w)) (k*(x.u-y.u))*k=sq2 x.u x.w-dt2 x.u x.w y.u y.w:=by
  have:crs x.u x.w (k*(y.w-x.w)) (k*(x.u-y.u))*k=k*k*(sq2 x.u x.w-dt2 x.u x.w y.u y.w):=by unfold crs sq2 dt2;grind
  rw[this,G,ex]
 have a1:crs y.u y.w (k*(y.w-x.w)) (k*(x.u-y.u))* -k=sq2 y.u y.w-dt2 x.u x.w y.u y.w:=by
  have:crs y.u y.w (k*(y.w-x.w)) (k*(x.u-y.u))* -k=k*k*(sq2 y.u y.w-dt2 x.u x.w y.u y.w):=by unfold crs sq2 dt2;grind
  rw[this,G,ex]
 have eE:crs x.w (-x.u) (k*(y.w-x.w)) (k*(x.u-y.u))*1=crs x.u x.w y.u y.w*k:=by unfold crs;grind
 have a2:crs y.w (-y.u) (k*(y.w-x.w)) (k*(x.u-y.u))*1=crs x.u x.w y.u y.w*k:=by unfold crs;grind
 obtain⟨T,U⟩:=Qoa hx.ok hy.ok hd;have nS:=IR (x.u+y.u) (x.w+y.w);rw[SI]at nS;rw[FP]at eN;have hA:=L.A;have hp:=L.m.2;have hR:=L.R;have a3:2*(sq2 x.u x.w+sq2 y.u y.w)<=(2*(mn x.r y.r+65))*(2*(mn x.r y.r+65)):=L.S;have X:0<=(x.u.natAbs:Int)+x.w.natAbs/\(x.u.natAbs:Int)+x.w.natAbs<=2*(mn x.r y.r+65):=L.cx;have Y:0<=(y.u.natAbs:Int)+y.w.natAbs/\(y.u.natAbs:Int)+y.w.natAbs<=2*(mn x.r y.r+65):=L.cy;have I:=L.R5;have h0: ¬(k*(y.w-x.w)=0/\k*(x.u-y.u)=0):=by
  rintro⟨g1,g2⟩;rw[g1,g2]at eC;have e0:crs x.u x.w 0 0*k=0:=by unfold crs;simp
  rw[e0]at eC;have:0<(mn x.r y.r-1)*(mn x.r y.r-1):=gp (by omega) (by omega);omega
 obtain⟨-,s2⟩:=Lq hx hy T U h0;have a0:AI x y k false=⟨AN (k*(y.w-x.w)) (hf x.r y.r) (sq2 (k*(y.w-x.w)) (k*(x.u-y.u))),AN (k*(x.u-y.u)) (hf x.r y.r) (sq2 (k*(y.w-x.w)) (k*(x.u-y.u))),hf x.r y.r,hf x.h y.h⟩:=by
  unfold AI;rw[eM];exact s2
 clear L N G;generalize mn x.r y.r=p at*;obtain⟨S,M,r2,r3⟩:=QS T U;have hS:S<=2*(p+65):=Fg (by omega) (by omega);have t1:=Us (p:=x.u) (q:=x.w) hd T U I h0 ⟨M,r2,r3⟩;have t2:=Us (p:=y.u) (q:=y.w) (dir:= -k) (by omega) T U I h0 ⟨M,r2,r3⟩;rw[eC]at t1;rw[a1]at t2;have d1:=λV=>side (p:=x.w) (q:= -x.u) (dir:=1) (.inl rfl) T U I h0 ⟨M,r2,r3⟩ V;have d2:=λV=>side (p:=y.w) (q:= -y.u) (dir:=1) (.inl rfl) T U I h0 ⟨M,r2,r3⟩ V;rw[eE]at d1;rw[a2]at d2;rw[a0]at O D⊢;simp only at O D⊢;rw[Q9k (AN (k*(y.w-x.w)) (hf x.r y.r) (sq2 (k*(y.w-x.w)) (k*(x.u-y.u))))]at D⊢;have n1:((-x.u).natAbs:Int)=x.u.natAbs:=by omega
 have n2:((-y.u).natAbs:Int)=y.u.natAbs:=by omega
 rw[n1,j8 (x.w.natAbs:Int)]at d1;rw[n2,j8 (y.w.natAbs:Int)]at d2;refine⟨Qsm hp hR ⟨M,hS⟩ X (by omega) O t1,Qsm hp hR ⟨M,hS⟩ Y (by omega) D t2,λV=>⟨?_,?_⟩⟩
 ·rw[RO];exact d1 (Q4b hp hR ⟨M,hS⟩ X V)
 ·have e9:∀a b c d:Int,dt2 a b c d=dt2 c d a b:=λa b c d=>by unfold dt2;grind
  rw[e9,RO];exact d2 (Q4b hp hR ⟨M,hS⟩ Y V)
theorem Q1h (M:a=1\/a= -1) (k:Nat) {x y:Spk} (G:Spo x) (I:Spo y) (N:((x.r-y.r).natAbs:Int)<=33) (hX:16*mn x.r y.r<=crs x.u x.w y.u y.w*a) (ht:u<=32*mn x.r y.r-64)
  (X:(x.r+1)*(x.r+1)<=b/\(y.r+1)*(y.r+1)<=b) (Y:9^k*(2*b)<=16^k*u) (h2:9^(k+1)*(2*b)<=16^(k+1)*u):DV (Leaf a) x (AK a (k+1) false x y):=by
 have hr:=Ma G I N;have a0:=hr.m.2;have O:0<crs x.u x.w y.u y.w*a:=by omega
 have nx:=G.norm;have ny:=I.norm;have mono:∀(j:Nat) (D:Int),D<=2*b->9^j*(2*b)<=16^j*u->9^j*D<=16^j*u:=λj D hD h=>by
  have:(9:Int)^j*D<=9^j*(2*b):=cg hD (Int.pow_nonneg (by omega));omega
 by_cases T:0<dt2 x.u x.w y.u y.w
 ·refine Lc M (k+1) G I O T N ht (mono _ _ ?_ h2);rw[FP];omega
 ·have L:((x.r-y.r).natAbs:Int)<=64:=by omega
  obtain⟨m1,m2,m3,m4,m5⟩:=Ng M G I L (by omega);obtain⟨-,-,a3⟩:=VM M G I L (by omega);obtain⟨g1,g2⟩:=a3 hX;unfold AK;by_cases c:DE x y a false
  ·rw[ab c];exact⟨⟨G,I,O,c.2.2⟩,trivial⟩
  rw[aa c];generalize AI x y a false=m at*;obtain⟨f1,f2⟩:=Oy m2 L;have U:=Z2 x.r y.r;rw[<-m2]at U;have a1:sq2 m.u m.w<=b:=by
   have V:=(NY x.r y.r).2;rw[<-m2]at V;have h4:=m1.norm.2;have h5:=m1.r;have:(m.r+1)*(m.r+1)<=b:=by
    unfold mx at V;split at V
    ·exact dw (an (by omega) (by omega)) X.2
    ·exact dw (an (by omega) (by omega)) X.1
   omega
  exact M9 (Lc M k G m1 m4 g1 f1 (by omega) (mono _ _ (by rw[FP];omega) Y)) (Lc M k m1 I m5 g2 f2 (by omega) (mono _ _ (by rw[FP];omega) Y))
theorem Q5w (M:(2*u).natAbs<=100000000) (I:1<=R/\R<=50000000) (T:u*u<=R*R):AN (2*u) R (4*(R*R))=u:=by
 have U:0<R*R:=gp (by omega) (by omega);have N:R*R<=50000000*50000000:=an (by omega) I.2;have G:(2*u)*(2*u)<=4*(R*R):=by
  have:(2*u)*(2*u)=4*(u*u):=by grind
  omega
 obtain⟨j,e,D,L,V⟩:=Qo M ⟨by omega,I.2⟩ ⟨by omega,by omega⟩ G;have O:((2*u).natAbs:Int)=2*u.natAbs:=by omega
 rw[O]at D L;have X:(j:Int)<=u.natAbs:=by
  rcases D with D|D
  ·omega
  ·have:(2*(j:Int)-1)*(2*R)<=2*(2*u.natAbs*R):=by
    refine Fg (bv (by omega) (bv (by omega) (by omega))) (dw (js ?_) D)
    grind
   have e3:2*(2*(u.natAbs:Int)*R)=2*(u.natAbs:Int)*(2*R):=by grind
   rw[e3]at this;have:=fq this (by omega);omega
 have Y:(u.natAbs:Int)<=j:=by
  have:2*(2*(u.natAbs:Int)*R)<=(2*(j:Int)+1)*(2*R):=by
   refine Fg (bv (by omega) (by omega)) (dw L (js ?_))
   grind
  have e3:2*(2*(u.natAbs:Int)*R)=2*(u.natAbs:Int)*(2*R):=by grind
  rw[e3]at this;have:=fq this (by omega);omega
 rw[e];split<;>omega
theorem Za1 (D:128<=R) (G:0<=S) (I:S*S<=2*(R*R)) (h:2*R*(R*R)-2*(R+1)*(S+2*R+1)<=2*S*a) (L:0<a):R*R<=2*a:=by
 by_cases c:R*R<=2*a
 ·exact c
 ·exfalso;have s2:2*S<=3*R:=by
   refine Fg (by omega) ?_;have e1:2*S*(2*S)=4*(S*S):=by grind
   have e2:3*R*(3*R)=9*(R*R):=by grind
   have:=B3 R;omega
  have M:2*S*a<=S*(R*R):=by
   have:S*(2*a)<=S*(R*R):=cg (by omega) G;have e:2*S*a=S*(2*a):=by grind
   omega
  have N:S*(R*R)*2<=3*R*(R*R):=by
   have:2*S*(R*R)<=3*R*(R*R):=ax s2 (B3 R);have e:S*(R*R)*2=2*S*(R*R):=by grind
   omega
  have O:2*(2*(R+1)*(S+2*R+1))<=2*(R+1)*(7*R+2):=by
   have:2*(R+1)*(2*(S+2*R+1))<=2*(R+1)*(7*R+2):=cg (by omega) (by omega);have e:2*(2*(R+1)*(S+2*R+1))=2*(R+1)*(2*(S+2*R+1)):=by grind
   omega
  have e1:2*R*(R*R)*2=4*(R*R*R):=by grind
  have e2:3*R*(R*R)=3*(R*R*R):=by grind
  have e3:2*(R+1)*(7*R+2)=14*(R*R)+18*R+4:=by grind
  have T:128*(R*R)<=R*R*R:=by
   have:=ax D (B3 R);have e:R*(R*R)=R*R*R:=by grind
   omega
  have U:128*R<=R*R:=ax D (by omega);omega
def JA (dir:Int):Spk->List Spk->Prop
 |_,[]=>True
 |x,y::l=>DE x y dir false/\JA dir y l
theorem Qz2 {dir:Int} {m:Spk} {D:List Spk}:∀{x:Spk} {l:List Spk},JA dir x (l++[m]++D)->JA dir x (l++[m])/\JA dir m D
 |x,[],h=>by
  have h:JA dir x (m::D):=h;exact⟨⟨h.1,trivial⟩,h.2⟩
 |x,y::l,h=>by
  have h:JA dir x (y::(l++[m]++D)):=h;have:=Qz2 (x:=y) (l:=l) h.2;exact⟨⟨h.1,this.1⟩,this.2⟩
theorem Q9i {dir:Int}:∀(k:Nat) (bG:Bool) (a b:Spk),∃l,AK dir k bG a b=l++[b]
 |0,_,_,b=>⟨[],rfl⟩
 |k+1,bG,a,b=>by
  unfold AK;split
  ·exact⟨[],rfl⟩
  ·obtain⟨l,D⟩:=Q9i (dir:=dir) k false (AI a b dir bG) b;rw[D];exact⟨AK dir k false a (AI a b dir bG)++l,by rw[df]⟩
theorem R3 {dir:Int}:∀(k m:Nat) (bG:Bool) (a b:Spk),(bG=true->1<=k)->JA dir a (AK dir k bG a b)->AK dir (k+m) bG a b=AK dir k bG a b
 |0,0,_,_,_,_,_=>rfl
 |0,m+1,bG,a,b,hf,h=>by
  have h:JA dir a [b]:=h;have I:bG=false:=by
   cases bG
   ·rfl
   ·have:=hf rfl;omega
  subst I;show AK dir (0+m+1) false a b=[b];unfold AK;rw[ab h.1]
 |k+1,m,bG,a,b,_,h=>by
  rw[show k+1+m=k+m+1 by omega];unfold AK at h⊢;by_cases c:DE a b dir bG
  ·rw[ab c,ab c]
  ·rw[aa c]at h⊢;rw[aa c];obtain⟨l,D⟩:=Q9i (dir:=dir) k false a (AI a b dir bG);rw[D]at h;obtain⟨G,L⟩:=Qz2 h;rw[<-D]at G;rw[R3 k m false _ _ (λq=>by cases q) G,R3 k m false _ _ (λq=>by cases q) L]
theorem Z8r {dir thr N:Int} (O:dir=1\/dir= -1) (k:Nat) {x y:Spk} (G:Spo x) (I:Spo y) (D:((x.r-y.r).natAbs:Int)<=64) (L:dt2 x.u x.w y.u y.w<=0) (ht:thr<=32*mn x.r y.r-64)
  (T:(x.r+1)*(x.r+1)<=N/\(y.r+1)*(y.r+1)<=N) (X:9^k*(2*N)<=16^k*thr) (Y:9^(k+1)*(2*N)<=16^(k+1)*thr):DV (Leaf dir) x (AK dir (k+2) false x y):=by
 have hr:=Ma G I D;have a0:=hr.m.2;obtain⟨m1,m2,m3,m4,m5⟩:=Ng O G I D L;obtain⟨a1,a2,-⟩:=VM O G I D L;rw[AK];by_cases c:DE x y dir false
 ·rw[ab c];exact⟨⟨G,I,c.2.1,c.2.2⟩,trivial⟩
 rw[aa c];generalize AI x y dir false=m at*;obtain⟨f1,f2⟩:=Oy m2 D;have U:=Z2 x.r y.r;rw[<-m2]at U;have a3:mn x.r m.r<=mn x.r y.r+64/\mn m.r y.r<=mn x.r y.r+64:=by
  have:=hr.R;rw[<-m2]at this;unfold mn at*;split at* <;>split at* <;>split at* <;>omega
 have M:(m.r+1)*(m.r+1)<=N:=by
  have V:=(NY x.r y.r).2;rw[<-m2]at V;have h5:=m1.r;unfold mx at V;split at V
  ·exact dw (an (by omega) (by omega)) T.2
  ·exact dw (an (by omega) (by omega)) T.1
 exact M9 (Q1h O k G m1 f1 (by omega) (by omega) ⟨T.1,M⟩ X Y) (Q1h O k m1 I f2 (by omega) (by omega) ⟨M,T.2⟩ X Y)
theorem Q2e (V:a=1\/a= -1) (k:Nat) {x y:Spk} (L:Spo x) (X:Spo y) (G:x.r=R) (I:y.r=R) (sx:sq2 x.u x.w=R*R) (sy:sq2 y.u y.w=R*R) (a2:dt2 x.u x.w y.u y.w=0) (hX:crs x.u x.w y.u y.w*a=R*R)
  (a4:9^k*((R+1)*(R+1))<=16^k*(32*R-64)):DV (Leaf a) x (AK a (k+1) false x y):=by
 have hR:=L.r;rw[G]at hR;have O:((x.r-y.r).natAbs:Int)<=64:=by rw[G,I];omega
 have a5:mn x.r y.r=R:=by rw[G,I];unfold mn;split<;>rfl
 have T:hf x.r y.r=R:=by rw[G,I];unfold hf;omega
 have b0:128*R<=R*R:=ax hR (by omega);obtain⟨m1,m2,m3,m4,m5⟩:=Ng V L X O (by omega);obtain⟨-,-,a3⟩:=VM V L X O (by omega);obtain⟨g1,g2⟩:=a3 (by rw[a5,hX];omega);rw[AK];by_cases c:DE x y a false
 ·rw[ab c];exact⟨⟨L,X,c.2.1,c.2.2⟩,trivial⟩
 rw[aa c]
 have a6:=PN V;have eM:BN x y a false=(a*(y.w-x.w),a*(x.u-y.u)):=by
  unfold BN;rw[aa (by simp),aa (λg=>by omega),aa (λg=>by omega)]
 have eN:sq2 (a*(y.w-x.w)) (a*(x.u-y.u))=2*(R*R):=by
  have:sq2 (a*(y.w-x.w)) (a*(x.u-y.u))=a*a*sq2 (x.u-y.u) (x.w-y.w):=by unfold sq2;grind
  rw[this,a6,ex,FP,sx,sy,a2];omega
 have eE:crs x.w (-x.u) (a*(y.w-x.w)) (a*(x.u-y.u))*1=R*R:=by
  rw[<-hX];unfold crs;grind
 have a7:crs y.w (-y.u) (a*(y.w-x.w)) (a*(x.u-y.u))*1=R*R:=by
  rw[<-hX];unfold crs;grind
 obtain⟨hu,hw⟩:=Qoa L.ok X.ok V;have h0: ¬(a*(y.w-x.w)=0/\a*(x.u-y.u)=0):=by
  rintro⟨q1,Y⟩;rw[q1,Y]at eN;have:sq2 0 0=0:=rfl;omega
 obtain⟨-,s2⟩:=Lq L X hu hw h0;have N:AI x y a false=⟨AN (a*(y.w-x.w)) R (sq2 (a*(y.w-x.w)) (a*(x.u-y.u))),AN (a*(x.u-y.u)) R (sq2 (a*(y.w-x.w)) (a*(x.u-y.u))),R,hf x.h y.h⟩:=by
  unfold AI;rw[eM];rw[T]at s2;exact s2
 obtain⟨S,r1,r2,r3⟩:=QS hu hw;have a0:1<=R/\R<=50000000:=⟨by omega,by have:=L.ok.2.2.1.2;omega⟩;have cx:=Um (M:=R) (by omega) (show sq2 x.u x.w<=R*R by omega);have cy:=Um (M:=R) (by omega) (show sq2 y.u y.w<=R*R by omega);have q1:=Us (p:=x.w) (q:= -x.u) (dir:=1) (.inl rfl) hu hw a0 h0 ⟨r1,r2,r3⟩;have Y:=Us (p:=y.w) (q:= -y.u) (dir:=1) (.inl rfl) hu hw a0 h0 ⟨r1,r2,r3⟩;rw[eE,<-RO]at q1;rw[a7,<-RO]at Y;have a8:(AI x y a false).u=AN (a*(y.w-x.w)) R (sq2 (a*(y.w-x.w)) (a*(x.u-y.u))):=by rw[N]
 have a9:(AI x y a false).w=AN (a*(x.u-y.u)) R (sq2 (a*(y.w-x.w)) (a*(x.u-y.u))):=by rw[N]
 rw[<-a8,<-a9]at q1 Y;rw[eN]at r2;have hM:=m1.norm.2;rw[m2,T]at hM;have n1:((-x.u).natAbs:Int)=x.u.natAbs:=by omega
 have n2:((-y.u).natAbs:Int)=y.u.natAbs:=by omega
 rw[n1]at q1;rw[n2]at Y;have b1:((x.w.natAbs:Int)+x.u.natAbs)*(S+2*R+1)<=2*(R+1)*(S+2*R+1):=ax (by omega) (by omega);have b2:((y.w.natAbs:Int)+y.u.natAbs)*(S+2*R+1)<=2*(R+1)*(S+2*R+1):=ax (by omega) (by omega);have U:dt2 y.u y.w (AI x y a false).u (AI x y a false).w=dt2 (AI x y a false).u (AI x y a false).w y.u y.w:=by unfold dt2;grind
 rw[U]at Y;have t1:=Za1 hR r1 r2 (by omega) g1;have t2:=Za1 hR r1 r2 (by omega) g2;generalize AI x y a false=m at*;obtain⟨f1,f2⟩:=Oy m2 O;have a1:m.r=R:=by rw[m2,T]
 have p9:(0:Int)<=9^k:=Int.pow_nonneg (by omega);have key:∀D:Int,D<=(R+1)*(R+1)->9^k*D<=16^k*(32*R-64):=λD hD=>dw (cg hD p9) a4;refine M9 (Lc (thr:=32*R-64) V k L m1 m4 g1 f1 (by rw[G,a1];unfold mn;split<;>omega) (key _ (by rw[FP];omega))) (Lc (thr:=32*R-64) V k m1 X m5 g2 f2 (by rw[I,a1];unfold mn;split<;>omega) (key _ (by rw[FP];omega)))
theorem Qw1 (N:v=1\/v= -1) (k:Nat) {x y:Spk} (Y:Spo x) (hy:Spo y) (L:x.r=R) (O:y.r=R) (M:sq2 x.u x.w=R*R) (D:y.u= -x.u/\y.w= -x.w)
  (T:9^k*((R+1)*(R+1))<=16^k*(32*R-64)):DV (Leaf v) x (AK v (k+2) false x y):=by
 have hR:=Y.r;rw[L]at hR;have a3:0<R*R:=gp (by omega) (by omega);have a4:dt2 x.u x.w y.u y.w= -(R*R):=by rw[D.1,D.2,<-M];unfold dt2 sq2;grind
 have a0:crs x.u x.w y.u y.w=0:=by rw[D.1,D.2];unfold crs;grind
 have a1:hf x.r y.r=R:=by rw[L,O];unfold hf;omega
 rw[AK,aa (λc:DE x y v false=>by have:=c.2.1;rw[a0]at this;simp at this)];have hb:=Y.ok;have eM:BN x y v false=(2*(-(v*x.w)),2*(v*x.u)):=by
  unfold BN;rw[aa (by simp),aa (λg=>by omega),aa (λg=>by omega),D.1,D.2];congr 1<;>grind
 have G:=PN N;have eN:sq2 (2*(-(v*x.w))) (2*(v*x.u))=4*(R*R):=by
  have:sq2 (2*(-(v*x.w))) (2*(v*x.u))=4*(v*v*sq2 x.u x.w):=by unfold sq2;grind
  rw[this,G,ex,M]
 have h0: ¬(2*(-(v*x.w))=0/\2*(v*x.u)=0):=by
  rintro⟨q1,q2⟩;rw[q1,q2]at eN;have:sq2 0 0=0:=rfl;omega
 have bu:(2*(-(v*x.w))).natAbs<=100000000:=by have:=hb.2.1;rcases N with rfl|rfl<;>omega
 have bw:(2*(v*x.u)).natAbs<=100000000:=by have:=hb.1;rcases N with rfl|rfl<;>omega
 obtain⟨s1,s2⟩:=Lq Y hy bu bw h0;obtain⟨c1,c2⟩:=Iz x.u x.w;have U:1<=R/\R<=50000000:=⟨by omega,by have:=hb.2.2.1.2;omega⟩;have I:∀z:Int,(v*z)*(v*z)=z*z:=λz=>by
  have:(v*z)*(v*z)=v*v*(z*z):=by grind
  rw[this,G,ex]
 have a2: -(v*x.w)* -(v*x.w)<=R*R:=by
  have h1:=I x.w;have e: -(v*x.w)* -(v*x.w)=(v*x.w)*(v*x.w):=by grind
  omega
 have n1:=Q5w (u:= -(v*x.w)) (R:=R) bu U a2;have n2:=Q5w (u:=v*x.u) (R:=R) bw U (by have:=I x.u;omega);rw[a1,eN,n1,n2]at s2;have V:AI x y v false=Dg x y (2*(-(v*x.w))) (2*(v*x.u)):=by unfold AI;rw[eM]
 rw[V];generalize Dg x y (2*(-(v*x.w))) (2*(v*x.u))=m at*;have mu:m.u= -(v*x.w):=by rw[s2]
 have X:m.w=v*x.u:=by rw[s2]
 have mr:m.r=R:=by rw[s2]
 have sm:sq2 m.u m.w=R*R:=by
  rw[mu,X,<-M];unfold sq2;have a:=I x.u;have b:=I x.w;have e: -(v*x.w)* -(v*x.w)=(v*x.w)*(v*x.w):=by grind
  omega
 have sy:sq2 y.u y.w=R*R:=by rw[D.1,D.2,<-M];unfold sq2;grind
 refine M9 (Q2e N k Y s1 L mr M sm ?_ ?_ T) (Q2e N k s1 hy mr O sm sy ?_ ?_ T)
 ·rw[mu,X];unfold dt2;grind
 ·rw[mu,X,<-M];have:crs x.u x.w (-(v*x.w)) (v*x.u)*v=v*v*sq2 x.u x.w:=by unfold crs sq2;grind
  rw[this,G,ex]
 ·rw[mu,X,D.1,D.2];unfold dt2;grind
 ·rw[mu,X,D.1,D.2,<-M];have:crs (-(v*x.w)) (v*x.u) (-x.u) (-x.w)*v=v*v*sq2 x.u x.w:=by unfold crs sq2;grind
  rw[this,G,ex]
theorem Zw7 (Y:a=1\/a= -1) (k:Nat) {x y:Spk} (N:Spo x) (hy:Spo y) (D:x.r=R) (G:y.r=R) (sx:sq2 x.u x.w=R*R) (I:y.u=x.u/\y.w=x.w)
  (L:9^k*((R+1)*(R+1))<=16^k*(32*R-64)):DV (Leaf a) x (AK a (k+3) true x y):=by
 have hR:=N.r;rw[D]at hR;have a0:0<R*R:=gp (by omega) (by omega);rw[AK,aa (λc:DE x y a true=>by cases c.1)];have hb:=N.ok;have O:sq2 (-x.u) (-x.w)=R*R:=by rw[<-sx];unfold sq2;grind
 have h0: ¬(-x.u=0/\ -x.w=0):=by
  rintro⟨T,U⟩;rw[T,U]at O;have:sq2 0 0=0:=rfl;omega
 obtain⟨s1,s2⟩:=Lq N hy (u:= -x.u) (w:= -x.w) (by have:=hb.1;omega) (by have:=hb.2.1;omega) h0;obtain⟨T,U⟩:=Iz (-x.u) (-x.w);rw[O]at T U;have V:hf x.r y.r=R:=by rw[D,G];unfold hf;omega
 have M:1<=R/\R<=50000000:=⟨by omega,by have:=hb.2.2.1.2;omega⟩;have n1:=U7 (u:= -x.u) (R:=R) (by have:=hb.1;omega) M T;have n2:=U7 (u:= -x.w) (R:=R) (by have:=hb.2.1;omega) M U;rw[V,O,n1,n2]at s2;have eM:AI x y a true=Dg x y (-x.u) (-x.w):=by
  unfold AI BN;rw[ab rfl]
 rw[eM];generalize Dg x y (-x.u) (-x.w)=m at*;have mu:m.u= -x.u:=by rw[s2]
 have X:m.w= -x.w:=by rw[s2]
 have mr:m.r=R:=by rw[s2]
 have sm:sq2 m.u m.w=R*R:=by rw[mu,X];exact O
 exact M9 (Qw1 Y k N s1 D mr sx ⟨mu,X⟩ L) (Qw1 Y k s1 hy mr G sm ⟨by rw[I.1,mu];omega,by rw[I.2,X];omega⟩ L)
theorem Xr {dir:Int}:∀{x:Spk} {l:List Spk},DV (Leaf dir) x l->JA dir x l
 |_,[],_=>trivial
 |_,_::_,h=>⟨⟨rfl,h.1.turn,h.1.flat⟩,Xr h.2⟩
theorem Qzm {Q:Spk->Prop}:∀{x:Spk} {l:List Spk},Q x->(∀q∈l,Q q)->DV (λa b=>Q a/\Q b) x l
 |_,[],_,_=>trivial
 |_,y::_,G,D=>⟨⟨G,D y (by simp)⟩,Qzm (D y (by simp)) λq I=>D q (by simp[I])⟩
theorem Qzw {P Q:Spk->Spk->Prop}:∀{x:Spk} {l:List Spk},DV P x l->DV Q x l->DV (λa b=>P a b/\Q a b) x l
 |_,[],_,_=>trivial
 |_,_::_,h,g=>⟨⟨h.1,g.1⟩,Qzw h.2 g.2⟩
theorem Zz0 (h:128<=a/\a<=k/\k<=a+64) (D:a<=240):(9:Int)^6*(2*((k+1)*(k+1)))<=16^6*(32*a-64)/\(9:Int)^(6+1)*(2*((k+1)*(k+1)))<=16^(6+1)*(32*a-64)/\(9:Int)^5*((a+1)*(a+1))<=16^5*(32*a-64):=by
 have T:(k+1)*(k+1)<=(a+65)*(a+65):=an (by omega) (by omega);have e1:(a+65)*(a+65)=a*a+130*a+4225:=by grind
 have e2:(a+1)*(a+1)=a*a+2*a+1:=by grind
 have U:a*a<=240*a:=ax D (by omega);have G:(9:Int)^6=531441:=by decide
 have I:(16:Int)^6=16777216:=by decide
 have L:(9:Int)^(6+1)=4782969:=by decide
 have M:(16:Int)^(6+1)=268435456:=by decide
 have N:(9:Int)^5=59049:=by decide
 have O:(16:Int)^5=1048576:=by decide
 rw[G,I,L,M,N,O];omega
theorem Zbo {it:Itm} (h:ArcMade 8 it) {R0 R1:Int} (he:ArcEnds it R0 R1):R0<=240:=by
 obtain⟨r,k,t,g,x,N,O,T,U,V,X,Y,h8,h9,I,L,D,M⟩:=h.ends;have G:=h.aG;have a1:dU it it.fr=AX r k:=by unfold dU;rw[D,(DD G).1];omega
 have a2:dW it it.fr=AY r k:=by unfold dW;rw[D,(DD G).2.1];omega
 have e1:sq2 (dU it it.fr*16) (dW it it.fr*16)=(16*r)*(16*r):=by
  have:sq2 (dU it it.fr*16) (dW it it.fr*16)=256*sq2 (dU it it.fr) (dW it it.fr):=by unfold sq2;grind
  rw[this,a1,a2,Q1];grind
 have:(AE it it.fr).r=16*r:=by unfold AE;simp only;rw[e1,Yq (by omega)]
 have:=he.ra.1;omega
theorem Zc7 {it:Itm} (U:it.dir=1\/it.dir= -1) (h:ArcEnds it a k) (V:a<=240):(AK it.dir 16 it.bG (AE it it.fr) (AE it it.to)).length<=256/\DV (Leaf it.dir) (AE it it.fr) (AK it.dir 16 it.bG (AE it it.fr) (AE it it.to)):=by
 have hle:=h.le;have D:=h.ra;have G:=h.rb;obtain⟨X,Y,n3⟩:=Zz0 hle V;by_cases hf:it.bG=true
 ·have g:=h.bG hf;rw[hf];have I:=Zw7 U 5 h.a h.b D.1 (by rw[G.1,g.2.2]) D.2 ⟨g.1,g.2.1⟩ n3;have e:=R3 8 8 true (AE it it.fr) (AE it it.to) (λ_=>by omega) (Xr I);rw[show(16:Nat)=8+8 from rfl,e];exact⟨(Pe 8 true _ _).2,I⟩
 ·have L:it.bG=false:=by simpa using hf
  have M:=h.part L;have O:(((AE it it.fr).r-(AE it it.to).r).natAbs:Int)<=64:=by rw[D.1,G.1];omega
  rw[L];have T:(a+1)*(a+1)<=(k+1)*(k+1):=an (by omega) (by omega);have I:=Z8r (thr:=32*a-64) (N:=(k+1)*(k+1)) U 6 h.a h.b O M (by rw[D.1,G.1];unfold mn;split<;>omega) ⟨by rw[D.1];exact T,by rw[G.1];exact cz _⟩ X Y;have e:=R3 8 8 false (AE it it.fr) (AE it it.to) (λq=>by cases q) (Xr I);rw[show(16:Nat)=8+8 from rfl,e];exact⟨(Pe 8 false _ _).2,I⟩
theorem Q3z (G:bd 67108864 d) (hb:bd 67108864 q) {n:Int} (I:0<=n) (h:sqD d q<=n*n):Ay d q<=n:=by
 obtain⟨L,M,D⟩:=Ni G hb;rcases D with D|D
 ·omega
 ·apply dk;intro c;have:=an (a:=n) (b:=Ay d q-1) I (by omega);omega
theorem Zj7 (pl u w h D w' h':Int):sqD (spP pl u w h) (spP pl D w' h')=sq2 (u-D) (w-w')+(h-h')*(h-h'):=by
 unfold spP;split
 ·unfold sqD Gg E6 sq2;dsimp only
 ·split
  ·unfold sqD Gg E6 sq2;dsimp only;omega
  ·unfold sqD Gg E6 sq2;dsimp only;omega
theorem Zgx {it:Itm} {x y:Spk} (h:Leaf it.dir x y) (D:bd 67108864 (CQ it x)) (G:bd 67108864 (CQ it y)) (I:mn x.r y.r<=304) (L: -192<=x.h-y.h/\x.h-y.h<=192):Ay (CQ it x) (CQ it y)<=216:=by
 have hf:=h.flat;have M:(x.h-y.h)*(x.h-y.h)<=192*192:=by
  have:0<=(192-(x.h-y.h))*(192+(x.h-y.h)):=bv (by omega) (by omega);have e:(192-(x.h-y.h))*(192+(x.h-y.h))=192*192-(x.h-y.h)*(x.h-y.h):=by grind
  omega
 refine Q3z D G (by omega) ?_;unfold CQ;rw[Zj7];have e1:plU it.aG (Aq it.ce)+x.u-(plU it.aG (Aq it.ce)+y.u)=x.u-y.u:=by omega
 have e2:plW it.aG (Aq it.ce)+x.w-(plW it.aG (Aq it.ce)+y.w)=x.w-y.w:=by omega
 rw[e1,e2];omega
def stD (M:Int):Pt->List Pt->Prop
 |_,[]=>True
 |p,q::l=>Ay p q<=M/\stD M q l
theorem Qhx {aU aZ aX M:Int} (G:0<=M):∀(l:List Pt) (s:List Sgm×Int×Pt),stD M s.2.2 l->
  (l.foldl (AU aU aZ aX) s).2.1<=s.2.1+M*l.length/\((l.foldl (AU aU aZ aX) s).1.length:Int)<=s.1.length+l.length
 |[],s,_=>by simp
 |q::l,s,h=>by
  have e1:M*(((q::l).length:Nat):Int)=M*l.length+M:=by
   rw[bp];have:((l.length+1:Nat):Int)=(l.length:Int)+1:=by omega
   rw[this,jo,Int.mul_one]
  rw[dv,e1];by_cases c:q=s.2.2
  ·have e:AU aU aZ aX s q=s:=by unfold AU;rw[ab c]
   rw[e];have I:stD M s.2.2 l:=by rw[<-c];exact h.2
   have D:=Qhx (aU:=aU) (aZ:=aZ) (aX:=aX) G l s I;rw[bp];omega
  ·have e:AU aU aZ aX s q=(s.1++[⟨q,Ay s.2.2 q,aU,aZ,aX⟩],s.2.1+Ay s.2.2 q,q):=by unfold AU;rw[aa c]
   rw[e];have D:=Qhx (aU:=aU) (aZ:=aZ) (aX:=aX) G l (s.1++[⟨q,Ay s.2.2 q,aU,aZ,aX⟩],s.2.1+Ay s.2.2 q,q) h.2;have L:=h.1;dsimp only at D;rw[aq,dh]at D;rw[bp];omega
theorem Q1y {P:Spk->Spk->Prop} {f:Spk->Pt} {M:Int} (h:∀x y,P x y->Ay (f x) (f y)<=M):∀{x:Spk} {l:List Spk},DV P x l->stD M (f x) (l.map f)
 |_,[],_=>trivial
 |_,_::_,g=>⟨h _ _ g.1,Q1y h g.2⟩
theorem Zb6 {it:Itm} (h:ArcMade 8 it): -192<=(AE it it.to).h-(AE it it.fr).h/\(AE it it.to).h-(AE it it.fr).h<=192:=by
 obtain⟨r,k,t,g,x,N,O,T,U,V,X,Y,h8,h9,G,I,L,D⟩:=h.ends;have M:=h.aG;have e:plH it.aG it.to=plH it.aG it.fr+x:=by rw[D,(DD M).2.2]
 show-192<=plH it.aG it.to*16-plH it.aG it.fr*16/\plH it.aG it.to*16-plH it.aG it.fr*16<=192;rw[e];omega
theorem Zsp {it:Itm} (h:ArcMade 8 it) (N:CE it):(Bv it).length<=257/\stD 216 (CQ it (AE it it.fr)) ((AK it.dir 16 it.bG (AE it it.fr) (AE it it.to)).map (CQ it))/\
  Bv it=CQ it (AE it it.fr)::(AK it.dir 16 it.bG (AE it it.fr) (AE it it.to)).map (CQ it):=by
 obtain⟨R0,R1,he⟩:=Zho h N;have V:=Zbo h he;have hle:=he.le;have hh:=Zb6 h;have O:Bv it=CQ it (AE it it.fr)::(AK it.dir 16 it.bG (AE it it.fr) (AE it it.to)).map (CQ it):=by
  unfold Bv CJ;rw[ab h.aP,bj]
 obtain⟨n1,X⟩:=Zc7 h.dir he V;have D:∀q∈CJ it,bd 67108864 (CQ it q):=λq G=>Tf N _ (by unfold Bv;rw[ab h.aP];exact bc.2 ⟨q,G,rfl⟩);have I:=Zd3 h.dir he;have Y:=Qzm (Q:=λq=>Btw (AE it it.fr) (AE it it.to) q/\bd 67108864 (CQ it q)) (x:=AE it it.fr) (l:=AK it.dir 16 it.bG (AE it it.fr) (AE it it.to)) ⟨Quu he.a,D _ (List.mem_cons_self ..)⟩ λq G=>⟨(I q (gq _ G)).1,D q (gq _ G)⟩;refine⟨by rw[O,bp,ac];omega,Q1y (λx y g=> ?_) (Qzw X Y),O⟩;obtain⟨g1,⟨T,bx⟩,⟨U,L⟩⟩:=g;have M:=T.r;have ry:=U.r;have hx:=T.h;have hy:=U.h;rw[he.ra.1,he.rb.1]at M ry;refine Zgx g1 bx L ?_ ?_
 ·unfold mn mx at*;split at M<;>split at M<;>split<;>omega
 ·have key:∀a b z:Int,(mn a b<=z/\z<=mx a b)->(a<=z/\z<=b)\/(b<=z/\z<=a):=λa b z q=>by
   unfold mn mx at q;split at q<;>split at q<;>omega
  have k1:=key _ _ _ hx;have k2:=key _ _ _ hy;omega
def Dp (A:Nat) (c p:Pt):Prop:=(p.x-c.x).natAbs<=A/\(p.y-c.y).natAbs<=A/\(p.z-c.z).natAbs<=A
theorem Qmu (A:Nat) (c:Pt):Dp A c c:=by unfold Dp;omega
theorem Qep {n i p c q:Int} (D:0<n) (G:0<=i/\i<=n) (I:(p-c).natAbs<=A) (L:(q-c).natAbs<=A):(Im n i p c q-c).natAbs<=A:=by
 have h:=Lk (n:=n) (i:=i) (p:=p-c) (c:=0) (q:=q-c) D G I (by simp) L;have e:Im n i (p-c) 0 (q-c)=Im n i p c q-c:=by
  unfold Im;rw[Int.sub_zero,Int.sub_zero];omega
 rw[<-e];exact h
theorem Q6b {c a:Pt} (I:bd B24 c) (L:bd B24 a) (M:a≠c) (U:0<=u/\u<Ay a c) (h:Dp A c a):Dp A c (Bj c a u):=by
 have V:sqD a c≠0:=λh=>M (To.1 h);have X:=NB a c;have Y:=PW (AR L (by decide)) (AR I (by decide)) (show 67108864<=67108864 by omega);obtain⟨g1,g2,g3⟩:=Ni (AR L (show B24<=67108864 by decide)) (AR I (show B24<=67108864 by decide));have D:u*u<=sqD a c:=by
  have:=an U.1 (show u<=Ay a c-1 by omega);omega
 have N:u<=33554432*4:=by
  by_cases c2:u<=33554432*4
  ·exact c2
  ·exfalso;have h3:=an (a:=33554432*4+1) (b:=u) (by omega) (by omega);have h4:=Qs7 L I;omega
 obtain⟨q1,q2,q3⟩:=Uy a c;have O:0<sqD a c/\sqD a c<=4611686018427387904:=⟨Int.lt_iff_le_and_ne.2 ⟨X,λh=>V h.symm⟩,dw Y (by decide)⟩;have G:0<=u/\u<=33554432*4:=⟨U.1,N⟩;have k1:=M8 (x:=a.x-c.x) (r:=u) (n:=sqD a c) (cb (F7 L.1 I.1) (by decide)) G O q1 D;have k2:=M8 (x:=a.y-c.y) (r:=u) (n:=sqD a c) (cb (F7 L.2.1 I.2.1) (by decide)) G O q2 D;have k3:=M8 (x:=a.z-c.z) (r:=u) (n:=sqD a c) (cb (F7 L.2.2 I.2.2) (by decide)) G O q3 D;have key:∀(c x v:Int),((0<=x->0<=v/\v<=x)/\(x<=0->x<=v/\v<=0))->x.natAbs<=A->(c+v-c).natAbs<=A:=λc x v k hx=>by
  by_cases T:0<=x
  ·have:=k.1 T;omega
  ·have:=k.2 (by omega);omega
 exact⟨key _ _ _ k1 h.1,key _ _ _ k2 h.2.1,key _ _ _ k3 h.2.2⟩
theorem Zsv {a c b:Pt} (M:bd B24 a) (G:bd B24 c) (hb:bd B24 b) (T:Dp A c a) (U:Dp A c b):∀p∈EK a c b k,Dp A c p:=by
 unfold EK;by_cases h:C9 a c b k=0
 ·rw[ab h];intro p D;rw[de]at D;rw[D];exact Qmu A c
 ·rw[aa h];obtain⟨N,O,X,Y,h5,-⟩:=UM h;obtain⟨m1,m2⟩:=Rp (Ay a c) (Ay c b);generalize C9 a c b k=d at*;have I:Dp A c (Bj c a d):=Q6b G M N (by omega) T;have L:Dp A c (Bj c b d):=Q6b G hb O (by rw[NS b c];omega) U;have k1:bd B24 (Bj c a d):=IC G M N (by omega);have k2:bd B24 (Bj c b d):=IC G hb O (by rw[NS b c];omega);have V:=SO (Bj c a d) c (Bj c b d);generalize Kc (Bj c a d) c (Bj c b d)=n at*;have hn:2<=n/\n<=64:=by rcases V with rfl|rfl|rfl|rfl|rfl|rfl<;>omega
  intro p D;simp only[bc,List.mem_range]at D;obtain⟨i,hi,rfl⟩:=D;exact⟨Qep (by omega) (by omega) I.1 L.1,Qep (by omega) (by omega) I.2.1 L.2.1,Qep (by omega) (by omega) I.2.2 L.2.2⟩
theorem Zsa {c p q:Pt} (D:bd 67108864 p) (G:bd 67108864 q) (I:Dp 128 c p) (L:Dp 128 c q):Ay p q<=444:=by
 refine Q3z D G (by omega) ?_;have key:∀u:Int,-256<=u->u<=256->u*u<=65536:=λu M N=>by
  have:0<=(256-u)*(256+u):=bv (by omega) (by omega);have e:(256-u)*(256+u)=65536-u*u:=by grind
  omega
 obtain⟨a1,a2,a3⟩:=I;obtain⟨b1,b2,b3⟩:=L;have O:=key (p.x-q.x) (by omega) (by omega);have T:=key (p.y-q.y) (by omega) (by omega);have U:=key (p.z-q.z) (by omega) (by omega);unfold sqD Gg E6;dsimp only;omega
theorem Zcc (it:Itm):(2*(A7 it).x=(Aq it.fr).x+(Aq it.to).x)/\(2*(A7 it).y=(Aq it.fr).y+(Aq it.to).y)/\(2*(A7 it).z=(Aq it.fr).z+(Aq it.to).z):=by
 unfold A7 Aq;simp only;omega
theorem Ze {it:Itm} (D:bd 100000 it.fr) (G:bd 100000 it.to):bd 4000000 (A7 it)/\bd 4000000 (Aq it.fr)/\bd 4000000 (Aq it.to):=by
 unfold bd A7 Aq at*;simp only;omega
noncomputable def I8 (l:List Pt):Pt:=l.getD (l.length/2) ⟨0,0,0⟩
theorem Zj3 {l:List Pt} (h:l≠[]):∃r,l.drop (l.length/2)=I8 l::r:=by
 have G:0<l.length:=fv.2 h;have D:l.length/2<l.length:=by omega
 refine⟨l.drop (l.length/2+1),?_⟩;rw[KF l _ D];unfold I8;simp[D]
theorem Zmq {l:List Pt} (h:l≠[]):∃r,l.take (l.length/2+1)=r++[I8 l]:=by
 have G:0<l.length:=fv.2 h;have D:l.length/2<l.length:=by omega
 refine⟨l.take (l.length/2),?_⟩;rw[List.take_succ_eq_append_getElem D];unfold I8;simp[D]
theorem Zwq (a c b:Pt) (D:Int):EK a c b D≠[]:=by
 unfold EK;split
 ·simp
 ·simp
theorem Qw4 (aA:List Itm) (i k:Nat):DR aA i k≠[]:=Zwq _ _ _ _
noncomputable def HD (aA:List Itm) (i:Nat) (frm:Int):Pt:=if 0<=frm/\smI (vE aA i)then I8 (DR aA frm.toNat i)else Aq (vE aA i).fr
theorem Z7d {aA:List Itm} {frm:Int} (D:0<=BE aA i):∃l,BY aA i frm=l++[I8 (DR aA i (BE aA i).toNat)]:=by
 have c:smI (vE aA i):=by
  rcases J4 aA i with h|h
  ·omega
  ·exact h.1
 unfold BY Gm;rw[ab c,ab D];obtain⟨r,G⟩:=Zmq (Qw4 aA i (BE aA i).toNat);rw[G];exact⟨GX aA i frm++[A7 (vE aA i)]++r,by simp only[df]⟩
structure MotL (it : Itm) : Prop where
 valid:CE it
 fr:bd 100000 it.fr
 to:bd 100000 it.to
 line:it.aP≠3->(it.to.x-it.fr.x).natAbs<=16/\(it.to.y-it.fr.y).natAbs<=16/\(it.to.z-it.fr.z).natAbs<=16
 arc:it.aP=3->ArcMade 8 it
theorem Quo {c p:Pt} (D:bd 4000000 c) (h:Dp 128 c p):bd 67108864 p:=by
 obtain⟨G,I,L⟩:=h;unfold bd at*;omega
theorem Sq {it:Itm} (h:MotL it) (D:it.aP≠3):Dp 128 (Aq it.fr) (A7 it)/\Dp 128 (Aq it.to) (A7 it):=by
 obtain⟨a,b,c⟩:=h.line D;obtain⟨G,I,L⟩:=Zcc it;have M:(Aq it.fr).x=it.fr.x*16/\(Aq it.fr).y=it.fr.y*16/\(Aq it.fr).z=it.fr.z*16:=⟨rfl,rfl,rfl⟩;have N:(Aq it.to).x=it.to.x*16/\(Aq it.to).y=it.to.y*16/\(Aq it.to).z=it.to.z*16:=⟨rfl,rfl,rfl⟩;unfold Dp;omega
theorem Q6n (h:Dp A d q):Dp A q d:=by
 unfold Dp at*;omega
theorem Uw {c:Pt} (G:bd 4000000 c):∀{x:Pt} {l:List Pt},Dp 128 c x->(∀q∈l,Dp 128 c q)->stD 444 x l
 |_,[],_,_=>trivial
 |_,y::_,I,D=>⟨Zsa (Quo G I) (Quo G (D y (by simp))) I (D y (by simp)),Uw G (D y (by simp)) λq h=>D q (by simp[h])⟩
theorem Qs5 {M:Int} {m:Pt} {I:List Pt}:∀{x:Pt} {L:List Pt},stD M x (L++[m])->stD M m I->stD M x (L++[m]++I)
 |_,[],D,G=>⟨D.1,G⟩
 |_,_::_,D,G=>⟨D.1,Qs5 D.2 G⟩
theorem Qr1 {M N:Int} (h:M<=N):∀{x:Pt} {l:List Pt},stD M x l->stD N x l
 |_,[],_=>trivial
 |_,_::_,g=>⟨by have:=g.1;omega,Qr1 h g.2⟩
theorem Qrm {aA:List Itm} (D:MotL (vE aA i)) (G:MotL (vE aA A)) (L:(vE aA i).aP≠3) (M:(vE aA A).aP≠3) (hf:(vE aA A).fr=(vE aA i).to):
  (∀p∈DR aA i A,Dp 128 (Aq (vE aA i).to) p)/\(DR aA i A).length<=65:=by
 obtain⟨a1,a2,a3⟩:=Ze D.fr D.to;obtain⟨b1,b2,b3⟩:=Ze G.fr G.to;have N:=(Sq D L).2;have I:=(Sq G M).1;rw[hf]at I;unfold DR;have m1:∀{p:Pt},bd 4000000 p->bd B24 p:=λh=>AR h (by unfold B24;omega);exact⟨Zsv (m1 a1) (m1 a3) (m1 b1) N I,(Qbe (m1 a1) (m1 a3) (m1 b1)).2.2⟩
theorem Zf4 {aA:List Itm} (G:MotL (vE aA i))
  (hf:∀f:Nat,a=f->MotL (vE aA f)/\(vE aA i).fr=(vE aA f).to/\(vE aA f).aP≠3)
  (hs:∀k:Nat,BE aA i=k->MotL (vE aA k)/\(vE aA k).fr=(vE aA i).to/\(vE aA k).aP≠3):
  ∃rest,BY aA i a=HD aA i a::rest/\stD 444 (HD aA i a) rest/\rest.length<=256:=by
 obtain⟨a1,a2,a3⟩:=Ze G.fr G.to;unfold BY HD;by_cases c:smI (vE aA i)
 ·rw[ab c];have I:(vE aA i).aP≠3:=by have:=c.1;omega
  obtain⟨X,O⟩:=Sq G I;have L:Bv (vE aA i)=[Aq (vE aA i).fr,Aq (vE aA i).to]:=by unfold Bv;rw[aa I]
  have T:∃V r,GX aA i a=V::r/\V=(if 0<=a/\smI (vE aA i)then I8 (DR aA a.toNat i)else Aq (vE aA i).fr)/\r.length<=64/\∀p∈V::r,Dp 128 (Aq (vE aA i).fr) p:=by
   unfold GX;by_cases M:0<=a
   ·obtain⟨f,rfl⟩:=bh M;obtain⟨g1,g2,Y⟩:=hf f rfl;rw[ab M,ab ⟨M,c⟩,af];obtain⟨r,hr⟩:=Zj3 (Qw4 aA f i);obtain⟨j1,j2⟩:=Qrm g1 G Y I g2;have hl:(I8 (DR aA f i)::r).length<=65:=by rw[<-hr,co];omega
    refine⟨_,r,hr,rfl,by rw[bp]at hl;omega,λp D=> ?_⟩;rw[<-hr]at D;rw[g2];exact j1 p (dt D)
   ·rw[aa M,aa (λh=>M h.1),L];refine⟨_,[],rfl,rfl,by simp,λp D=> ?_⟩;simp at D;subst D;exact Qmu 128 _
  have U:(Gm aA i).length<=65/\∀p∈Gm aA i,Dp 128 (Aq (vE aA i).to) p:=by
   unfold Gm;by_cases M:0<=BE aA i
   ·obtain⟨k,hk⟩:=bh M;obtain⟨g1,g2,Y⟩:=hs k hk;obtain⟨j1,j2⟩:=Qrm G g1 I Y g2;rw[ab M,hk,af];exact⟨by rw[d9];omega,λp D=>j1 p (dy D)⟩
   ·rw[aa M,L];refine⟨by simp,λp D=> ?_⟩;simp at D;subst D;exact Qmu 128 _
  obtain⟨V,r,e1,e2,e3,e4⟩:=T;obtain⟨t1,t2⟩:=U;rw[e1,<-e2];refine⟨r++[A7 (vE aA i)]++Gm aA i,rfl,Qs5 (Uw a2 (e4 _ (by simp)) λq N=> ?_) (Uw a3 O t2),?_⟩
  ·rcases be.1 N with N|N
   ·exact e4 q (by simp[N])
   ·simp at N;subst N;exact X
  ·rw[aq,aq,dh];omega
 ·rw[aa c,aa (λh=>c h.2)];by_cases I:(vE aA i).aP=3
  ·obtain⟨k1,k2,k3⟩:=Zsp (G.arc I) G.valid;rw[k3]at k1⊢;rw[<-Q49 G.valid I (vE aA i).fr];exact⟨_,rfl,Qr1 (by omega) k2,by rw[bp]at k1;omega⟩
  ·have L:Bv (vE aA i)=[Aq (vE aA i).fr,Aq (vE aA i).to]:=by unfold Bv;rw[aa I]
   obtain⟨X,O⟩:=Sq G I;rw[L];exact⟨_,rfl,Uw a1 (Q6n X) (λq N=>by simp at N;subst N;exact Q6n O),by simp⟩
theorem U0:∀{l:List Itm} {p:Pt},ED p l->∀i,i<l.length->AA (vE l i)->(vE l i).fr=EH p (l.take i)
 |[],_,_,i,G,_=>by simp at G
 |it::l,p,h,0,_,D=>by
  unfold ED at h;rw[ab (show AA it from D)]at h;exact h.1
 |it::l,p,h,i+1,G,D=>by
  have e:vE (it::l) (i+1)=vE l i:=by simp[vE]
  rw[e]at D⊢;rw[List.take_succ_cons];unfold ED at h;unfold EH;by_cases c:AA it
  ·rw[ab c]at h⊢;exact U0 h.2 i (by simpa using G) D
  ·rw[aa c]at h⊢;exact U0 h i (by simpa using G) D
theorem Qdq {aA:List Itm} {p:Pt} (h:i<aA.length):EH p (aA.take (i+1))=if AA (vE aA i)then(vE aA i).to else EH p (aA.take i):=by
 rw[List.take_succ_eq_append_getElem h,Qb3,<-Ob h]
theorem Q7i {aA:List Itm} {p:Pt} {i:Nat}:∀k,i+k<=aA.length->(∀j,i<=j->j<i+k->(vE aA j).aP=10)->EH p (aA.take (i+k))=EH p (aA.take i)
 |0,_,_=>rfl
 |k+1,h,D=>by
  have:=Qdq (p:=p) (show i+k<aA.length by omega);rw[show i+(k+1)=i+k+1 by omega,this,aa (λc:AA _=>by have:=c.2;have:=D (i+k) (by omega) (by omega);omega)];exact Q7i k (by omega) λj a b=>D j a (by omega)
theorem UP {it:Itm} (h:smI it):AA it:=⟨by have:=h.1;omega,by have:=h.1;omega⟩
theorem Z73 {aA:List Itm} (M:ED d aA) (D:∀j<aA.length,AA (vE aA j)->MotL (vE aA j)) {i:Nat} (N:i<aA.length) (O:AA (vE aA i)):∀k:Nat,BE aA i=k->MotL (vE aA k)/\(vE aA k).fr=(vE aA i).to/\(vE aA k).aP≠3:=by
 intro k U;rcases J4 aA i with h|⟨-,-,k',V,X,I,G,T⟩
 ·omega
 ·have e:k'=k:=by omega
  subst e;refine⟨D _ I (UP G),?_,by have:=G.1;omega⟩;rw[U0 M k' I (UP G)];have L:=Q7i (aA:=aA) (p:=d) (i:=i+1) (k'-(i+1)) (by omega) λj a b=>T j (by omega) (by omega);rw[show i+1+(k'-(i+1))=k' by omega]at L;rw[L,Qdq N,ab O]
structure LInv (aA : List Itm) (p0 : Pt) (i : Nat) (n : Int) (s : BSt) : Prop where
 stand:s.bI=true->(s.frm= -1/\s.at_=Aq (EH p0 (aA.take i)))\/(∃f k:Nat,s.frm=f/\f<i/\BE aA f=k/\i<=k/\s.at_=I8 (DR aA f k)/\(vE aA f).to=EH p0 (aA.take i))
 none:s.bI=false->s.frm= -1/\s.aF=[]
 len:s.len<=114108*n
 cnt:(s.aF.length:Int)<=257*n
theorem Zhh {aA:List Itm} (hl:ED d aA) (D:∀j<aA.length,AA (vE aA j)->MotL (vE aA j)) {i:Nat} (X:i<aA.length) {n:Int} {s:BSt} (h:LInv aA d i n s):LInv aA d (i+1) (if AA (vE aA i)then n+1 else n) (Dh aA i s):=by
 have G:=Qdq (p:=d) X;unfold Dh;by_cases I:AA (vE aA i)
 ·rw[ab I]at G⊢;rw[ab I];have O:=D i X I;have T:=U0 hl i X I;have U:(if s.bI=true then s.at_ else Aq (vE aA i).fr)=HD aA i s.frm/\(∀f:Nat,s.frm=f->MotL (vE aA f)/\(vE aA i).fr=(vE aA f).to/\(vE aA f).aP≠3):=by
   by_cases hb:s.bI=true
   ·rw[ab hb];rcases h.stand hb with⟨N,Y⟩|⟨f,k,N,Y,h3,h4,h5,h6⟩
    ·refine⟨?_,λf hf=>by omega⟩;unfold HD;rw[Y,N,aa (λc=>by omega),T]
    ·rcases J4 aA f with g|⟨g1,-,k',g2,g3,g4,g5,g6⟩
     ·omega
     ·have e:k'=k:=by omega
      subst e;have e2:k'=i:=by
       by_cases c:i<k'
       ·have:=g6 i (by omega) c;have:=I.2;omega
       ·omega
      subst e2;refine⟨?_,λf' a0=> ?_⟩
      ·unfold HD;rw[h5,N,ab ⟨by omega,g5⟩,af]
      ·have:f'=f:=by omega
       subst this;exact⟨D f' (by omega) (UP g1),by rw[T,h6],by have:=g1.1;omega⟩
   ·rw[aa hb];have:=(h.none (by simpa using hb)).1;refine⟨?_,λf hf=>by omega⟩;unfold HD;rw[this,aa (λc=>by omega)]
  obtain⟨rest,hp,V,a1⟩:=Zf4 O U.2 (Z73 hl D X I);have hlen:(DC aA i s).2.1<=s.len+444*256/\((DC aA i s).1.length:Int)<=s.aF.length+256:=by
   unfold DC;rw[hp,U.1,dv];have e:AU i (FQ (vE aA i) s.aS) (HO (vE aA i)) (s.aF,s.len,HD aA i s.frm) (HD aA i s.frm)=(s.aF,s.len,HD aA i s.frm):=ab rfl;rw[e];have f:=Qhx (aU:=i) (aZ:=FQ (vE aA i) s.aS) (aX:=HO (vE aA i)) (M:=444) (by omega) rest (s.aF,s.len,HD aA i s.frm) V;dsimp only at f;omega
  have N:=h.len;have Y:=h.cnt;refine⟨λ_=> ?_,λhb=>(by cases hb),by show(DC aA i s).2.1<=_;omega,by show((DC aA i s).1.length:Int)<=_;omega⟩;simp only;by_cases c:0<=BE aA i
  ·right;obtain⟨l,L⟩:=Z7d (frm:=s.frm) c;rcases J4 aA i with g|⟨-,-,k,g2,g3,-⟩
   ·omega
   ·refine⟨i,k,by rw[ab c],by omega,g2,by omega,?_,by rw[G]⟩;unfold DC;rw[L,Q5z,g2,af]
  ·left;obtain⟨l,L⟩:=Yad (frm:=s.frm) O.valid c;refine⟨by rw[aa c],?_⟩;unfold DC;rw[L,Q5z,G]
 ·rw[aa I]at G⊢;rw[aa I];refine⟨λhb=> ?_,h.none,h.len,h.cnt⟩;simp only;rw[G];rcases h.stand hb with g|⟨f,k,N,Y,h3,h4,h5,h6⟩
  ·exact .inl g
  ·refine .inr ⟨f,k,N,by omega,h3,?_,h5,h6⟩;rcases J4 aA f with g|⟨-,-,k',g2,-,-,g5,-⟩
   ·omega
   ·have e:k'=k:=by omega
    subst e;by_cases c:k'=i
    ·subst c;exact absurd (UP g5) I
    ·omega
def Dn (b:Int) (l:Rw):Prop:=∃up s:Rw,l=up++[I 1]::s/\∀r∈up,1<=gA r 0/\gA r 0<=b
theorem Dn.app (h:Dn b l) (s:Rw):Dn b (l++s):=by
 obtain⟨up,t,rfl,h⟩:=h;exact⟨up,t++s,by simp,h⟩
theorem Zh0 (M:1<=j/\j<=65536):Out (λo=>o.1=1/\(wA o.2 0).length<=65536/\Dn j (wA o.2 0)) (Am Ky [.vC Aa [],I j]):=by
 refine Cd (λs:Rw×Int=>[.vC Aa s.1,I s.2]) (λs=>0<=s.2/\s.2<=j/\s.1.length+s.2<=65536/\(if s.2=0 then Dn j s.1 else∀r∈s.1,1<=gA r 0/\gA r 0<=j)) (λs=>s.2.toNat) _ ?_ ([],j)
  ⟨by dsimp only;omega,cz _,by simp;omega,by rw[aa (by dsimp only;omega)];intro r h;cases h⟩
 rintro⟨v,k⟩ ⟨g1,g0,g2,D⟩;dsimp only at g0 g1 g2 D;rw[Qsu,bm g1,Ad (x:=k/2)];refine .cond (λc=> ?_) (λc=> ?_)
 ·have c:=Bg c;rw[aa]at D;refine .cond (λ_=> ?_) λc=>by rw[BF (by simp;omega)]at c;cases c
  refine .some (.inl ⟨rfl,(v++[[I k]],k/2),rfl,⟨by dsimp only;omega,by dsimp only;omega,by simp;omega,?_⟩,by dsimp only;omega⟩);dsimp only;by_cases L:k/2=0
  ·rw[ab L];have e:k=1:=by omega
   subst e;exact⟨v,[],rfl,D⟩
  ·rw[aa L];intro r G;rcases be.1 G with G|G
   ·exact D r G
   ·rw[de]at G;subst G;show 1<=k/\k<=j;omega
 ·have c:=Bd c;rw[ab]at D;exact .some (.inr ⟨by simp,rfl,by show v.length<=65536;omega,D⟩)
theorem Zg6 {up out:Rw} (M:up.length<=65536) (O:out.length=up.length+1) (G:Dn j out):Out (λo=>o.1=1/\(wA o.2 0).length<=140000/\Dn j (wA o.2 0)) (Am (M_ N) [.vC Aa up, .vC Aa out,I ((up.length:Int)-1)]):=by
 refine Cd (λs:Rw×Int=>[.vC Aa up, .vC Aa s.1,I s.2]) (λs=> -1<=s.2/\s.2<up.length/\s.1.length+s.2<=2*up.length/\Dn j s.1) (λs=>(s.2+1).toNat) _ ?_ (out,(up.length:Int)-1) ⟨by simp only;omega,by simp only;omega,by simp only;omega,G⟩;rintro⟨v,k⟩ ⟨g1,g2,L,D⟩;dsimp only at g1 g2 L D;rw[Q4w,Ad (x:=k-1)];refine .cond (λc=> ?_) (λc=> ?_)
 ·have c:=Bg c;refine .cond (λ_=> ?_) λc=>by simp at c;omega
  refine .cond (λ_=> ?_) λc=>by rw[BF (by simp;omega)]at c;cases c
  exact .some (.inl ⟨rfl,(_,k-1),rfl,⟨by dsimp only;omega,by dsimp only;omega,by simp;omega,D.app _⟩,by dsimp only;omega⟩)
 ·have c:=Bd c;exact .some (.inr ⟨by simp,rfl,by show v.length<=140000;omega,D⟩)
theorem Zj1 (D:1<=j/\j<=65536):Out (λo=>(wA o 0).length<=140000/\Dn j (wA o 0)) (Mv [I j]):=by
 show Out _ (Sy (Am Ky) (Am (M_ (Am Ky))) [I j]);rw[Qxi];refine .bind (Zh0 D) λo g=> ?_;rw[g.1];obtain⟨-,g2,G⟩:=g;generalize wA o.2 0=up at*;refine .cond (λ_=> ?_) λc=>by simp at c
 refine .cond (λ_=> ?_) λc=>by rw[BF (by simp;omega)]at c;cases c
 refine .cond (λ_=> ?_) λc=>by rw[BF (by simp;omega)]at c;cases c
 rw[Ad (x:=(up.length:Int)-1)];refine .bind (Zg6 g2 (by simp) (by rw[bf];exact G.app _)) λo g=> ?_;rw[g.1];exact .some g.2
theorem Z7l {x:Ax3} {a b c o0 o1:Int} {L b1 b2:Bool} (hb:1<=b/\b<=65536) {m0 m3 m4 m5 l:Int}
  (hS:∀v:Int,Out (λo=>v=1->bA o 0=true) (Z (pxt p x t [I a,I b,I c,I (V (m0+v)),I v,I (V (v-0)),I m0,I m3,I m4,I l])))
  (hF:∀v:Int,Out (λo=>v=1->bA o 0=true) (W (De p t [I a,I b,I c,I o0,I o1,B L,B b1,B b2,I (V (m0+v)),I v,I (V (v-0)),I m0,I m3,I m4])))
  (hM:∀m0 m1 m2 m3 m4 m5 v,T [I m0,I m1,I m2,I m3,I m4,I m5,I v]=some (Gy m0 m1 m3 m4 v))
  (hR:∀v:Int,Out (λo=>v=1->bA o 0=true) (P [I a,I b,I c,I v,I v]))
  (hC:Out (λo=>(wA o 0).length<=140000/\Dn b (wA o 0)) (O [I b])):
  Out (λo=>∃v:Int,o=Gy m0 0 m3 m4 v/\1<=v) (Uq M Z W T P O (Am (Uz M Z W T P O)) (pxt p x t [I a,I b,I c,I o0,I o1,B L,B b1,B b2,I m0,I 0,I 0,I m3,I m4,I m5,I l])):=by
 rw[Q63];refine .bind hC λq Y=> ?_;obtain⟨Y,up,s,N,hu⟩:=Y;generalize wA q 0=ch at*;have hlen:ch.length=up.length+1+s.length:=by rw[N];simp;omega
 refine .bind (p:=λo=>o.1=1/\(∃v:Int,∃g0 g1 g2 g3 g4 g5:Int,o.2=B true::I a::I b::I c::I m0::I 0::I 0::I m3::I m4::I m5::I g0::I g1::I g2::I g3::I g4::I g5::Gy m0 0 m3 m4 v/\1<=v)) ?_ λo g=>by
  obtain⟨g,v,g0,g1,g2,g3,g4,g5,e,U⟩:=g;rw[g];refine .cond (λ_=> ?_) λc=>by simp at c
  rw[e];refine .cond (λ_=> .some ⟨v,rfl,U⟩) λc=>by simp[gA,wA,bA,jA,nth,Dz]at c
 refine Cd (λs:Nat×(Int×Int×Int×Int×Int×Int)=>I l::B false:: .vC Aa ch::I (ch.length:Int)::I (s.1:Int)::pxt p x t [I a,I b,I c,I o0,I o1,B L,B b1,B b2,I m0,I 0,I 0,I m3,I m4,I m5,I 0,I 0,I 0,I 0,I 0,I 0,I s.2.1,I s.2.2.1,I s.2.2.2.1,I s.2.2.2.2.1,I s.2.2.2.2.2.1,I s.2.2.2.2.2.2])
  (λs=>s.1<=up.length) (λs=>ch.length-s.1) _ ?_ (0,(0,0,0,0,0,0)) (by simp)
 rintro⟨i,f0,f1,f2,f3,f4,f5⟩ g;dsimp only at g;rw[Qy0];rw[Ad (x:=(i:Int)+1)];obtain⟨k,hk,k1,k2,X⟩:∃k:Int,gA (nth [] ch (i:Int).toNat) 0=k/\1<=k/\k<=b/\(k≠1->i<up.length):=by
  rw[af,E1 [] ch i (by omega)];by_cases D:i<up.length
  ·have e:ch[i]'(by omega)=up[i]:=by
    have:ch[i]? =some up[i]:=by rw[N,ij D,ag D]
    exact Option.some.inj ((ag (by omega)).symm.trans this)
   rw[e];have:=hu _ (ca D);exact⟨_,rfl,this.1,this.2,λ_=>D⟩
  ·have D:i=up.length:=by omega
   have e:ch[i]'(by omega)=[I 1]:=by
    have:ch[i]? =some [I 1]:=by rw[N,D];simp
    exact Option.some.inj ((ag (by omega)).symm.trans this)
   rw[e];exact⟨1,rfl,by omega,by omega,λq=>absurd rfl q⟩
 rw[hk];have w1:V (0+k)=k:=by rw[Int.zero_add];exact Ad
 rw[w1,w1];refine .cond (λc=> ?_) (λc=> ?_)
 ·have c:=Bg c;refine .cond (λ_=> ?_) λc=>by simp at c;omega
  refine .cond (λneg=> ?_) λ_=> ?_
  ·have neg:=Bg neg;omega
  ·refine .bind (hR k) λa0 hr=> .cond (λcr=> ?_) λ_=> ?_
   ·have G:k≠1:=λq=>by rw[hr q]at cr;cases cr
    have:=X G;exact .some (.inl ⟨rfl,(i+1,f0,f1,f2,f3,f4,f5),rfl,by dsimp only;omega,by dsimp only;omega⟩)
   ·rw[hM];simp only[am,gA,wA,bA,jA,nth,Ag];refine .bind (hF k) λof fit=> .cond (λcf=> ?_) λcf=> ?_
    ·refine .bind (hS k) λo U=> .cond (λc=> ?_) λcs=> ?_
     ·exact .some (.inr ⟨by simp,rfl,⟨k,0,0,0,0,0,0,rfl,k1⟩⟩)
     ·have G:k≠1:=λq=>by
       have:=U q;simp only[bA]at this;rw[this]at cs;cases cs
      have:=X G;exact .some (.inl ⟨rfl,(i+1,_,_,_,_,_,_),rfl,by dsimp only;omega,by dsimp only;omega⟩)
    ·have G:k≠1:=λq=>by
      have:=fit q;simp only[bA]at this;rw[this]at cf;cases cf
     have:=X G;exact .some (.inl ⟨rfl,(i+1,_,_,_,_,_,_),rfl,by dsimp only;omega,by dsimp only;omega⟩)
 ·have c:=Bd c;omega
theorem Zk7 (D:Plan3 j k r) (G:Ci j k 1 1):AJ j k 1 1= -1:=by
 obtain⟨B,hB⟩:∃B,B=bs k 1 20 (-1-k) (min (k-1) j):=⟨_,rfl⟩;obtain⟨b1,b2,b3,b4,b5,b6⟩:=SH D G hB;have L:=D.a;have hb:=D.b
 have I:AJ j k 1 1= -B:=by unfold AJ;rw[hB]
 have M:=IZ (k:=k) (b:=B) (by omega);have:B=1:=by
  by_cases h:B<1
  ·rcases b5 with b5|b5
   ·omega
   ·have:=RD (k:=k) (b:=B+1) (by omega);omega
  ·omega
 rw[I,this]
theorem Za (D:Plan3 j k r):Ci j k 1 1:=by
 have G:=D.a;have hb:=D.b
 refine⟨by omega,by omega,?_,?_,λh=>by omega⟩
 ·rw[Il (by omega)];omega
 ·rw[RD (by omega)];omega
theorem Zkl (D:Plan3 j k r):AO j k 1 1=([0],true):=by
 have hb:=Zk7 D (Za D);have e0:∀n:Nat,Bt j k (n+1) 0 (-1)=([],true):=λn=>by
  unfold Bt;rw[ab]
 have e1:Bt j k 4096 1 1=([0],true):=by
  show Bt j k (4094+1+1) 1 1=_;rw[Bt,aa,hb,show(1:Int)+ -1=0 from rfl,e0]
 unfold AO;rw[e1,ab ⟨Za D,rfl⟩]
theorem Z72 (b1 b2:Bool) (a b c:Int) (r:List AC):Out (λo=>1<=gA o 0) (Ok (I 100::I 100::B false::B b1::B b2::I a::I b::I c::AT Ah r)):=by
 rw[Q4s];show Out _ (Ul _);rw[Q60];have fin:∀e:Int,1<=gA [I (mn (mx e 1) 16777216)] 0:=λe=>by
  show 1<=mn (mx e 1) 16777216;unfold mn mx
  (repeat' split)<;>omega
 refine .cond (λc=>by cases c) λ_=> .cond (λ_=> .some (fin _)) λ_=> .cond (λ_=> .cond (λc=>by cases c) λ_=> .some (fin _)) λ_=> .cond (λc=>by cases c) λ_=> .some (fin _)
theorem Zdw {L M N MU:Fn} {a b c:Int} {b1 b2:Bool} (O:∀r,Out (λo=>1<=gA o 0) (L (I 100::I 100::B false::B b1::B b2::I a::I b::I c::AT Ah r)))
  (T:∀s,i64 s->∃i v:Int,M (Bl p++[I s])=some [I i,I v]/\(i= -1\/0<=i/\i<p.aF.length)/\(p.aF≠[]->0<=i)) (U:∀u,∃s,N (Bw t++[I u])=some [I s]/\i64 s) (V:∀u,(MU [I u]).isSome=true) (D:p.aF≠[]) (u:Int):
  Out (λo=>1<=gA o 0) (Ub L M N MU (De p t [I a,I b,I c,I 100,I 100,B false,B b1,B b2,I u])):=by
 rw[Qwp];refine .ibind (V _) λq _=> ?_;obtain⟨s,X,Y⟩:=U (gA q 0);refine .bind (p:=λo=>o=[I s]) ⟨_,X,rfl⟩ λo e=> ?_;subst e;obtain⟨i,v,g1,g2,G⟩:=T s Y;refine .bind (p:=λo=>o=[I i,I v]) ⟨_,g1,rfl⟩ λo e=> ?_;subst e;have G:=G D;refine .cond (λ_=> ?_) λc=> ?_
 ·exact .bind (O _) λo e=> .some e
 ·refine(inB (show 0<=i from G) (show i<((p.aF.map AB).length:Int)from ?_) c).elim;rw[ac];omega
theorem Zjb {x:Ax3} (h:Fix p x t) (D:p.aF≠[]) (a b c:Int) (b1 b2:Bool) (u:Int):
  Out (λo=>1<=gA o 0) (Lo (De p t [I a,I b,I c,I 100,I 100,B false,B b1,B b2,I u])):=
 Zdw (λr=>Z72 b1 b2 a b c r) (λ_ G=>Q6j h G) (λu=>⟨_,Rv h.t.q u,UT h u⟩) Qm1 D u
theorem Zke {a b c:Int} {b1 b2:Bool} (D:p.aF≠[]) (G:∀u,Out (λo=>1<=gA o 0) (M (De p t [I a,I b,I c,I 100,I 100,B false,B b1,B b2,I u])))
  {m0 m3 m4 m5:Int} (L:Z [I a,I b,I c,I m0,I 1,I 1,I m3,I m4,I m5]=some [.vC Aa [[I m0]],B true]):
  Out (λo=>bA o 0=true) (TX M Z (Am (RX M Z)) (De p t [I a,I b,I c,I 100,I 100,B false,B b1,B b2,I m0,I 1,I 1,I m3,I m4,I m5])):=by
 rw[Qt9];refine .bind (p:=λo=>o=_) ⟨_,L,rfl⟩ λo e=> ?_;subst e;refine .cond (λc=>by cases c) λ_=> .cond (λc=> ?_) λO=> ?_
 ·exfalso;have c:((p.aF.map AB).length:Int)=0:=by simpa using c
  rw[ac]at c;exact D (jl.1 (by omega))
 refine .bind (G _) λq N=> .cond (λc=> ?_) λT=> ?_
 ·have c:=Bg c;omega
 refine .bind (p:=λo=>o=(2,[])) ?_ λo g=>by subst g;exact .some rfl
 refine Cd (λi:Nat=>I m0:: .vC Aa [[I m0]]::I (([[I m0]]:Rw).length:Int)::I (i:Int)::De p t [I a,I b,I c,I 100,I 100,B false,B b1,B b2]) (λs=>s<=1) (λs=>1-s) _ ?_ 0 (by omega);intro i g;rw[Qtd];rw[Ad (x:=(i:Int)+1)];refine .cond (λc=> ?_) (λc=> ?_)
 ·have c:(i:Int)<1:=Bg c;have e:i=0:=by omega
  subst e;refine .cond (λ_=> ?_) λc=>by simp at c
  refine .bind (G _) λq N=> .cond (λc=> ?_) λ_=> .some (.inl ⟨rfl,1,rfl,by omega,by omega⟩);have c:V (m0-m0)>gA q 0:=Bg c;rw[Int.sub_self]at c;have:V 0=0:=rfl;omega
 ·exact .some (.inr ⟨by simp,rfl⟩)
theorem Q6o {a b c m0 m3 m4 m5:Int} (D:Plan3 a b c) (G:0<=m0/\m0<=400000000000):EA [I a,I b,I c,I m0,I 1,I 1,I m3,I m4,I m5]=some [.vC Aa [[I m0]],B true]:=by
 have h:=Qna D (u:=m0) (by omega) 1 1 m3 m4 m5;rw[Zkl D]at h;rw[h];show some [AC.vC Aa [[I (m0+0)]],B true]=_;rw[fm]
theorem Z3g {x:Ax3} (h:Fix p x t) (D:p.aF≠[]) {a b c:Int} (G:Plan3 a b c) (b1 b2:Bool) {m0 m3 m4 m5:Int} (L:0<=m0/\m0<=400000000000):
  Out (λo=>bA o 0=true) (KJ (De p t [I a,I b,I c,I 100,I 100,B false,B b1,B b2,I m0,I 1,I 1,I m3,I m4,I m5])):=
 Zke D (Zjb h D a b c b1 b2) (Q6o G L)
theorem Zvw {MA MM MN:Fn} {x:Ax3} (O:∀{l:List Pt},l.length<=100000->MA (AG x++[.vC kPt (l.map ptR)])=some [B (decide (FT x l))]) (U:∀u,MM (pxt p x t [I u])=some (ptR (CR p x t u)))
  (V:∀{u:Int},0<=u->u<=1000000000000000->MN [I u]=some [I (u/256)]) {way:List Int} (hw:way.length<=100000) (hb:∀u∈way,0<=u/\u<=1000000000000000) (D:∀j,j<way.length->FT x (Ks (way.map (MU p x t)) j)):
  Out (λo=>bA o 0=true) (TA MA MM MN (Am (SB MA MM MN)) (pxt p x t [.vC Aa (way.map Aj)])):=by
 rw[Qub];refine .bind (p:=λo=>o=(2,[])) ?_ λo g=>by subst g;exact .some rfl
 have el:(way.map Aj).length=way.length:=ac ..;refine Cd (λs:Nat=> .vC kPt ((((way.map (MU p x t)).take s).drop (s-4)).map ptR):: .vC Aa (way.map Aj)::I ((way.map Aj).length:Int)::I (s:Int)::pxt p x t []) (λs=>s<=way.length) (λs=>way.length-s) _ ?_ 0 (Nat.zero_le _);intro i g1;refine Out.eqv (Q4n MA MM MN _ _ _ _ p x t) ?_;rw[Ad (x:=(i:Int)+1)];refine .cond (λc=> ?_) (λc=> ?_)
 ·have c:=Bg c;have M:i<way.length:=by omega
  refine .cond (λ_=> ?_) λe=>(inB (by omega) (by omega) e).elim;have X:jA (nth [] (way.map Aj) (i:Int).toNat) 0=I way[i]:=by
   rw[af,GO Aj [] way i M];rfl
  rw[X];have G:=hb way[i] (ca M);refine .bind (p:=λo=>o=_) ⟨_,V G.1 G.2,rfl⟩ λo e=> ?_;subst e;refine .bind (p:=λo=>o=_) ⟨_,U (way[i]/256),rfl⟩ λo e=> ?_;subst e;have Y:(((way.map (MU p x t)).take i).drop (i-4)).map ptR++[[jA (ptR (CR p x t (way[i]/256))) 0,jA (ptR (CR p x t (way[i]/256))) 1,jA (ptR (CR p x t (way[i]/256))) 2]]=(((way.map (MU p x t)).take (i+1)).drop (i-4)).map ptR:=by
   have hl:i<(way.map (MU p x t)).length:=by rw[ac];exact M
   rw[gv,ag hl,iw (by rw[d9];omega),bt,fj];rfl
  rw[Y];have ln:((((way.map (MU p x t)).take (i+1)).drop (i-4)).map ptR).length=i+1-(i-4):=by
   rw[ac,co,d9,ac];omega
  have q:=D i M;have T:(Ks (way.map (MU p x t)) i).length<=100000:=by unfold Ks;rw[co,d9,ac];omega
  refine .cond (λ_=> ?_) λc=>by rw[BF (by rw[ln];omega)]at c;cases c
  refine .cond (λL=> ?_) λL=> ?_
  ·have L:=Bg L;have N:List.drop (Int.toNat 1) ((((way.map (MU p x t)).take (i+1)).drop (i-4)).map ptR)=(Ks (way.map (MU p x t)) i).map ptR:=by
    unfold Ks;rw[<-List.map_drop,jq];have:i-4+Int.toNat 1=i+1-4:=by have:Int.toNat 1=1:=rfl;omega
    rw[this]
   refine .cond (λ_=> ?_) λc=>by simp at c;omega
   refine .cond (λ_=> ?_) λc=>by rw[BF (by have:Int.toNat 1=1:=rfl;omega)]at c;cases c
   rw[N];refine .bind (p:=λo=>o=_) ⟨_,O T,rfl⟩ λo e=> ?_;subst e;rw[ai q];exact .some (.inl ⟨rfl,i+1,rfl,by omega,by omega⟩)
  ·have L:=Bd L;have N:(((way.map (MU p x t)).take (i+1)).drop (i-4)).map ptR=(Ks (way.map (MU p x t)) i).map ptR:=by
    unfold Ks;have:i-4=i+1-4:=by omega
    rw[this]
   rw[N];refine .bind (p:=λo=>o=_) ⟨_,O T,rfl⟩ λo e=> ?_;subst e;rw[ai q];exact .some (.inl ⟨rfl,i+1,rfl,by omega,by omega⟩)
 ·exact .some (.inr ⟨by simp,rfl⟩)
theorem Nh {a:Axs} (h:LimX a) {l G I L:List Int} (e1:Bo l=G) (e2:Bo G=I) (e3:Bo I=L) (b1:∀v∈G,-1<=v/\v<=1) (b2:∀v∈I,-2<=v/\v<=2) (b3:∀v∈L,-4<=v/\v<=4):WiP a l:=by
 have:=h.ls;have:=h.la;have:=h.lj
 refine⟨?_,?_,?_⟩
 ·rw[e1];intro v D;have:=b1 v D;rw[Ad (x:=0-_)];omega
 ·rw[e1,e2];intro v D;have:=b2 v D;rw[Ad (x:=0-_)];omega
 ·rw[e1,e2,e3];intro v D;have:=b3 v D;rw[Ad (x:=0-_)];omega
theorem Qk2 {a:Axs} (h:LimX a) {u v:Int} (hd: -1<=v-u/\v-u<=1):(WiP a [u]/\WiP a [u,u]/\WiP a [u,u,u])/\WiP a [u,u,u,v]/\WiP a [u,u,v,v]/\WiP a [u,v,v,v]:=by
 obtain⟨d,I⟩:∃d,d=v-u:=⟨_,rfl⟩;have D:V (v-u)=d:=by rw[<-I];exact Ad
 have G:V (u-u)=0:=by rw[Int.sub_self];rfl
 have M:V (v-v)=0:=by rw[Int.sub_self];rfl
 have w0:V (0-0)=0:=rfl;have wd:V (d-0)=d:=(Ad).trans (by omega);have N:V (0-d)= -d:=(Ad).trans (by omega);have T:V (-d-d)= -d-d:=Ad;have U:V (0- -d)=d:=(Ad).trans (by omega);have L:Bo ([]:List Int)=[]:=rfl;have X:Bo [u]=[]:=rfl;have Y:Bo [u,u]=[0]:=by show [V (u-u)]=_;rw[G]
 have O:Bo [(0:Int)]=[]:=rfl;have z2:Bo [(0:Int),0]=[0]:=rfl;have n4:Bo [u,u,u]=[0,0]:=by show [V (u-u),V (u-u)]=_;rw[G]
 have a1:Bo [u,u,u,v]=[0,0,d]:=by show [V (u-u),V (u-u),V (v-u)]=_;rw[G,D]
 have a2:Bo [0,0,d]=[0,d]:=by show [V (0-0),V (d-0)]=_;rw[w0,wd]
 have a3:Bo [0,d]=[d]:=by show [V (d-0)]=_;rw[wd]
 have b1:Bo [u,u,v,v]=[0,d,0]:=by show [V (u-u),V (v-u),V (v-v)]=_;rw[G,D,M]
 have b2:Bo [0,d,0]=[d,-d]:=by show [V (d-0),V (0-d)]=_;rw[wd,N]
 have b3:Bo [d,-d]=[-d-d]:=by show [V (-d-d)]=_;rw[T]
 have c1:Bo [u,v,v,v]=[d,0,0]:=by show [V (v-u),V (v-v),V (v-v)]=_;rw[D,M]
 have c2:Bo [d,0,0]=[-d,0]:=by show [V (0-d),V (0-0)]=_;rw[N,w0]
 have c3:Bo [-d,0]=[d]:=by show [V (0- -d)]=_;rw[U]
 refine⟨⟨Nh h X L L (by simp) (by simp) (by simp),Nh h Y O L (by simp) (by simp) (by simp),Nh h n4 z2 O (by simp) (by simp) (by simp)⟩,Nh h a1 a2 a3 ?_ ?_ ?_,Nh h b1 b2 b3 ?_ ?_ ?_,Nh h c1 c2 c3 ?_ ?_ ?_⟩;all_goals
  intro w D;simp only[av,kh,or_false]at D;omega
theorem Wo {a:Axs} (h:AxOK a):LimX a:=⟨by have:=h.lim;omega,by have:=h.lim;omega,by have:=h.lim;omega⟩
theorem Zg4 {x:Ax3} (h:Ax3M x) {p q:Pt} (D:E0 p q):(FT x [p]/\FT x [p,p]/\FT x [p,p,p])/\FT x [p,p,p,q]/\FT x [p,p,q,q]/\FT x [p,q,q,q]:=by
 obtain⟨⟨a1,a2,a3⟩,a4,a5,a6⟩:=Qk2 (Wo h.a) D.1;obtain⟨⟨b1,b2,b3⟩,b4,b5,b6⟩:=Qk2 (Wo h.b) D.2.1;obtain⟨⟨G,I,L⟩,M,N,O⟩:=Qk2 (Wo h.c) D.2.2;exact⟨⟨⟨a1,b1,G⟩,⟨a2,b2,I⟩,⟨a3,b3,L⟩⟩,⟨a4,b4,M⟩,⟨a5,b5,N⟩,⟨a6,b6,O⟩⟩
theorem Zfo {x:Ax3} (h:Ax3M x) {p q:Pt} (G:E0 p q):∀j,j<7->FT x (Ks [p,p,p,q,q,q,q] j):=by
 obtain⟨⟨a1,a2,a3⟩,a4,a5,a6⟩:=Zg4 h G;intro j D;have D:j=0\/j=1\/j=2\/j=3\/j=4\/j=5\/j=6:=by omega
 rcases D with rfl|rfl|rfl|rfl|rfl|rfl|rfl
 ·exact a1
 ·exact a2
 ·exact a3
 ·exact a4
 ·exact a5
 ·exact a6
 ·exact Z6a h q
theorem Zdb {MS MF:Fn} {x:Ax3} {a b c m0 u l:Int} (D:MF [I a,I b,I c,I u,I 1,I 1,I m0,I m0,I m0]=some [.vC Aa [[I u]],B true]) (L:u<=V (l*256))
  (G:Out (λo=>bA o 0=true) (MS (pxt p x t [.vC Aa ([m0,m0,m0,u,u,u,u].map Aj)]))):
  Out (λo=>bA o 0=true) (Qh MS MF (pxt p x t [I a,I b,I c,I u,I 1,I 1,I m0,I m0,I m0,I l])):=by
 rw[Wh];refine .bind (p:=λo=>o=_) ⟨_,D,rfl⟩ λo e=> ?_;subst e;have e1:V ((([[I u]]:Rw).length:Int)-1)=0:=rfl;refine .cond (λc=>by cases c) λ_=> .cond (λ_=> ?_) λc=>by have c:(true:Bool)=false:=c;cases c
 show Out _ (bif decide (0<=V ((([[I u]]:Rw).length:Int)-1))&&decide (V ((([[I u]]:Rw).length:Int)-1)<(([[I u]]:Rw).length:Int))then _ else _);rw[e1];refine .cond (λ_=> ?_) λc=>by have c:(true:Bool)=false:=c;cases c
 refine .cond (λc=> ?_) λ_=> ?_
 ·have c:u>V (l*256):=Bg c;omega
 refine .cond (λ_=> ?_) λc=>by have c:(5*8).ble 140737488355328=false:=c;rw[BF (by omega)]at c;cases c
 refine .cond (λ_=> ?_) λc=>by have c:(7*8).ble 140737488355328=false:=c;rw[BF (by omega)]at c;cases c
 exact .bind G λo h=> .some h
theorem Zk4 (h:KOK K) {m0:Int} (O:0<=m0/\m0<=300000000000) (G:E0 (MK K m0) (MK K (m0+1))) {l:Int} (D:m0+1<=V (l*256)):
  Out (λo=>bA o 0=true) (Je (pxt K.p K.x K.t [I K.pa,I K.pb,I K.pc,I (m0+1),I 1,I 1,I m0,I m0,I m0,I l])):=by
 have L:∀u∈[m0,m0,m0,m0+1,m0+1,m0+1,m0+1],0<=u/\u<=1000000000000000:=λu M=>by
  simp only[av,kh,or_false]at M;omega
 have N:=Zvw (MA:=JW) (MM:=D9) (MN:=Hs) (x:=K.x) (p:=K.p) (t:=K.t) (λD=>Zvq D) (λu=>P7 h.f u) Z9b (way:=[m0,m0,m0,m0+1,m0+1,m0+1,m0+1]) (show 7<=100000 by omega) L (Zfo h.f.x G);exact Zdb (MS:=LK) (MF:=EA) (Q6o h.plan (by omega)) D N
theorem Ztn (h:KOK K) (I:K.p.aF≠[]) {c:Cv} (N:BL c=true) (o0:c.o0=100) (o1:c.o1=100) (o2:c.o2=false) (O:0<=c.m0/\c.m0<=300000000000) (T:E0 (MK K c.m0) (MK K (c.m0+1))) {l:Int} (U:c.m0+1<=V (l*256)):1<=nxV K c l:=by
 obtain⟨s1,s2,s3,s4⟩:=Q24.1 N;have D:=h.plan;have L:V (c.m0+1)=c.m0+1:=Ad;have M:V ((1:Int)-0)=1:=rfl;have X:Out (λo=>∃v:Int,o=Gy c.m0 0 c.m3 c.m4 v/\1<=v) (Fa (nxL K c l)):=by
  unfold nxL;rw[s1,s2,o0,o1,o2];refine Z7l (by have:=D.b;omega) (λv=> ?_) (λv=> ?_) Qfa (λv=> ?_) (Zj1 (by have:=D.b;omega))
  ·by_cases G:v=1
   ·subst G;have Y:c.m4=c.m0:=by omega
    have e3:c.m3=c.m0:=by omega
    rw[L,M,e3,Y];exact(Zk4 h O T U).mono λo q _=>q
   ·exact(Wa h.f D _ _ _ _ _ _ _).mono λo _ q=>absurd q G
  ·by_cases G:v=1
   ·subst G;rw[L,M];exact(Z3g h.f I D _ _ (by omega)).mono λo q _=>q
   ·exact(Qeu h.f _ _ _ _ _ _ _ _ _ _ _ _ _ _).mono λo _ q=>absurd q G
  ·rw[Q1x D];refine .some λq=> ?_;subst q;show decide (Ci K.pa K.pb 1 1)=true;exact ai (Za D)
 obtain⟨o,e,v,rfl,G⟩:=X;have:nxV K c l=v:=by unfold nxV;rw[e];rfl
 omega
structure MvF (K : Kf) : Prop where
 k:KOK K
 closed:K.closed=true
 len:K.len=As K.p.aF
 aX:∀g∈K.p.aF,g.aX=0
 aP:∀i:Int,0<=i->i<K.p.aD.length->(mkK K i).aP≠4/\((mkK K i).aP=3->(itK K (mkK K i).aU).aP=14/\(mkK K i).at_=K.len)
 close:∀u,0<=u->u<K.t.length->E0 (CR K.p K.x K.t u) (CR K.p K.x K.t (u+1))
 small:K.t.length<=2000000
structure Fm (K : Kf) (c : Cv) : Prop where
 g:Gd K 100 c
 ix:Ix A0 K c
 nx:c.next<=K.p.aD.length
 on:c.on=false
 en:c.aI=0
 t:c.aH=false
 g0:c.g0=0
 g1:c.g1=0
 o:c.o0=100/\c.o1=100/\c.o2=false/\c.o3=false/\c.o4=false
 y0:c.y0= -1
 e:B2 K c<=256*A4 K.t K.len
 l:c.m3=c.m0-c.m1
def CH (c:Cv):Int:=if BL c=true then 2 else if c.m1=0 then 1 else 0
theorem Vk (c:Cv):0<=CH c/\CH c<=2:=by unfold CH;(repeat' split)<;>omega
def mu (K:Kf) (c:Cv):Int:=3*(256*A4 K.t K.len-c.m0)+(2-CH c)+((K.p.aD.length:Int)-c.next)
theorem Q42 (h:KOK K) {c:Cv} (r:Fm K c):0<=mu K c:=by
 have D:=PX h c;have G:=r.e;have I:=r.nx;have L:=Vk c;unfold mu;omega
theorem Qt5 {c:Cv} (G:c.aH=false) (I:c.g0=0):∃d,Beg K c [] d/\d.o0=c.o0/\d.o1=c.o1/\d.o2=c.o2/\d.g1=c.g1/\d.aK=c.aK/\d.idx=c.idx/\d.aL=false:=by
 have L:KP (DY c)=DY c:=by
  unfold KP;rw[aa λq=>by rcases q with q|q;have q:c.aH=true:=q;rw[G]at q;cases q;exact q I]
 have D:E9 K c []=(K,Jb (I7 K (CD (DY c)))):=by
  unfold E9;rw[Zc6,L]
 have key:∀e:Cv,Rs c e->BL e=BL c->e.o0=c.o0->e.o1=c.o1->e.o2=c.o2->e.g1=c.g1->e.aK=c.aK->e.idx=c.idx->e.aL=false->E9 K c []=(K,Jb e)->∃d,Beg K c [] d/\d.o0=c.o0/\d.o1=c.o1/\d.o2=c.o2/\d.g1=c.g1/\d.aK=c.aK/\d.idx=c.idx/\d.aL=false:=
  λe s0 s1 e0 e1 e2 e3 M N O h=>⟨Jb e,⟨h,⟨s0.m0,s0.m1,s0.m2,s0.m3,s0.m4,s0.next,s0.on,s0.aI,s0.aH,s0.y0,s0.g0,s0.o3,s0.o4,s0.way,s0.home⟩,s1⟩,e0,e1,e2,e3,M,N,O⟩
 by_cases q:K8 K (CD (DY c))=true
 ·refine key (CD (DY c)) ⟨rfl,rfl,rfl,rfl,rfl,rfl,rfl,rfl,rfl,rfl,rfl,rfl,rfl,rfl,rfl⟩ rfl rfl rfl rfl rfl rfl rfl rfl ?_;rw[D];unfold I7;rw[ab q]
 ·refine key (spS (CD (DY c)) K.bF) ⟨rfl,rfl,rfl,rfl,rfl,rfl,rfl,rfl,rfl,rfl,rfl,rfl,rfl,rfl,rfl⟩ rfl rfl rfl rfl rfl rfl rfl rfl ?_;rw[D];unfold I7;rw[aa q]
def Sd (K:Kf) (d e:Cv):Prop:=e.way=d.way/\e.aK=d.aK/\e.aL=d.aL/\e.m1=d.m1/\e.m2=d.m2/\(e.on=true->0<=e.idx/\e.idx<K.p.aD.length)
theorem Z1g (m:MvF K) {d:Cv} (N:d.o3=false) {i:Int} (L:0<=i) (M:i<K.p.aD.length):
  E7 K d i=(3,dnC d i)\/((mkK K i).at_=K.len/\∃e:Cv,E7 K d i=(7,e)/\e.m0=d.m0/\e.g1=d.g1/\e.y0=d.y0/\Sd K d e):=by
 obtain⟨O,G⟩:=m.aP i L M;have U:=m.k.count;have T:Eg K d i=false:=by
  unfold Eg;by_cases q:(mkK K i).aP=1\/(mkK K i).aP=2\/(mkK K i).aP=6
  ·rw[ab q];exact N
  ·rw[aa q,aa O];by_cases D:(mkK K i).aP=3
   ·rw[ab D,(G D).1];rfl
   ·rw[aa D]
 unfold E7 Ir Qak;rw[aa (by show¬Eg K d i=true;rw[T];decide)];by_cases D:(mkK K i).aP=3
 ·have I:=(G D).1;refine .inr ⟨(G D).2,?_⟩;rw[aa (by show¬(mkK K i).aP≠3;exact λq=>q D),aa (by show¬(itK K (mkK K i).aU).aP=7;rw[I];decide),aa (by show¬(itK K (mkK K i).aU).aP=8;rw[I];decide),ab (by show(itK K (mkK K i).aU).aP=14;exact I)];exact⟨_,rfl,rfl,rfl,rfl,rfl,rfl,rfl,rfl,rfl,λ_=>⟨L,M⟩⟩
 ·rw[ab (by show(mkK K i).aP≠3;exact D)];refine .inl ?_;have e:V (i+1)=i+1:=Ad;show((3:Int),({d with next:=V (i+1),on:=false,idx:=0,aN:=false,cnt:=0}:Cv))=_;rw[e];rfl
def Zip (K:Kf) (d:Cv) (o:Int×Cv):Prop:=
 (BL d=true/\∃i:Int,d.next<=i/\i<K.p.aD.length/\o=(3,dnC d i))\/(o.1=7/\d.m0=V (A4 K.t K.len*256)/\o.2.m0=d.m0/\o.2.g1=d.g1/\Sd K d o.2)\/
 (¬(BL d=true/\d.m0=V ((AS K d).1*256))/\o=(1,Ej K d (AS K d).1))
theorem Q66 (m:MvF K) (mk:MarksOK K) {d:Cv} (g:Gd K 100 d) (ix:Ix A0 K d) (N:d.o3=false) (hy:d.y0= -1) (O:d.g0=0) (M:d.aM=BL d) (G:d.on=false):Zip K d (BP K d):=by
 unfold BP;by_cases D:BL d=true/\d.m0=V ((AS K d).1*256)
 ·rw[ab (show d.aM=true/\d.m0=V ((AS K d).1*256)from⟨M.trans D.1,D.2⟩)];rcases Vn m.k mk g (by omega) (λk T=>Qfp (c:=d) k T) ix.m0 ix.next ix.j with⟨e,-⟩|⟨j,e,U,I,-⟩
  ·rw[e]at D⊢;rw[aa (by dsimp only;omega),ab m.closed];exact .inr (.inl ⟨rfl,D.2,rfl,rfl,rfl,rfl,rfl,rfl,rfl,λq=>by have q:d.on=true:=q;rw[G]at q;cases q⟩)
  ·have h0:=ix.next;rw[e]at D⊢;dsimp only;rw[ab (show 0<=j by omega)];have hi:=(Rc m.k (show 0<=j by omega) I).1;rcases Z1g m N (show 0<=j by omega) I with q|⟨a,X,q,Y,L,q2,q3⟩
   ·rw[q];refine .inl ⟨D.1,j,U,I,aa λq=> ?_⟩;have L:(mkK K j).aU=d.y0:=q.1;omega
   ·rw[q];rw[aa λq=>by
     have L:(mkK K j).aU=X.y0:=q.1;omega]
    dsimp only at D;rw[a]at D;exact .inr (.inl ⟨rfl,D.2,Y,L,q3⟩)
 ·rw[aa (show¬(d.aM=true/\d.m0=V ((AS K d).1*256))from λq=>D ⟨M.symm.trans q.1,q.2⟩)];refine .inr (.inr ⟨D,?_⟩);rw[aa (λq=>q.1 O)];unfold LA;rw[ab (.inl (Zmb m.aX d))]
end Go.Bm
