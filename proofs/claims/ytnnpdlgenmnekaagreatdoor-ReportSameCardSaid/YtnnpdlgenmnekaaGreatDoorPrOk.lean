/- laid together -/
import Derived.Test.YtnnpdlgenmnekaaGreatDoorPrPl
import Derived.Test.YtnnpdlgenmnekaaGreatDoorPrAtF
import Derived.Test.YtnnpdlgenmnekaaGreatDoorPrLc
import Derived.Test.YtnnpdlgenmnekaaGreatDoorMx3
import Derived.Test.YtnnpdlgenmnekaaGreatDoorMy1
set_option linter.unusedVariables false
set_option linter.unusedSimpArgs false
set_option maxRecDepth 100000
variable {K:Go.Bm.Kf} {i A:Nat} {a v:Int} {M Z W T:Go.Bm.Fn} {l:Go.Bm.Rw} {E:List Go.Bm.Evn} {H:Go.Bm.Pt}
noncomputable section
open Go.IntKind (wrap)
namespace Go.Bm
theorem Q5w (h:KOK K) {n:Int} {c:Cv} (g:Gd K n c) (G:0<=n/\n<=10000) {v:Int} (D:(Bh K.pa K.pb v (V (v-c.m1))).2=true\/∃r:Int,v=V (c.m1+r)/\r=AJ K.pa K.pb c.m1 c.m2):c.m0<=V (c.m0+v):=by
 have I:=g.m0;have L:=Io h.plan (Jr.1 (Qui h g.mo D)).1;rw[Ae];omega
theorem Q04 (h:KOK K) {n:Int} {c:Cv} (g:Gd K n c) (D:0<=n/\n<=10000) (l:Int):c.m0<=(EG K c l).m0:=Q5w h g D (Qj1 h g l).2
theorem Qek (c:Cv):(DF c).m0=c.m0:=by unfold DF;split<;>rfl
theorem Q4d (h:KOK K) {n:Int} {c:Cv} (g:Gd K n c) (D:0<=n/\n<=10000) (l:Int) {s:Sgm} (I:i64 s.aX):c.m0<=(Gf K c l s).m0:=by
 have G:=Q04 h g D l;unfold Gf;split
 ·exact G
 ·unfold KI;split
  ·exact G
  ·obtain⟨-,v,N,b,z,y,e,L,M⟩:=Qpd h g l I;have e1:gA (thO K c l s.aX) 1=v:=by rw[L];rfl
   have up:=Q5w h g D M;have e2:(JR c (thO K c l s.aX)).m0=V (c.m0+v):=by
    show V (c.m0+gA (thO K c l s.aX) 1)=_;rw[e1]
   split
   ·rw[Qek,e2];exact up
   ·rw[e2];exact up
theorem Zks (h:KOK K) {n:Int} {c:Cv} (g:Gd K n c) (D:0<=n/\n<=10000) (l:Int):c.m0<=(FZ K c l).m0:=by
 unfold FZ;split
 ·exact Q04 h g D l
 ·rename_i I;have G:(vF K c).aX≠0:=λe=>I (.inl e);split
  ·exact Q4d h g D l (Gx h G).2.2
  ·split
   ·exact Q4d h (g.go (vF K c)) D l (Gx h G).2.2
   ·split
    ·rw[Qek];exact dt _
    ·exact dt _
theorem Zwm (h:KOK K) {n:Int} {c:Cv} (g:Gd K n c) (D:0<=n/\n<=10000):c.m0<=(Dv K c).2.m0:=by
 unfold Dv;split
 ·have b:=Qnw K c (Bg K c).2;split
  ·split
   ·rw[Qek,b.m0];exact dt _
   ·rw[b.m0];exact dt _
  ·split
   ·exact dt _
   ·exact dt _
 ·exact Zks h g D _
theorem Zh0 (h:KOK K) {n:Int} {c:Cv} (g:Gd K n c) (L:0<=n/\n<=10000) (E:List Evn) (M:(BN K c E).g0≠2):c.m0<=(stC K c E).2.m0:=by
 have N:=T0 g E;have e0:(BN K c E).m0=c.m0:=(SI K c E).m0;rw[<-e0];unfold stC;generalize BN K c E=d at*;unfold BJ;rw[aa M];by_cases D:d.aI≠0
 ·rw[ab D,aa D];exact dt _
 ·rw[aa D];by_cases G:d.aH=true/\d.aM=true
  ·rw[ab G,aa (by simp)];exact dt _
  ·rw[aa G];by_cases I:d.on=true
   ·rw[ab I,aa (show¬(B9 K d).1=0 from Zn K _),(Ub K d).m0];exact dt _
   ·rw[aa I,ab rfl];exact Zwm h N L
theorem Gg.ne2 {c:Cv} (h:Gg c):c.g0≠2:=by rcases h with h|h<;>omega
theorem Z2g (h:KOK K) {n:Int} {c:Cv} (g:Gd K n c) (D:0<=n/\n<=10000) {E:List Evn} (G:∀e∈E,e.aP<=6) (I:Gg c):
  c.m0<=(C9 K c E).m0/\Jl K (AI (BZ c E)) (AI (stC K c E).2)=EZ (FI K.p K.x K.t) K.t (AI c) (AI (C9 K c E)):=by
 have up:=Zh0 h g D E (Q7j (K:=K) G I).ne2;have e0:=(Zn9 K c E).2.2.2.2;have L:AI (C9 K c E)=AI (stC K c E).2:=by
  show V ((C9 K c E).m0.tdiv 256)=V ((stC K c E).2.m0.tdiv 256);rw[e0]
 refine⟨by rw[e0];exact up,?_⟩;have b1:=Sb g (by omega);have b2:=Sb (R3 h g D E).1 (by omega);rw[L,show AI (BZ c E)=AI c from Z80 (c:=HE c) (Qqy c E)];exact Z30 h (by omega)
theorem Q6t {n m:Int} {c d:Cv} (D:Gd K n c) (G:Gd K m d) (L:0<=n/\n<=10000) (M:0<=m/\m<=10000) (I:0<=c.m0) (h:c.m0<=d.m0):0<=AI c/\AI c<=AI d/\AI d<=65536*m:=by
 have N:=D.m0;have O:=G.m0;have e1:AI c=c.m0/256:=by
  show V (c.m0.tdiv 256)=_;rw[bp I,Ae]
 have e2:AI d=d.m0/256:=by
  show V (d.m0.tdiv 256)=_;rw[bp (by omega),Ae]
 omega
end Go.Bm
namespace Go.Bm
open Classical
end Go.Bm
namespace Go.Bm
end Go.Bm
namespace Go.Bm
open Classical
theorem Z3l {l m:Rw} (N:Src l) (D:Src m) (O:m.length<=100000):∃(x:Ax3) (a b c bF lag:Int),Qj [.vC Aa l, .vC Aa m]=some (AE x++[I a,I b,I c,I bF,I lag])/\MachOK x (a+50) (b+10) (c+2000) bF lag/\(1<=a/\a<=900)/\(2<=b/\b<=201)/\(1<=c/\c<=16000):=by
 obtain⟨x,S,T⟩:=Zzg N;obtain⟨a,b,c,U,G,L,M⟩:=Zk6 (MF:=Cu) (Hg D) (Ql m);obtain⟨bF,lag,g1,g2⟩:=Zik (MP:=Rq) (MF:=Cu) (Hg D) (Ql m) S T U G L M O;exact⟨x,a,b,c,bF,lag,g1,⟨g2.x,⟨by omega,by omega,by omega⟩,g2.bF,g2.lag⟩,G,L,M⟩
end Go.Bm
namespace Go.Bm
def qI (it:Itm):Itm:=if it.aP=2\/it.aP=3 then{it with aZ:=2000000}else it
abbrev K3:List AC:=[I 0,I 0,I 0,I 0,I 0,I 0,I 0,I 0,I 0, .vC Aa [],I 0,I 0,I 0,I 0,I 0,I 0,I 0,I 0,I 0, .vC Aa [],I 0,I 0,I 0,I 0,I 0,I 0,I 0,I 0,I 0, .vC Aa [],I 0,I 0,I 0,I 0,I 0]
theorem Z5r {aA:List Itm} (hl:aA.length<=100000) {x:Ax3} {p0 p1 p2 p3 p4:Int}:
  Out (λo=>o=(1, .vC Ah ((aA.map qI).map Ag)::(AE x++([I p0,I p1,I p2,I p3,I p4]++K3))))
   (Am Qhk (.vC Ah (((aA.take 0).map qI++aA.drop 0).map Ag)::I ((aA.map Ag).length:Int)::I ((0:Nat):Int)::(AE x++([I p0,I p1,I p2,I p3,I p4]++K3)))):=by
 refine C1 (λk:Nat=> .vC Ah (((aA.take k).map qI++aA.drop k).map Ag)::I ((aA.map Ag).length:Int)::I (k:Int)::(AE x++([I p0,I p1,I p2,I p3,I p4]++K3)))
  (λk=>k<=aA.length) (λk=>aA.length-k) _ ?_ 0 (Nat.zero_le _)
 intro k hk;refine Out.eqv (Zzc (((aA.take k).map qI++aA.drop k).map Ag) ((aA.map Ag).length:Int) k x.a.step x.a.aS x.a.bD x.a.bE x.a.low x.a.aY x.a.bB x.a.aV x.a.aO (x.a.aW.map Aq) x.b.step x.b.aS x.b.bD x.b.bE x.b.low x.b.aY x.b.bB x.b.aV x.b.aO (x.b.aW.map Aq) x.c.step x.c.aS x.c.bD x.c.bE x.c.low x.c.aY x.c.bB x.c.aV x.c.aO (x.c.aW.map Aq) p0 p1 p2 p3 p4 0 0 0 0 0 0 0 0 0 [] 0 0 0 0 0 0 0 0 0 [] 0 0 0 0 0 0 0 0 0 [] 0 0 0 0 0) ?_;have el:((aA.map Ag).length:Int)=aA.length:=by rw[ah]
 have S:(((aA.take k).map qI++aA.drop k).map Ag).length=aA.length:=by
  rw[ah,ap,ah,gx,dg];omega
 refine .cond (λM=> ?_) λM=> ?_
 ·have M:=BC M;have L:k<aA.length:=by omega
  have T:aA.drop k=aA[k]::aA.drop (k+1):=ic L;have U:((aA.take k).map qI).length=k:=by rw[ah,gx];omega
  have N:nth [] (((aA.take k).map qI++aA.drop k).map Ag) (k:Int).toNat=Ag aA[k]:=by
   rw[ak,FC [] _ k (by rw[S];exact L),iq,List.getElem_append_right (by rw[U];exact co _)];simp only[U,iw,T,List.getElem_cons_zero]
  have Y:(aA.take (k+1)).map qI++aA.drop (k+1)=(aA.take k).map qI++qI aA[k]::aA.drop (k+1):=by
   rw[i6,al L,bv,fa];rfl
  have es:∀it:Itm,(((aA.take k).map qI++aA.drop k).map Ag).set (k:Int).toNat (Ag it)=((aA.take k).map qI++it::aA.drop (k+1)).map Ag:=λit=>by
   rw[T,bv,ba,bv,ba,ak];have:=Z6d (((aA.take k).map qI).map Ag) (Ag aA[k]) (Ag it) ((aA.drop (k+1)).map Ag);rw[ah,U]at this;exact this
  have fin:(aA[k].aP=2\/aA[k].aP=3)->Out (λo=>(o.1=0/\∃O:Nat,o.2= .vC Ah (((aA.take O).map qI++aA.drop O).map Ag)::I ((aA.map Ag).length:Int)::I (O:Int)::(AE x++([I p0,I p1,I p2,I p3,I p4]++K3))/\O<=aA.length/\aA.length-O<aA.length-k)\/o.1≠0/\o=(1, .vC Ah ((aA.map qI).map Ag)::(AE x++([I p0,I p1,I p2,I p3,I p4]++K3))))
    (bif decide (0<=(k:Int))&&decide ((k:Int)<((((aA.take k).map qI++aA.drop k).map Ag).length:Int))then some ((0:Nat), .vC Ah ((((aA.take k).map qI++aA.drop k).map Ag).set (k:Int).toNat (Ag {aA[k]with aZ:=2000000}))::I ((aA.map Ag).length:Int)::I (V ((k:Int)+1))::(AE x++([I p0,I p1,I p2,I p3,I p4]++K3)))else none):=λhq=>by
   refine .cond (λ_=> ?_) λe=>(inB (by omega) (by rw[S];omega) e).elim;have X:qI aA[k]={aA[k]with aZ:=2000000}:=by unfold qI;rw[ab hq]
   rw[Ae (x:=(k:Int)+1),es,<-X,<-Y];exact .some (.inl ⟨rfl,k+1,rfl,by omega,by omega⟩)
  refine .cond (λ_=> ?_) λe=>(inB (by omega) (by rw[S];omega) e).elim;refine .cond (λD=> ?_) λD=> ?_
  ·rw[N]at D;have D:(aA[k].aP==2)=true:=D;refine Out.eqv ?_ (fin (.inl (by simpa using D)));show(bif _ then _ else _)=_;rw[N];rfl
  ·refine .cond (λ_=> ?_) λe=>(inB (by omega) (by rw[S];omega) e).elim;refine .cond (λG=> ?_) λG=> ?_
   ·rw[N]at G;have G:(aA[k].aP==3)=true:=G;refine Out.eqv ?_ (fin (.inr (by simpa using G)));show(bif _ then _ else _)=_;rw[N];rfl
   ·rw[N]at D G;have D:(aA[k].aP==2)=false:=D;have G:(aA[k].aP==3)=false:=G;have X:qI aA[k]=aA[k]:=by unfold qI;rw[aa (by rintro(h|h)<;>simp[h]at D G)]
    refine .some (.inl ⟨rfl,k+1,?_,by omega,by omega⟩);dsimp only;rw[Y,X,<-T,Ae (x:=(k:Int)+1)];rfl
 ·have M:=BB M;have e:k=aA.length:=by omega
  refine .some (.inr ⟨by simp,?_⟩);rw[e,ip,List.drop_length,fw];rfl
theorem Z81 {aA:List Itm} (G:aA.length<=100000) (x:Ax3) {p0 p1 p2:Int} (p3 p4:Int) (L:0<=p0/\p0<=1000000) (M:0<=p1/\p1<=1000000) (N:0<=p2/\p2<=1000000):
  OP (.vC Ah (aA.map Ag)::(AE x++[I p0,I p1,I p2,I p3,I p4]))=some (.vC Ah ((aA.map qI).map Ag)::(AE x++[I (p0+50),I (p1+10),I (p2+2000),I p3,I p4])):=by
 obtain⟨o,D,rfl⟩:=Z5r G (x:=x) (p0:=p0) (p1:=p1) (p2:=p2) (p3:=p3) (p4:=p4);refine dh (Z70 Q7 (aA.map Ag) x.a.step x.a.aS x.a.bD x.a.bE x.a.low x.a.aY x.a.bB x.a.aV x.a.aO (x.a.aW.map Aq) x.b.step x.b.aS x.b.bD x.b.bE x.b.low x.b.aY x.b.bB x.b.aV x.b.aO (x.b.aW.map Aq) x.c.step x.c.aS x.c.bD x.c.bE x.c.low x.c.aY x.c.bB x.c.aV x.c.aO (x.c.aW.map Aq) p0 p1 p2 p3 p4) ?_;have D:Q7 (.vC Ah (aA.map Ag)::I ((aA.map Ag).length:Int)::I 0::(AE x++([I p0,I p1,I p2,I p3,I p4]++K3)))=_:=D;refine eB D (eT rfl ?_);rw[<-Ae (x:=p0+50),<-Ae (x:=p1+10),<-Ae (x:=p2+2000)];rfl
def Ol (m:Int):Bool:=m==7||m==8
def Du (E:List Evn):Nat->Nat->Kf->Cv->Rw
 |0,_,_,_=>[]
 |n+1,k,K,c=>tkA K c (atE E k)::if Ol (stA K c (atE E k)).1=true then []else Du E n (k+1) (G3 K c (atE E k)).1 (G3 K c (atE E k)).2
theorem Qki (E:List Evn):∀(n k:Nat) (K:Kf) (c:Cv),(Du E n k K c).length<=n
 |0,_,_,_=>co _
 |n+1,k,K,c=>by
  have:=Qki E n (k+1) (G3 K c (atE E k)).1 (G3 K c (atE E k)).2;unfold Du;split
  ·simp
  ·simpa using this
abbrev tV (l:Rw):AC:= .vC [Kd.sl kPt,Kd.sl Aa,kI,kI,kI,kI,kI,kI,kI] l
theorem Zoo (D:E.length<=1000000) (k:Int):OY [.vC kPt (E.map evR),I k]=some [.vC kPt ((atE E k).map evR)]:=by
 have G:Am Ur [.vC kPt [],I k, .vC kPt (E.map evR),I E.length,I ((0:Nat):Int)]=some (1,[.vC kPt ((E.filter λe=>e.cycle==k).map evR)]):=by
  refine Qxb (P:=λe=>e.cycle==k) D (enc:=λl i=>[.vC kPt l,I k, .vC kPt (E.map evR),I E.length,I (i:Int)]) λl i M L=> ?_;rw[Zix];by_cases h:i<E.length
  ·rw[jh h,By (by simp;omega),By (by simp;omega),Tx E h,Ae (x:=(i:Int)+1)];by_cases c:(E[i].cycle==k)=true
   ·rw[By (show(gA (evR E[i]) 0==k)=true from c),Cg (by simp;omega),ab c];rfl
   ·rw[Be (show(gA (evR E[i]) 0==k)=false from Bool.eq_false_iff.2 c),aa c,fw];rfl
  ·rw[dif_neg h,Be (by simp;omega)]
 show Qq8 (Am Ur) [.vC kPt (E.map evR),I k]=_;rw[Z88,ah];rw[show(0:Int)=((0:Nat):Int)from rfl,G];rfl
def VE:Int->List Evn->Prop
 |_,[]=>True
 |p,e::l=>(p<=e.cycle/\e.cycle<=1073741824/\1<=e.aP/\e.aP<=13/\ -1073741824<=e.n/\e.n<=1073741824)/\VE e.cycle l
theorem Qvx {E:List Evn} (L:E.length<=2000):∀(m i:Nat) (p:Int),i+m=E.length->VE p (E.drop i)->Am Mq [I p, .vC kPt (E.map evR),I E.length,I (i:Int)]=some (2,[])
 |0,i,p,h,_=>by
  have e:Mq [I p, .vC kPt (E.map evR),I E.length,I (i:Int)]=some (2,[]):=by
   rw[Zax];exact eF (an (by omega)) rfl
  exact A1 e (by simp)
 |m+1,i,p,h,D=>by
  have G:i<E.length:=by omega
  rw[ic G]at D;obtain⟨⟨M,N,O,S,T,U⟩,D⟩:=D;have e:Mq [I p, .vC kPt (E.map evR),I E.length,I (i:Int)]=some (0,[I E[i].cycle, .vC kPt (E.map evR),I E.length,I ((i+1:Nat):Int)]):=by
   rw[Zax];refine eT (aj (by omega)) (eT (by rw[ah];simp;omega) ?_);rw[Tx E G,Ae (x:=(i:Int)+1)];exact eF (an (show¬E[i].cycle<p by omega)) (eF (an (show¬E[i].cycle>1073741824 by omega)) (eF (an (show¬E[i].aP<1 by omega)) (eF (an (show¬E[i].aP>13 by omega)) (eF (an (show¬E[i].n< -1073741824 by omega)) (eF (an (show¬E[i].n>1073741824 by omega)) rfl)))))
  rw[Bc e];exact Qvx L m (i+1) _ (by omega) D
theorem Zq1 (D:E.length<=2000) (h:VE 0 E):OL [.vC kPt (E.map evR)]=some [B true]:=by
 show Ql0 (Am Mq) [.vC kPt (E.map evR)]=_;rw[Zxc,ah];exact eF (an (by omega)) (eB (Qvx D E.length 0 0 (by omega) h) rfl)
structure RunI (MS : Fn) (E : List Evn) (n0 : Nat) (J : Nat -> Kf -> Cv -> Prop) : Prop where
 step:∀(k:Nat) (K:Kf) (c:Cv),J k K c->k<n0->MS (.vC kPt ((atE E k).map evR)::Ad K c)=some (tkA K c (atE E k)++Ad (G3 K c (atE E k)).1 (G3 K c (atE E k)).2)
 next:∀(k:Nat) (K:Kf) (c:Cv),J k K c->k<n0->Ol (stA K c (atE E k)).1=false->J (k+1) (G3 K c (atE E k)).1 (G3 K c (atE E k)).2
theorem Zbj {MS G MN MV:Fn} {E:List Evn} {n0:Nat} (S:n0<=1073741824) {J:Nat->Kf->Cv->Prop} (L:RunI MS E n0 J) (M:∀k:Nat,G [.vC kPt (E.map evR),I k]=some [.vC kPt ((atE E k).map evR)]):
  ∀(n k:Nat) (acc:Rw) (K:Kf) (c:Cv),k+n=n0->acc.length<=k->J k K c->
   Am (On MS G MN MV) (tV acc:: .vC kPt (E.map evR)::I n0::I k::Ad K c)=some (1,[tV (acc++Du E n k K c)])
 |0,k,acc,K,c,h,_,_=>by
  have e:On MS G MN MV (tV acc:: .vC kPt (E.map evR)::I n0::I k::Ad K c)=some (1,[tV acc]):=by
   rw[Q7b];exact eF (an (by omega)) rfl
  rw[A1 e (by simp),Du,fw]
 |n+1,k,acc,K,c,h,V,N=>by
  have T:=L.step k K c N (by omega);have hb:Nat.ble ((acc++[tkA K c (atE E k)]).length*104) 140737488355328=true:=Cg (by rw[ap,dv];omega);have key:∀{r:Option (Nat×List AC)},(bif(stA K c (atE E k)).1==7 then some (1,[tV (acc++[tkA K c (atE E k)])])else bif(stA K c (atE E k)).1==8 then some (1,[tV (acc++[tkA K c (atE E k)])])else some (0,tV (acc++[tkA K c (atE E k)]):: .vC kPt (E.map evR)::I n0::I ((k+1:Nat):Int)::Ad (G3 K c (atE E k)).1 (G3 K c (atE E k)).2))=r->
    On MS G MN MV (tV acc:: .vC kPt (E.map evR)::I n0::I k::Ad K c)=r:=by
   rintro r rfl;rw[Q7b];refine eT (aj (by omega)) (eB (M k) (eB T (eT hb ?_)));rw[Ae (x:=(k:Int)+1)];rfl
  rw[Du];cases D:Ol (stA K c (atE E k)).1
  ·have O:((stA K c (atE E k)).1==7)=false/\((stA K c (atE E k)).1==8)=false:=by unfold Ol at D;simpa using D
   rw[Bc (key (by rw[O.1,O.2];rfl)),aa (by simp),Zbj S L M n (k+1) _ _ _ (by omega) (by rw[ap,dv];omega) (L.next k K c N (by omega) D),fa];rfl
  ·rw[ab rfl];refine A1 (key ?_) (by simp);unfold Ol at D;cases U:(stA K c (atE E k)).1==7
   ·rw[U]at D;have D:((stA K c (atE E k)).1==8)=true:=D;rw[D];rfl
   ·rfl
theorem Zhk (U:i<=1073741824) {J:Nat->Kf->Cv->Prop} (V:RunI M E i J) (X:∀k:Nat,Z [.vC kPt (E.map evR),I k]=some [.vC kPt ((atE E k).map evR)])
  (hV:T [.vC kPt (E.map evR)]=some [B true]) {x:Ax3} {G L N O S:Int} {D:Rw} {K:Kf} {c:Cv} (Y:W (AE x++[I G,I L,I N,I O,I S]++[.vC Ah D,B true])=some (I 0::Ad K c)) (h0:J 0 K c):
  Qim M Z W T (Am (On M Z W T)) (AE x++[I G,I L,I N,I O,I S]++[.vC Ah D, .vC kPt (E.map evR),I (i:Int)])=some [tV (Du E i 0 K c),I 0]:=by
 refine dh (Zpa M Z W T _ x.a.step x.a.aS x.a.bD x.a.bE x.a.low x.a.aY x.a.bB x.a.aV x.a.aO (x.a.aW.map Aq) x.b.step x.b.aS x.b.bD x.b.bE x.b.low x.b.aY x.b.bB x.b.aV x.b.aO (x.b.aW.map Aq) x.c.step x.c.aS x.c.bD x.c.bE x.c.low x.c.aY x.c.bB x.c.aV x.c.aO (x.c.aW.map Aq) G L N O S D (E.map evR) i) ?_;have hl:=Zbj (MN:=W) (MV:=T) U V X i 0 [] K c (by omega) (co _) h0;exact eB hV (eF rfl (eF (an (by omega)) (eB Y (eF rfl (eB hl (eT rfl rfl))))))
theorem Qxa (S:E.length<=2000) (T:VE 0 E) {n0:Nat} (U:n0<=1073741824) {J:Nat->Kf->Cv->Prop} (V:RunI JT E n0 J)
  {x:Ax3} {G L M N O:Int} {D:Rw} {K:Kf} {c:Cv} (X:JP (AE x++[I G,I L,I M,I N,I O]++[.vC Ah D,B true])=some (I 0::Ad K c)) (Y:J 0 K c):
  Jw (AE x++[I G,I L,I M,I N,I O]++[.vC Ah D, .vC kPt (E.map evR),I (n0:Int)])=some [tV (Du E n0 0 K c),I 0]:=
 Zhk U V (λk=>Zoo (by omega) k) (Zq1 S T) X Y
theorem Q6e {c:Cv} (h:IV E):QD K c E=(K,BZ c E):=by
 have key:∀(E:List Evn) (d:Cv),(∀e∈E,e.aP≠7/\e.aP≠12/\e.aP≠13)->E.foldl (λs e=>evA s e.aP e.n) (K,d)=(K,E.foldl (λc e=>evC c e.aP e.n) d):=by
  intro E;induction E with
  |nil=>intro d _;rfl
  |cons e E D=>
   intro d h;have he:=h e (by simp);have G:evA (K,d) e.aP e.n=(K,evC d e.aP e.n):=by
    unfold evA;rw[aa he.2.2,aa he.2.1,aa he.1]
   rw[fh,fh,G];exact D _ λx I=>h x (by simp[I])
 exact key E (HE c) h.2
theorem Zmu {c:Cv} (h:IV E):FP K c E=(K,BN K c E):=by
 unfold FP BN;rw[Q6e h]
theorem Zuk {c:Cv} (h:(BJ K c).1=0):(BJ K c).2=c:=by
 unfold BJ at h⊢;by_cases G:c.g0=2
 ·rw[ab G]at h;cases h
 ·rw[aa G]at h⊢;by_cases D:c.aI≠0
  ·rw[ab D]at h;exact absurd h D
  ·rw[aa D]at h⊢;by_cases I:c.aH=true/\c.aM=true
   ·rw[ab I]at h;cases h
   ·rw[aa I]at h⊢;by_cases L:c.on=true
    ·rw[ab L]at h;exact absurd h (Z5a K c)
    ·rw[aa L]
theorem SX {n:Int} {c:Cv} (g:Gd K n c) {E:List Evn} (h:IV E):stA K c E=((stC K c E).1,K,(stC K c E).2):=by
 have G:=T0 g E;have e:Mr K (BN K c E)=((BJ K (BN K c E)).1,K,(BJ K (BN K c E)).2):=by
  unfold Mr;by_cases D:(BJ K (BN K c E)).1≠0
  ·rw[ab D]
  ·rw[aa D,aa (by rw[G.way];simp)];have D:(BJ K (BN K c E)).1=0:=by simpa using D
   rw[D,Zuk D]
 unfold stA stC;rw[Zmu h];dsimp only;rw[e];dsimp only;by_cases D:(BJ K (BN K c E)).1=0
 ·rw[ab D,ab D]
 ·rw[aa D,aa D]
theorem Qjq {n:Int} {c:Cv} (G:KOK K) (g:Gd K n c) (I:0<=n/\n<=10000) {E:List Evn} (h:IV E):G3 K c E=(K,C9 K c E)/\tkA K c E=tkC K c E:=by
 have D:=R3 G g I E;have L:=D.1.way;have M:(stC K c E).2.aL=false:=D.2.aL;unfold G3 tkA C9 tkC Q5u;rw[SX g h,Q6e h];dsimp only;unfold Qgs Qy9;rw[ab L,M];exact⟨rfl,rfl⟩
def B3:Rw->Rw
 |[]=>[]
 |t::l=>wA t 0++B3 l
theorem Zkh (M:Int->Pt) (t:Trk) (a:Int):EZ M t a a=[]:=by
 unfold EZ;rw[Int.sub_self];rfl
theorem Sd {K:Kf} (h:KOK K) {E:List Evn} (U:E.length<=1000000) (N:∀e∈E,e.aP<=6):∀(n k m:Nat) (c:Cv),Gd K m c->Cm c->Gg c->0<=c.m0->m+n<=9999->
  ∃u:Int,0<=AI c/\AI c<=u/\u<=655360000/\B3 (Du E n k K c)=EZ (FI K.p K.x K.t) K.t (AI c) u
 |0,k,m,c,g,_,_,I,V=>by
  have D:=Q6t g g (by omega) (by omega) I (dt _);exact⟨AI c,D.1,dt _,by omega,by rw[Zkh];rfl⟩
 |n+1,k,m,c,g,X,O,I,V=>by
  have G:∀e∈atE E k,e.aP<=6:=λe he=>N e (Qww he);have calm:IV (atE E k):=⟨by have:=Q4y E k;omega,λe he=>by have:=G e he;omega⟩;have S:=Qjq h g (by omega) calm;have e1:(stA K c (atE E k)).1=(stC K c (atE E k)).1:=by rw[SX g calm]
  have cp:=Z2g h g (by omega) (E:=atE E k) G O;have g2:=Qcx h g (by omega) (atE E k);have L:Gd K ((m+1:Nat):Int) (C9 K c (atE E k)):=by
   have e:((m+1:Nat):Int)=(m:Int)+1:=by omega
   rw[e];exact g2
  have D:=Q6t g g2 (by omega) (by omega) I cp.1;have s:=Zdz (K:=K) X (atE E k);have M:=s.2 (Q7j G O);unfold Du;rw[S.1,S.2];dsimp only;have Y:wA (tkC K c (atE E k)) 0=EZ (FI K.p K.x K.t) K.t (AI c) (AI (C9 K c (atE E k))):=cp.2;unfold B3;rw[Y];split
  ·refine⟨AI (C9 K c (atE E k)),D.1,D.2.1,by omega,?_⟩;show _++[]=_;rw[fw]
  ·obtain⟨u,u0,T,u2,u3⟩:=Sd h U N n (k+1) (m+1) (C9 K c (atE E k)) L s.1 M (jz I cp.1) (by omega);refine⟨u,D.1,jz D.2.1 T,u2,?_⟩;rw[u3];exact(Qcm h.f.t.q.len.1 D.2.1 T).symm
theorem Z5g (h:KOK K) {E F:List Evn} (D:E.length<=1000000) (G:F.length<=1000000) (I:∀e∈E,e.aP<=6) (L:∀e∈F,e.aP<=6) {n:Nat} (T:n<=9999):
  ∃l:Rw,B3 (Du E n 0 K Bb)=B3 (Du F n 0 K Bb)++l\/B3 (Du F n 0 K Bb)=B3 (Du E n 0 K Bb)++l:=by
 have g:Gd K ((0:Nat):Int) Bb:=Qwg h E 0 (by omega);have gg:Gg Bb:= .inl ⟨rfl,rfl,rfl⟩;obtain⟨u,U,M,-,N⟩:=Sd h D I n 0 0 Bb g cm0 gg (dt _) (by omega);obtain⟨v,V,O,-,S⟩:=Sd h G L n 0 0 Bb g cm0 gg (dt _) (by omega);rw[N,S];by_cases q:u<=v
 ·exact⟨_, .inr (Qcm h.f.t.q.len.1 M q)⟩
 ·exact⟨_, .inl (Qcm h.f.t.q.len.1 O (by omega))⟩
theorem Zs7 (E:List Evn) (n k:Nat) (K:Kf) (c:Cv):0<n->(Du E n k K c).length≠0:=by
 intro D;cases n with
 |zero=>omega
 |succ n=>unfold Du;simp
theorem Qsm {n0:Nat} (I:n0<=9999) (D:∀k:Nat,IV (atE E k)):RunI JT E n0 λk K c=>KOK K/\Gd K (k:Int) c:=by
 refine⟨λk K c h G=> ?_,λk K c h G _=> ?_⟩
 ·obtain⟨e1,e2⟩:=Qjq h.1 h.2 (by omega) (D k);rw[e1,e2];exact Z2d h.1 h.2 (by omega) (D k)
 ·obtain⟨e1,-⟩:=Qjq h.1 h.2 (by omega) (D k);rw[e1];exact⟨h.1,Qcx h.1 h.2 (by omega) _⟩
theorem Z5n (l:Rw) (t:List AC) (D:l.length<=1073741824):P0 [tV (l++[t])]=some [B (gA t 2==7)]:=by
 show YL _=_;rw[Zt5];have e:((l++[t]).length:Int)=l.length+1:=by rw[ap,dv];omega
 rw[e,Ae (x:=(l.length:Int)+1-1),show(l.length:Int)+1-1=l.length by omega];refine eT (aj (by omega)) (eT (by rw[aj (by omega),aj (by omega)];rfl) ?_);rw[ak,FC [] _ l.length (by rw[ap,dv];omega),List.getElem_append_right (co _)];simp only[iw,List.getElem_singleton]
theorem Z7b:Du [] 5 0 (kX []) Bb=[tkA (kX []) Bb []]:=by
 have h:(stA (kX []) Bb []).1=7:=by rw[SX (gd0 []) Qn2];exact Qtb
 show tkA (kX []) Bb []::(if Ol (stA (kX []) Bb []).1=true then []else _)=_;rw[h];rfl
theorem Z71:JX 0=⟨#[48]⟩:=by
 unfold JX Lib.itoa;rw[aa (by decide),Lib.decDigits,jh (by decide)];rfl
theorem Zw1:JX 7=⟨#[55]⟩:=by
 unfold JX Lib.itoa;rw[aa (by decide),Lib.decDigits,jh (by decide)];rfl
theorem Zuc:JX 160=⟨#[49,54,48]⟩:=by
 unfold JX Lib.itoa;rw[aa (by decide),show(160:Int).toNat=160 from rfl,Lib.decDigits,dif_neg (by decide),show 160/10=16 from rfl,Lib.decDigits,dif_neg (by decide),show 16/10=1 from rfl,Lib.decDigits,jh (by decide)];rfl
theorem Qdn {n:Int} (h: -9223372036854775808<=n/\n<=9223372036854775807):LN [I n]=some [.raw (.string (JX n))]:=by
 show cond (decide (-9223372036854775808<=n)&&decide (n<=9223372036854775807)) _ _=_;rw[aj h.1,aj h.2];rfl
theorem Zes (D:M [I 0]=some [.raw (.string ⟨#[48]⟩)]) (G:M [I 7]=some [.raw (.string ⟨#[55]⟩)]) (L:M [I 160]=some [.raw (.string ⟨#[49,54,48]⟩)]):
  XJ M (Am (RB M)) [I 0, .vC kPt [], .vC Aa [],I 7,I 160,I 0,I 0,I 0,I 0,I 0]=some [.raw (.string ⟨#[48,32,109,111,100,101,55,32,97,116,49,54,48,32,102,97,117,108,116,48,10]⟩)]:=by
 have N:RB M [AC.raw (Go.Value.string ⟨#[48,32,109,111,100,101,55,32,97,116,49,54,48,32,102,97,117,108,116,48]⟩), .vC Aa [],I 0,I 0]=some (1,[AC.raw (Value.string ⟨#[48,32,109,111,100,101,55,32,97,116,49,54,48,32,102,97,117,108,116,48]⟩)]):=by
  rw[Zsu];rfl
 rw[Zu3];exact eB D (eT rfl (eB G (eT rfl (eT rfl (eB L (eT rfl (eT rfl (eB D (eT rfl (eB (A1 N (by simp)) (eT rfl (eT rfl rfl))))))))))))
theorem Yas:Qbg [I 0, .vC kPt [], .vC Aa [],I 7,I 160,I 0,I 0,I 0,I 0,I 0]=some [.raw (.string ⟨#[48,32,109,111,100,101,55,32,97,116,49,54,48,32,102,97,117,108,116,48,10]⟩)]:=
 Zes (by rw[Qdn (by decide),Z71]) (by rw[Qdn (by decide),Zw1]) (by rw[Qdn (by decide),Zuc])
theorem Z9d {b:ByteArray} (h:M [I 0, .vC kPt [], .vC Aa [],I 7,I 160,I 0,I 0,I 0,I 0,I 0]=some [.raw (.string b)]) (hb:b.size<=1000):
  Qh M [tV [[.vC (Aa++(Aa++(Aa++[]))) [], .vC Aa [],I 7,I 160,I 0,I 0,I 0,I 0,I 0]]]=some [.raw (.string ⟨b.data.toList.toArray⟩)]:=by
 refine eT rfl ?_;have e:F0 M [[.vC (Aa++(Aa++(Aa++[]))) [], .vC Aa [],I 7,I 160,I 0,I 0,I 0,I 0,I 0]] 1=some b.data.toList:=by
  refine eB (x:=[]) rfl (eT rfl (eB h (eT (Cg ?_) rfl)));show 0+b.size<=_;omega
 exact eB e rfl
theorem Zxu:PU [tV [[.vC (Aa++(Aa++(Aa++[]))) [], .vC Aa [],I 7,I 160,I 0,I 0,I 0,I 0,I 0]]]=some [.raw (.string ⟨#[48,32,109,111,100,101,55,32,97,116,49,54,48,32,102,97,117,108,116,48,10]⟩)]:=
 Z9d Yas (by decide)
theorem Z40 {t:List AC} (D:W (AE PP++[I 9,I 3,I 100,I 1,I 0]++[.vC Ah (([]:List Itm).map Ag), .vC kPt (([]:List Evn).map evR),I ((5:Nat):Int)])=some [tV [t],I 0]) (G:Z [tV [t]]=some [B true])
  (L:M [tV [[.vC (Aa++(Aa++(Aa++[]))) [], .vC Aa [],I 7,I 160,I 0,I 0,I 0,I 0,I 0]]]=some [.raw (.string ⟨#[48,32,109,111,100,101,55,32,97,116,49,54,48,32,102,97,117,108,116,48,10]⟩)]):
  Qg4 M Z W []=some [B true]:=by
 rw[Z9c];exact eB D (eT rfl (eT rfl (eB G (eT rfl (eB L (il (λq=>some [B q]) (beq_self_eq_true (ByteArray.toList ⟨#[48,32,109,111,100,101,55,32,97,116,49,54,48,32,102,97,117,108,116,48,10]⟩))))))))
theorem Zjc:QG []=some [B true]:=by
 have n0:=Zaf machX (aA:=[]) (by simp) Zu4 true;have D:=Qxa (E:=[]) (by simp) trivial (n0:=5) (by omega) (Qsm (E:=[]) (n0:=5) (by omega) λk=>Qn2) n0.1 ⟨n0.2,gd0 []⟩;rw[Z7b]at D;have G:=Z5n [] (tkA (kX []) Bb []) (by simp);have I:(gA (tkA (kX []) Bb []) 2==7)=true:=by
  show((stA (kX []) Bb []).1==7)=true;rw[SX (gd0 []) Qn2];rw[show(stC (kX []) Bb []).1=7 from Qtb];rfl
 rw[I]at G;exact Z40 D G Zxu
theorem Ql4:∀a b:Rw,B3 (a++b)=B3 a++B3 b
 |[],_=>rfl
 |t::a,b=>by
  show wA t 0++B3 (a++b)=wA t 0++B3 a++B3 b;rw[Ql4 a b,fa]
theorem Zxg (h:i<l.length):B3 (l.take (i+1))=B3 (l.take i)++wA l[i] 0:=by
 rw[i6,al h,Ql4];show _++(wA l[i] 0++[])=_;rw[fw]
theorem Z5j (l:Rw) (i:Nat):(B3 (l.take i)).length<=(B3 l).length:=by
 have:=il List.length (Ql4 (l.take i) (l.drop i));rw[List.take_append_drop,ap]at this;omega
theorem Q6v {l:Rw} (G:l.length<=1073741824) (L:(B3 l).length<=5000000000000):∀(m i:Nat),i+m=l.length->
  Am OB [.vC kPt (B3 (l.take i)),tV l,I l.length,I (i:Int)]=some (1,[.vC kPt (B3 l)])
 |0,i,h=>by
  have e:OB [.vC kPt (B3 (l.take i)),tV l,I l.length,I (i:Int)]=some (1,[.vC kPt (B3 (l.take i))]):=by
   rw[Q2f];exact eF (an (by omega)) rfl
  rw[A1 e (by simp),gv (by omega)]
 |m+1,i,h=>by
  have D:i<l.length:=by omega
  have M:=Z5j l (i+1);have e:OB [.vC kPt (B3 (l.take i)),tV l,I l.length,I (i:Int)]=some (0,[.vC kPt (B3 (l.take (i+1))),tV l,I l.length,I ((i+1:Nat):Int)]):=by
   rw[Q2f];refine eT (aj (by omega)) (eT (by rw[aj (by omega),aj (by omega)];rfl) ?_);rw[ak,FC [] l i D,<-Zxg D,Ae (x:=(i:Int)+1)];exact eT (Cg (by omega)) rfl
  rw[Bc e];exact Q6v G L m (i+1) (by omega)
theorem Qsf (D:l.length<=1073741824) (G:(B3 l).length<=5000000000000):QE [tV l]=some [.vC kPt (B3 l)]:=by
 show Ya (Am OB) [tV l]=_;rw[Zqk];exact eB (Q6v D G l.length 0 (by omega)) rfl
end Go.Bm
namespace Go.Bm
open Classical
end Go.Bm
namespace Go.Bm
theorem Z07 (a b c d:Rw):∃q:Bool,PQ [.vC Aa a, .vC Aa b, .vC Aa c, .vC Aa d]=some [B q]/\(q=true->a.length<=60/\b.length<=60/\c.length<=60/\d.length<=60):=by
 obtain⟨q,I,D⟩:=Z3w (L:=[a,b,c,d]) (by simp);refine⟨q,?_,λh=>⟨D h a (by simp),D h b (by simp),D h c (by simp),D h d (by simp)⟩⟩;show ZY Kz _=_;rw[Zej];have G:Kz [.vC [Kd.sl Aa] [[.vC Aa a],[.vC Aa b],[.vC Aa c],[.vC Aa d]]]=some [B q]:=I;rw[G];rfl
theorem Q9h {i n:Nat} (h:i<n):(decide (0<=(i:Int))&&decide ((i:Int)<(n:Int)))=true:=by
 rw[aj (by omega),aj (by omega)];rfl
theorem Qyl (L:l.length<=1000000000000000000):PW [.vC kPt l, .vC kPt l]=some [B true]:=by
 have D:∀m i:Nat,i+m=l.length->Am SD [.vC kPt l, .vC kPt l,I (l.length:Int),I (i:Int)]=some (2,[]):=by
  intro m;induction m with
  |zero=>
   intro i h;refine A1 ?_ (by simp);rw[Q4l];exact eF (an (by omega)) rfl
  |succ m G=>
   intro i h;refine(Bc ?_).trans (G (i+1) (by omega));rw[Q4l];refine eT (aj (by omega)) (eT (Q9h (by omega)) (eT (Q9h (by omega)) (eF (by simp) ?_)));rw[Ae (x:=(i:Int)+1)];rfl
 show Qh0 (Am SD) _=_;rw[Z3k];exact eF (bnF rfl) (eB (D l.length 0 (by omega)) rfl)
theorem Q49:∀{l:List Evn} {p:Int},l.Pairwise (λa b=>a.cycle<=b.cycle)->(∀e∈l,p<=e.cycle/\e.cycle<=1073741824/\1<=e.aP/\e.aP<=13/\ -1073741824<=e.n/\e.n<=1073741824)->VE p l
 |[],_,_,_=>trivial
 |e::l,p,D,hb=>by
  rw[jy]at D;refine⟨hb e (by simp),Q49 D.2 λa G=> ?_⟩;have:=hb a (by simp[G]);exact⟨D.1 a G,this.2⟩
theorem Zak (it:Itm):qI it=it\/(it.aP=2\/it.aP=3)/\qI it={it with aZ:=2000000}:=by
 unfold qI;by_cases c:it.aP=2\/it.aP=3
 ·rw[ab c];exact .inr ⟨c,rfl⟩
 ·rw[aa c];exact .inl rfl
theorem Qi2:∀{l:List Itm} {p:Pt},Fg p l->Fg p (l.map qI)
 |[],_,_=>trivial
 |it::l,p,h=>by
  have e:(qI it).aP=it.aP/\(qI it).fr=it.fr/\(qI it).to=it.to:=by
   rcases Zak it with q|⟨-,q⟩<;>rw[q]<;>exact⟨rfl,rfl,rfl⟩
  have m:AB (qI it)↔AB it:=by unfold AB;rw[e.1]
  unfold Fg at h;show Fg p (qI it::l.map qI);unfold Fg;by_cases c:AB it
  ·rw[ab c]at h;rw[ab (m.2 c),e.2.1,e.2.2];exact⟨h.1,Qi2 h.2⟩
  ·rw[aa c]at h;rw[aa λx=>c (m.1 x)];exact Qi2 h
theorem Zva {l:List Itm} (h:Items A H l):Items A H (l.map qI):=by
 refine⟨Qi2 h.link,λit G=> ?_⟩;obtain⟨a,I,rfl⟩:=av.1 G;have D:=h.made a I;rcases Zak a with q|⟨c,q⟩
 ·rw[q];exact D
 ·rw[q];rcases D with⟨m,d,b,f,t⟩|o
  ·refine .inl ⟨m,⟨d.aP,d.line,λq=> ?_,λ_=>(show(1:Int)<=2000000/\(2000000:Int)<=60000000 from⟨by decide,by decide⟩),d.bH,λq=> ?_,d.free,d.bG⟩,b,f,t⟩
   ·have a:=d.arc q;exact⟨a.aP,a.aG,a.dir,a.ends⟩
   ·rcases q with q|q
    ·have q:a.aP=5:=q;omega
    ·have q:a.aP=6:=q;omega
  ·have:=o.aP;omega
theorem Zu7 {MS X Y MC ME MQ MM MI MO MF MA:Fn} {x0 x1 x2 x3 x4:Rw} {q:Bool} (hA:MA []=some [B true]) (hF:MF [.vC Aa x0, .vC Aa x1, .vC Aa x2, .vC Aa x3]=some [B q])
  (w : q = true -> (x4.length : Int) <= 60 -> ∃ (x : Ax3) (p0 p1 p2 p3 p4 M N O S V r : Int) (L D : Rw) (E F G H : List Evn) (T U : Rw) (P Q : Rw),
   MO [I a,I 7]=some [I r]/\MI [.vC Aa x0,I r,B true]=some [.vC Ah L]/\MM [.vC Aa x1, .vC Aa x2]=some (AE x++[I p0,I p1,I p2,I p3,I p4])/\
   MQ (.vC Ah L::(AE x++[I p0,I p1,I p2,I p3,I p4]))=some (.vC Ah D::(AE x++[I M,I N,I O,I S,I V]))/\
   ME [.vC Aa x3]=some [.vC kPt (E.map evR)]/\MC [.vC kPt (E.map evR)]=some [.vC kPt (F.map evR)]/\Y (AE x++[I M,I N,I O,I S,I V]++[.vC Ah D, .vC kPt (F.map evR),I 150])=some [tV T,I 0]/\
   ME [.vC Aa x4]=some [.vC kPt (G.map evR)]/\MC [.vC kPt (G.map evR)]=some [.vC kPt (H.map evR)]/\Y (AE x++[I M,I N,I O,I S,I V]++[.vC Ah D, .vC kPt (H.map evR),I 150])=some [tV U,I 0]/\
   X [tV T]=some [.vC kPt P]/\X [tV U]=some [.vC kPt Q]/\T.length≠0/\(∃l,P=Q++l\/Q=P++l)/\MS [.vC kPt P, .vC kPt P]=some [B true]/\MS [.vC kPt Q, .vC kPt Q]=some [B true]):
  Qd9 MS X Y MC ME MQ MM MI MO MF MA [.vC Aa x0, .vC Aa x1, .vC Aa x2, .vC Aa x3, .vC Aa x4,I a]=some [B true]:=by
 rw[Z3q];refine eB hA (eF rfl (eB hF ?_));cases q
 ·exact eT rfl rfl
 ·refine eF rfl (eC (λ_=>rfl) λc=> ?_);have c:=of_decide_eq_false c;obtain⟨x,p0,p1,p2,p3,p4,M,N,O,S,V,r,L,D,E,F,G,H,T,U,P,Q,h1,h2,h3,h4,h5,h6,h7,h8,h9,a0,a1,a2,a6,⟨l,a3⟩,a4,a5⟩:=w rfl (by omega);have key:(0<=mn (P.length:Int) (Q.length:Int)/\mn (P.length:Int) (Q.length:Int)<=P.length/\mn (P.length:Int) (Q.length:Int)<=Q.length)/\
    MS [.vC kPt (List.take (mn (P.length:Int) (Q.length:Int)).toNat P), .vC kPt (List.take (mn (P.length:Int) (Q.length:Int)).toNat Q)]=some [B true]:=by
   rcases a3 with e|e
   ·subst e;have e:mn ((Q++l).length:Int) (Q.length:Int)=Q.length:=by
     unfold mn;rw[ap];split<;>omega
    rw[e,ak,List.take_left' rfl,ip];refine⟨?_,a5⟩;rw[ap];omega
   ·subst e;have e:mn (P.length:Int) ((P++l).length:Int)=P.length:=by
     unfold mn;rw[ap];split<;>omega
    rw[e,ak,List.take_left' rfl,ip];refine⟨?_,a4⟩;rw[ap];omega
  obtain⟨⟨k0,k1,k2⟩,k3⟩:=key;refine eB h1 (eB h2 (eB h3 (eB h4 (eB h5 (eB h6 (eB h7 (eB h8 (eB h9 (eB a0 (eB a1 (eB a2 (eT rfl (eT rfl (eT (aj ?_) (eT ?_ (eT ?_ (eB k3 rfl)))))))))))))))))
  ·show((T.length:Int)>0);omega
  ·exact(ai _ _).mpr ⟨aj k0,aj k1⟩
  ·exact(ai _ _).mpr ⟨aj k0,aj k2⟩
theorem Zwv {V X Y x3 x4:Rw} (h0:Src V) (h1:Src X) (h2:Src Y) (h3:Src x3) (h4:Src x4) (h5:i64 v):
  Qwt [.vC Aa V, .vC Aa X, .vC Aa Y, .vC Aa x3, .vC Aa x4,I v]=some [B true]:=by
 obtain⟨q,hF,hq⟩:=Z07 V X Y x3;refine Zu7 Zjc hF λa0 k4=> ?_;obtain⟨l0,l1,l2,l3⟩:=hq a0;have m5:0<=v%7/\v%7<7:=⟨Int.emod_nonneg _ (by decide),Int.emod_lt_of_pos _ (by decide)⟩;obtain⟨x,a,b,c,bF,lag,hQ,hM,p1,p2,p3⟩:=Z3l h1 h2 (by omega);obtain⟨p,aA,hI,a1,hlen,-⟩:=Zyi h0 (most:=v%7) (by omega) true;obtain⟨hN,N⟩:=Zaf hM (aA:=aA.map qI) (by rw[ah];omega) (Zva a1) true;obtain⟨E,hV,hE,D,S⟩:=Q9g h3 l3;obtain⟨G,a2,hG,O,a3⟩:=Q9g h4 (by omega);have a4:=Z81 (aA:=aA) (by omega) x (p0:=a) (p1:=b) (p2:=c) bF lag (by omega) (by omega) (by omega);have one:∀{E:List Evn},E.length<=60->(∀e∈E,EvOK e)->Ord E 0 2400->(E.filter λe=>decide (e.aP<=6)).length<=60/\(∀e∈E.filter λe=>decide (e.aP<=6),e.aP<=6)/\
   Jw (AE x++[I (a+50),I (b+10),I (c+2000),I bF,I lag]++[.vC Ah ((aA.map qI).map Ag), .vC kPt ((E.filter λe=>decide (e.aP<=6)).map evR),I ((150:Nat):Int)])=some [tV (Du (E.filter λe=>decide (e.aP<=6)) 150 0 (kfP x (a+50) (b+10) (c+2000) bF lag (aA.map qI) true) Bb),I 0]:=by
  intro E hE D S;have kE:∀e∈E.filter λe=>decide (e.aP<=6),e∈E/\e.aP<=6:=λe he=>by
   have:=List.mem_filter.1 he;exact⟨this.1,of_decide_eq_true this.2⟩
  have pw:(E.filter λe=>decide (e.aP<=6)).Pairwise λa b=>a.cycle<=b.cycle:=S.pw.filter _;have ln:(E.filter λe=>decide (e.aP<=6)).length<=60:=bz (List.length_filter_le _ _) hE;generalize(E.filter λe=>decide (e.aP<=6))=F at*;refine⟨ln,λe he=>(kE e he).2,Qxa (E:=F) (by omega) (Q49 pw λe he=> ?_) (n0:=150) (by omega) (Qsm (by omega) λk=>⟨bz (Q4y _ _) (by omega),λe he=> ?_⟩) hN ⟨N,gdK N⟩⟩
  ·have a:=(kE e he).1;have b:=D e a;have r:=S.rg e a;have k:=b.aP;have m:=b.n;omega
  ·have:=(kE e (Qww he)).2;omega
 obtain⟨f1,f2,f3⟩:=one hE D S;obtain⟨g1,g2,g3⟩:=one hG O a3;have L:=Z5g N (E:=E.filter λe=>decide (e.aP<=6)) (F:=G.filter λe=>decide (e.aP<=6)) (by omega) (by omega) f2 g2 (n:=150) (by omega);have pl:∀{F:List Evn},F.length<=60->(∀e∈F,e.aP<=6)->(B3 (Du F 150 0 (kfP x (a+50) (b+10) (c+2000) bF lag (aA.map qI) true) Bb)).length<=2000000000:=by
  intro F hF kF;have g:Gd (kfP x (a+50) (b+10) (c+2000) bF lag (aA.map qI) true) ((0:Nat):Int) Bb:=gdK N;obtain⟨u,u0,u1,u2,u3⟩:=Sd N (E:=F) (by omega) kF 150 0 0 Bb g cm0 (.inl ⟨rfl,rfl,rfl⟩) (dt _) (by omega);rw[u3];have:=Zl0 (M:=FI (kfP x (a+50) (b+10) (c+2000) bF lag (aA.map qI) true).p (kfP x (a+50) (b+10) (c+2000) bF lag (aA.map qI) true).x (kfP x (a+50) (b+10) (c+2000) bF lag (aA.map qI) true).t) N.f.t.q.len.1 (a:=AI Bb) (b:=u) u1;omega
 have pT:=pl f1 f2;have pU:=pl g1 g2;have tl:=Qki (E.filter λe=>decide (e.aP<=6)) 150 0 (kfP x (a+50) (b+10) (c+2000) bF lag (aA.map qI) true) Bb;have ul:=Qki (G.filter λe=>decide (e.aP<=6)) 150 0 (kfP x (a+50) (b+10) (c+2000) bF lag (aA.map qI) true) Bb;have tn:=Zs7 (E.filter λe=>decide (e.aP<=6)) 150 0 (kfP x (a+50) (b+10) (c+2000) bF lag (aA.map qI) true) Bb (by omega);generalize Du (E.filter λe=>decide (e.aP<=6)) 150 0 (kfP x (a+50) (b+10) (c+2000) bF lag (aA.map qI) true) Bb=T at*;generalize Du (G.filter λe=>decide (e.aP<=6)) 150 0 (kfP x (a+50) (b+10) (c+2000) bF lag (aA.map qI) true) Bb=U at*;exact⟨x,a,b,c,bF,lag,a+50,b+10,c+2000,bF,lag,v%7,aA.map Ag,(aA.map qI).map Ag,E,E.filter λe=>decide (e.aP<=6),G,G.filter λe=>decide (e.aP<=6),T,U,B3 T,B3 U,
  Q3x h5 (by omega),hI,hQ,a4,hV,Qyt (by omega),f3,a2,Qyt (by omega),g3,Qsf (by omega) (by omega),Qsf (by omega) (by omega),tn,L,Qyl (by omega),Qyl (by omega)⟩
theorem Quy {r:List AC} (h:okR Aa r):i64 (Af (nth .vD r 0)):=by
 match r,h with
 |[],h=>exact h.elim
 |a::_,h=>exact Zpr h.1
theorem Q8 {r:List AC} (h:okR [Kd.sl Aa] r):Src (Bq (nth .vD r 0)):=by
 match r,h with
 |[],h=>exact h.elim
 |a::_,h=>
  have D:=h.1;unfold okC at D;refine⟨?_,λc G=>Quy (D.2 c G).1⟩;have I:=D.1;simp only[maxLen]at I;show(Bq a).length<=_;omega
end Go.Bm
