/- laid together -/
import Derived.Test.YtommijghjlikkaaGreatPrTk
import Derived.Test.YtommijghjlikkaaGreatMx3
import Derived.Lib.ItoaNum
set_option linter.unusedVariables false
set_option linter.unusedSimpArgs false
set_option maxRecDepth 100000
open Go.IntKind (wrap)
variable {a k b v u j:Int} {p:Go.Bm.Pth} {t:Go.Bm.Trk} {i r A q R J C:Nat} {M Z W T S P O:Go.Bm.Fn} {Q:Int->Go.Bm.Pt->Prop} {l:Go.Bm.Rw} {N:Go.Bm.Lp} {g:Go.Bm.Pt}
namespace Go.Bm
open Classical
def chain (x:Ax3) (mv:Int) (Q:Int->Pt->Prop):Int->Int->Pt->List Pce->Prop
 |_,_,_,[]=>True
 |at_,s,d,c::l=>c.at_=at_/\c.s=s/\1<=c.aR/\((c.bD=mv/\c.was=c.aT/\CJ x d c.aT=0/\∀k,0<=k->k<c.aR->Q (s+mv*k) c.aT)\/(c.bD=0/\c.was=d/\c.aR=CJ x d c.aT))/\chain x mv Q (at_+c.aR) (s+c.bD*c.aR) c.aT l
def By:Int->List Pce->Int
 |a,[]=>a
 |a,c::l=>By (a+c.aR) l
def endQ:Int->List Pce->Int
 |s,[]=>s
 |s,c::l=>endQ (s+c.bD*c.aR) l
def FH:Pt->List Pce->Pt
 |d,[]=>d
 |_,c::l=>FH c.aT l
theorem TU (c:Pce):∀(a:Int) (l:List Pce),By a (l++[c])=By a l+c.aR
 |_,[]=>rfl
 |_,k::l=>TU c _ l
theorem T2 (c:Pce):∀(s:Int) (l:List Pce),endQ s (l++[c])=endQ s l+c.bD*c.aR
 |_,[]=>rfl
 |_,k::l=>T2 c _ l
theorem UA (c:Pce):∀(d:Pt) (l:List Pce),FH d (l++[c])=c.aT
 |_,[]=>rfl
 |_,k::l=>UA c _ l
theorem Uu {x:Ax3} {c:Pce}:∀{at_ s:Int} {d:Pt} {l:List Pce},
  chain x a Q at_ s d (l++[c])↔chain x a Q at_ s d l/\c.at_=By at_ l/\c.s=endQ s l/\1<=c.aR/\((c.bD=a/\c.was=c.aT/\CJ x (FH d l) c.aT=0/\∀k,0<=k->k<c.aR->Q (endQ s l+a*k) c.aT)\/(c.bD=0/\c.was=FH d l/\c.aR=CJ x (FH d l) c.aT))
 |at_,s,d,[]=>by
  simp only[bf,chain,By,endQ,FH,and_true,true_and]
 |at_,s,d,k::l=>by
  simp only[az,chain,By,endQ,FH];rw[Uu];constructor
  ·rintro⟨E,G,I,J,M,N⟩;exact⟨⟨E,G,I,J,M⟩,N⟩
  ·rintro⟨⟨E,G,I,J,M⟩,N⟩;exact⟨E,G,I,J,M,N⟩
theorem Zgq {l:List Pce} (h:l≠[]) (v:Pce):l.set (l.length-1) v=l.dropLast++[v]:=by
 have e:=List.dropLast_concat_getLast h;have E:l.length-1=l.dropLast.length:=by rw[List.length_dropLast]
 conv=>lhs;arg 1;rw[<-e]
 rw[E,List.set_append_right _ _ (db _),jt];rfl
theorem Zf8 {l:List Pce} (h:l≠[]):l.dropLast++[Bl l]=l:=by
 have e:=List.dropLast_concat_getLast h;have I:0<l.length:=by
  cases l with
  |nil=>exact absurd rfl h
  |cons _ _=>simp
 have E:l.length-1<l.length:=by omega
 have G:Bl l=l.getLast h:=by
  unfold Bl;rw[fu,ai E,Option.getD_some,List.getLast_eq_getElem]
 rw[G];exact e
structure TC (x : Ax3) (mv : Int) (Q : Int -> Pt -> Prop) (t : Trk) (s : Int) (d : Pt) : Prop where
 ch:chain x mv Q 0 t.aQ t.aT t.aE
 len:By 0 t.aE=t.length
 s:endQ t.aQ t.aE=s
 d:FH t.aT t.aE=d
theorem Qli {x:Ax3} {s:Int} {d:Pt} (hm:a≠0) (h:TC x a Q t s d) {c:Pce} (hs:c.s=s) (hu:1<=c.aR)
  (G:(c.bD=a/\c.was=c.aT/\CJ x d c.aT=0/\∀k,0<=k->k<c.aR->Q (s+a*k) c.aT)\/(c.bD=0/\c.was=d/\c.aR=CJ x d c.aT)):TC x a Q (FD t c) (s+c.bD*c.aR) c.aT:=by
 obtain⟨J,M,E,N⟩:=h;unfold FD;by_cases g:t.aE≠[]/\c.bD≠0/\(Bl t.aE).bD=c.bD/\(Bl t.aE).aT=c.aT
 ·rw[ab g];obtain⟨g1,g2,V,X⟩:=g;have e:=Zf8 g1;rw[Zgq g1];rw[<-e]at J M E N;rw[Uu]at J;rw[TU]at M;rw[T2]at E;rw[UA]at N;generalize t.aE.dropLast=I at*;generalize Bl t.aE=L at*;obtain⟨k0,k1,k2,k4,O⟩:=J
  replace G:=G.resolve_right λh=>g2 h.1
  replace O:=O.resolve_right λh=>g2 (V▸h.1)
  obtain⟨c1,c2,-,c3⟩:=G;obtain⟨Y,q2,q4,q3⟩:=O;refine⟨?_,?_,?_,?_⟩
  ·show chain x a Q 0 t.aQ t.aT (I++[_]);rw[Uu];refine⟨k0,k1,k2,by simp only;omega, .inl ⟨Y,q2,q4,?_⟩⟩;intro k S T;simp only at T;by_cases U:k<L.aR
   ·exact q3 k S U
   ·have:=c3 (k-L.aR) (by omega) (by omega);rw[<-E,Y,<-X]at this;have ea:endQ t.aQ I+a*L.aR+a*(k-L.aR)=endQ t.aQ I+a*k:=by rw[j8];omega
    rw[ea]at this;exact this
  ·show By 0 (I++[_])=t.length+c.aR;rw[TU];simp only;omega
  ·show endQ t.aQ (I++[_])=s+c.bD*c.aR;rw[T2];simp only;rw[V]at E⊢;rw[jr];omega
  ·show FH t.aT (I++[_])=c.aT;rw[UA];exact X
 ·rw[aa g];refine⟨?_,?_,?_,?_⟩
  ·show chain x a Q 0 t.aQ t.aT (t.aE++[_]);rw[Uu];refine⟨J,M.symm,by rw[E];exact hs,hu,?_⟩;rw[E,N];exact G
  ·show By 0 (t.aE++[_])=t.length+c.aR;rw[TU,M]
  ·show endQ t.aQ (t.aE++[_])=s+c.bD*c.aR;rw[T2,E]
  ·show FH t.aT (t.aE++[_])=c.aT;rw[UA]
theorem Zjl (x:Ax3) (d:Pt):CJ x d d=0:=by unfold CJ slk;simp
theorem Qxx {x:Ax3} {s aR:Int} {d a b:Pt} (E:v≠0) (M:∀w d,0<=CJ x w d) (h:TC x v Q t s d) (G:1<=aR) (I:∀k,0<=k->k<aR->Q (s+v*k) (D9 d a b v)):
  TC x v Q (CW x v a b s aR (t,d)).1 (s+v*aR) (D9 d a b v):=by
 unfold CW;simp only;generalize D9 d a b v=nx at*;by_cases c:CJ x d nx>0
 ·rw[ab c];have J:=Qli E h (c:=⟨0,CJ x d nx,s,0,d,nx⟩) rfl (by simp only;omega) (.inr ⟨rfl,rfl,rfl⟩);simp only[kg,iz]at J;exact Qli E J (c:=⟨0,aR,s,v,nx,nx⟩) rfl G (.inl ⟨rfl,rfl,Zjl x nx,I⟩)
 ·rw[aa c];have:=M d nx;exact Qli E h (c:=⟨0,aR,s,v,nx,nx⟩) rfl G (.inl ⟨rfl,rfl,by simp only;omega,I⟩)
def KF (l:List Sgm) (mv lo hi:Int) (j:Nat):Int:=if mv<0 then min (max (AH l (l.length-j)) lo) hi else min (max (AH l j) lo) hi
def Qv5 (p:Pth) (mv:Int) (Q:Int->Pt->Prop):Prop:=∀i,i<p.aF.length->∀(d:Pt) (s:Int),AH p.aF i<=s->s<=AH p.aF (i+1)->AH p.aF i<=s+mv->s+mv<=AH p.aF (i+1)->Q s (D9 d (Fm p.aQ p.aF i) (sgA p.aF i).to mv)
theorem Q88 {x:Ax3} {mv lo hi f:Int} {d:Pt} (S:mv=1\/mv= -1) (M:Ax3OK x) (T:SegOK p.aF) (N:0<=lo/\lo<=hi/\hi<=Ay p.aF) (hf:(mv=1/\f=lo)\/(mv= -1/\f=hi)) (U:Qv5 p mv Q):
  ∀j,j<=p.aF.length->TC x mv Q (Cw p x mv lo hi (⟨[],0,f,d⟩,d) j).1 (KF p.aF mv lo hi j) (Cw p x mv lo hi (⟨[],0,f,d⟩,d) j).2
 |0,_=>by
  have Y:KF p.aF mv lo hi 0=f:=by
   unfold KF;have:=Q9l p.aF;rcases hf with⟨rfl,rfl⟩|⟨rfl,rfl⟩
   ·rw[aa,Uk];omega
   ·rw[ab,Nat.sub_zero,this];omega
  rw[Y];exact⟨trivial,rfl,rfl,rfl⟩
 |j+1,hj=>by
  have G:=Q88 S M T N hf U (f:=f) (d:=d) j (by omega);have J:=Yg mv (show j<p.aF.length by omega);have hg:=T.seg _ (Il J);have O:=QV J;have V:=U _ J;rw[Cw];unfold In;have E:(mv=1/\EC p.aF.length mv j=j)\/(mv= -1/\EC p.aF.length mv j=p.aF.length-1-j):=by
   unfold EC;rcases S with rfl|rfl
   ·exact .inl ⟨rfl,aa⟩
   ·exact .inr ⟨rfl,ab⟩
  have I:KF p.aF mv lo hi j=(if mv<0 then min (max (AH p.aF (EC p.aF.length mv j+1)) lo) hi else min (max (AH p.aF (EC p.aF.length mv j)) lo) hi)/\
    KF p.aF mv lo hi (j+1)=(if mv<0 then min (max (AH p.aF (EC p.aF.length mv j)) lo) hi else min (max (AH p.aF (EC p.aF.length mv j+1)) lo) hi):=by
   unfold KF;rcases E with⟨rfl,e⟩|⟨rfl,e⟩
   ·rw[e,aa,aa,aa,aa];exact⟨rfl,rfl⟩
   ·rw[e,ab,ab,ab,ab,show p.aF.length-1-j+1=p.aF.length-j by omega,show p.aF.length-(j+1)=p.aF.length-1-j by omega];exact⟨rfl,rfl⟩
  rw[I.1]at G;rw[I.2];generalize EC p.aF.length mv j=i at*;generalize Cw p x mv lo hi (⟨[],0,f,d⟩,d) j=w at*;obtain⟨t,X⟩:=w;simp only at G⊢;by_cases c:max (AH p.aF i) lo<min (AH p.aF (i+1)) hi
  ·rw[ab c];rcases E with⟨rfl,-⟩|⟨rfl,-⟩
   ·rw[aa]at G⊢;rw[aa];have e1:min (max (AH p.aF i) lo) hi=max (AH p.aF i) lo:=by omega
    rw[e1]at G;have:=Qxx (a:=Fm p.aQ p.aF i) (b:=(sgA p.aF i).to) (aR:=min (AH p.aF (i+1)) hi-max (AH p.aF i) lo) (by omega) (λw d=>(T_ M w d).1) G (by omega) (λk h0 h1=>V X _ (by omega) (by omega) (by omega) (by omega));have e2:max (AH p.aF i) lo+1*(min (AH p.aF (i+1)) hi-max (AH p.aF i) lo)=min (max (AH p.aF (i+1)) lo) hi:=by omega
    rw[e2]at this;exact this
   ·rw[ab]at G⊢;rw[ab];have e1:min (max (AH p.aF (i+1)) lo) hi=min (AH p.aF (i+1)) hi:=by omega
    rw[e1]at G;have:=Qxx (a:=Fm p.aQ p.aF i) (b:=(sgA p.aF i).to) (aR:=min (AH p.aF (i+1)) hi-max (AH p.aF i) lo) (by omega) (λw d=>(T_ M w d).1) G (by omega) (λk h0 h1=>V X _ (by omega) (by omega) (by omega) (by omega));have e2:min (AH p.aF (i+1)) hi+ -1*(min (AH p.aF (i+1)) hi-max (AH p.aF i) lo)=min (max (AH p.aF i) lo) hi:=by omega
    rw[e2]at this;exact this
  ·rw[aa c];have e:(if mv<0 then min (max (AH p.aF (i+1)) lo) hi else min (max (AH p.aF i) lo) hi)=(if mv<0 then min (max (AH p.aF i) lo) hi else min (max (AH p.aF (i+1)) lo) hi):=by
    split<;>omega
   rw[<-e];exact G
theorem Z3a {l:List Pce} (h:l≠[]):nth [] (l.map AN) (l.length-1)=AN (Bl l):=by
 have G:0<l.length:=by cases l with
  |nil=>exact absurd rfl h
  |cons _ _=>simp
 unfold Bl;have E:l.length-1<l.length:=by omega
 rw[JA _ _ _ _ E,fu,ai E,Option.getD_some]
theorem Zbj {a b:Pt}:a=b↔a.x=b.x/\a.y=b.y/\a.z=b.z:=D7
theorem Zye {c:Pce} {n m k:Int} (h:TB t n m) (hn:n<=10000000) (hm:m<=1000000000000000000) (hk:k<=1000000000000000000) (hc:0<=c.aR/\c.aR<=k):
  V_ [.vC As (t.aE.map AN),I c.at_,I c.aR,I c.s,I c.bD,I c.was.x,I c.was.y,I c.was.z,I c.aT.x,I c.aT.y,I c.aT.z,I t.length,I t.aQ,I t.aT.x,I t.aT.y,I t.aT.z]=some (Ba (FD t c)):=by
 obtain⟨h1,h2,X⟩:=h;have U:V (t.length+c.aR)=t.length+c.aR:=Ae;have E:((t.aE.map AN++[[I t.length,I c.aR,I c.s,I c.bD,I c.was.x,I c.was.y,I c.was.z,I c.aT.x,I c.aT.y,I c.aT.z]]).length*80).ble 140737488355328=true:=by
  rw[Nat.ble_eq,ay,af];simp only[bj,dg];omega
 have J:(t.aE.map AN++[[I t.length,I c.aR,I c.s,I c.bD,I c.was.x,I c.was.y,I c.was.z,I c.aT.x,I c.aT.y,I c.aT.z]]).length*80<=140737488355328:=bc E;have G:some [AC.vC As (t.aE.map AN++[[I t.length,I c.aR,I c.s,I c.bD,I c.was.x,I c.was.y,I c.was.z,I c.aT.x,I c.aT.y,I c.aT.z]]),I (t.length+c.aR),I t.aQ,I t.aT.x,I t.aT.y,I t.aT.z]=
   some (Ba {t with aE:=t.aE++[{c with at_:=t.length}],length:=t.length+c.aR}):=by
  simp only[Ba,de,bt,f8]
 by_cases M:t.aE=[]
 ·have Y: ¬(t.aE≠[]/\c.bD≠0/\(Bl t.aE).bD=c.bD/\(Bl t.aE).aT=c.aT):=λg=>g.1 M;unfold FD;rw[aa Y,<-G];rw[Zbc,af,Bg (by rw[M];simp),Ca E,U]
 ·have hp:0<t.aE.length:=by
   cases hh:t.aE with
   |nil=>exact absurd hh M
   |cons _ _=>simp
  have e1:V ((t.aE.length:Int)-1)=((t.aE.length-1:Nat):Int):=by rw[Ae];omega
  have S:(0:Int)<=((t.aE.length-1:Nat):Int)/\((t.aE.length-1:Nat):Int)<(t.aE.length:Int):=by omega
  have hl:=X _ (Qfy M);have T:V ((Bl t.aE).aR+c.aR)=(Bl t.aE).aR+c.aR:=Ae;have N:some [AC.vC As ((t.aE.map AN).set (t.aE.length-1) [I (Bl t.aE).at_,I ((Bl t.aE).aR+c.aR),I (Bl t.aE).s,I (Bl t.aE).bD,I (Bl t.aE).was.x,I (Bl t.aE).was.y,I (Bl t.aE).was.z,I (Bl t.aE).aT.x,I (Bl t.aE).aT.y,I (Bl t.aE).aT.z]),I (t.length+c.aR),I t.aQ,I t.aT.x,I t.aT.y,I t.aT.z]=
   some (Ba {t with aE:=t.aE.set (t.aE.length-1) {Bl t.aE with aR:=(Bl t.aE).aR+c.aR},length:=t.length+c.aR}):=by
   simp only[Ba,List.map_set]
  have hr:=Z3a M;have main : ∀ R, R = (if c.bD ≠ 0 then if (Bl t.aE).bD = c.bD then if (Bl t.aE).aT.x = c.aT.x /\ (Bl t.aE).aT.y = c.aT.y /\ (Bl t.aE).aT.z = c.aT.z then
    some (Ba {t with aE:=t.aE.set (t.aE.length-1) {Bl t.aE with aR:=(Bl t.aE).aR+c.aR},length:=t.length+c.aR})
    else some (Ba {t with aE:=t.aE++[{c with at_:=t.length}],length:=t.length+c.aR})else some (Ba {t with aE:=t.aE++[{c with at_:=t.length}],length:=t.length+c.aR})else some (Ba {t with aE:=t.aE++[{c with at_:=t.length}],length:=t.length+c.aR}))->R=some (Ba (FD t c)):=by
   intro R hR;rw[hR];unfold FD;by_cases g1:c.bD≠0
   ·by_cases g2:(Bl t.aE).bD=c.bD
    ·by_cases O:(Bl t.aE).aT.x=c.aT.x/\(Bl t.aE).aT.y=c.aT.y/\(Bl t.aE).aT.z=c.aT.z
     ·rw[ab g1,ab g2,ab O,ab ⟨M,g1,g2,Zbj.2 O⟩]
     ·rw[ab g1,ab g2,aa O,aa λg=>O (Zbj.1 g.2.2.2)]
    ·rw[ab g1,aa g2,aa λg=>g2 g.2.2.1]
   ·rw[aa g1,aa λg=>g1 g.2.1]
  refine main _ ?_;rw[<-G,<-N];rw[Zbc,af,e1,ak,hr];simp only[go_sem,U,T,ab S,ab J];rw[ab];simp only[and_true]
theorem Zko (x:Ax3) (w d:Pt):NP (AI x++[I w.x,I w.y,I w.z,I d.x,I d.y,I d.z])=some [I (CJ x w d)]:=by
 have he:=Zfx x.a.step x.a.aS x.a.accel x.a.jerk x.a.low x.a.aY x.a.bB x.a.aV x.a.aO (x.a.aW.map Ao) x.b.step x.b.aS x.b.accel x.b.jerk x.b.low x.b.aY x.b.bB x.b.aV x.b.aO (x.b.aW.map Ao) x.c.step x.c.aS x.c.accel x.c.jerk x.c.low x.c.aY x.c.bB x.c.aV x.c.aO (x.c.aW.map Ao) w.x w.y w.z d.x d.y d.z;unfold NP;refine cx he ?_;unfold CJ slk;simp only[go_sem,OM]
 (repeat' split)<;>first|rfl|(exfalso;omega)
theorem Yay (n a b:Pt) {mv:Int} (E:mv=1\/mv= -1):OU [I n.x,I n.y,I n.z,I a.x,I a.y,I a.z,I b.x,I b.y,I b.z,I mv]=some (ptR (D9 n a b mv)):=by
 unfold OU;rw[Zh2];have e:V (0-mv)= -mv:=by rw[Ae];omega
 unfold D9 Rx;simp only[go_sem,e]
 (repeat' split)<;>first|rfl|(exfalso;omega)
theorem Sx {n hi:Int}:FZ [I n,I hi]=some [I (AS n hi)]:=by
 unfold FZ;rw[Zr4];simp only[KJ,OM];rfl
theorem Zen {MU J M:Fn} {x:Ax3} {a b:Pt} {s aR:Int} {now:Pt} {n m k:Int} (T:Ax3OK x) (h:TB t n m) (X:n<=9000000) (Y:m<=900000000000000000) (hk:k<=900000000000000000) (O:0<=aR/\aR<=k)
  (U:J [I now.x,I now.y,I now.z,I a.x,I a.y,I a.z,I b.x,I b.y,I b.z,I v]=some (ptR (D9 now a b v))) (V:∀w d:Pt,MU (AI x++[I w.x,I w.y,I w.z,I d.x,I d.y,I d.z])=some [I (CJ x w d)])
  (N : ∀ {t : Trk} {c : Pce} {n m k : Int}, TB t n m -> n <= 10000000 -> m <= 1000000000000000000 -> k <= 1000000000000000000 -> (0 <= c.aR /\ c.aR <= k) ->
   M [.vC As (t.aE.map AN),I c.at_,I c.aR,I c.s,I c.bD,I c.was.x,I c.was.y,I c.was.z,I c.aT.x,I c.aT.y,I c.aT.z,I t.length,I t.aQ,I t.aT.x,I t.aT.y,I t.aT.z]=some (Ba (FD t c))):
  Qqy MU J M (.vC As (t.aE.map AN)::I a.x::I a.y::I a.z::I b.x::I b.y::I b.z::I s::I aR::I now.x::I now.y::I now.z::I v::(AI x++[I t.length,I t.aQ,I t.aT.x,I t.aT.y,I t.aT.z]))=
   some (.vC As ((CW x v a b s aR (t, now)).1.aE.map AN) :: I (CW x v a b s aR (t, now)).2.x :: I (CW x v a b s aR (t, now)).2.y :: I (CW x v a b s aR (t, now)).2.z :: I v :: (AI x ++
    [I (CW x v a b s aR (t,now)).1.length,I (CW x v a b s aR (t,now)).1.aQ,I (CW x v a b s aR (t,now)).1.aT.x,I (CW x v a b s aR (t,now)).1.aT.y,I (CW x v a b s aR (t,now)).1.aT.z])):=by
 have he:=Z1v MU J M (t.aE.map AN) a.x a.y a.z b.x b.y b.z s aR now.x now.y now.z v x.a.step x.a.aS x.a.accel x.a.jerk x.a.low x.a.aY x.a.bB x.a.aV x.a.aO (x.a.aW.map Ao) x.b.step x.b.aS x.b.accel x.b.jerk x.b.low x.b.aY x.b.bB x.b.aV x.b.aO (x.b.aW.map Ao) x.c.step x.c.aS x.c.accel x.c.jerk x.c.low x.c.aY x.c.bB x.c.aV x.c.aO (x.c.aW.map Ao) t.length t.aQ t.aT.x t.aT.y t.aT.z;refine cx he ?_;have hs:=T_ T now (D9 now a b v);have E:=V now (D9 now a b v);simp only[AI,az,bf]at E⊢;unfold CW;simp only;generalize D9 now a b v=nx at*;simp only[U,go_sem,E];by_cases c:CJ x now nx>0
 ·have S:=N (c:=⟨0,CJ x now nx,s,0,now,nx⟩) h (by omega) (by omega) (k:=1000) (by omega) (by simp only;omega);have hb:=Qsa (k:=1000) h (c:=⟨0,CJ x now nx,s,0,now,nx⟩) (by simp only;omega);have G:=N (c:=⟨0,aR,s,v,nx,nx⟩) hb (by omega) (by omega) (k:=k) (by omega) O;simp only at S G;rw[ab c,ab c];simp only[S,Ba,go_sem,G]
 ·have G:=N (c:=⟨0,aR,s,v,nx,nx⟩) h (by omega) (by omega) (k:=k) (by omega) O;simp only at G;rw[aa c,aa c];simp only[G,Ba,go_sem]
theorem Zwe {x:Ax3} {a b:Pt} {s aR:Int} {now:Pt} {n m k:Int} (E:v=1\/v= -1) (G:Ax3OK x) (h:TB t n m) (J:n<=9000000) (M:m<=900000000000000000) (N:k<=900000000000000000) (O:0<=aR/\aR<=k):
  Gk (.vC As (t.aE.map AN)::I a.x::I a.y::I a.z::I b.x::I b.y::I b.z::I s::I aR::I now.x::I now.y::I now.z::I v::(AI x++[I t.length,I t.aQ,I t.aT.x,I t.aT.y,I t.aT.z]))=
   some (.vC As ((CW x v a b s aR (t, now)).1.aE.map AN) :: I (CW x v a b s aR (t, now)).2.x :: I (CW x v a b s aR (t, now)).2.y :: I (CW x v a b s aR (t, now)).2.z :: I v :: (AI x ++
    [I (CW x v a b s aR (t,now)).1.length,I (CW x v a b s aR (t,now)).1.aQ,I (CW x v a b s aR (t,now)).1.aT.x,I (CW x v a b s aR (t,now)).1.aT.y,I (CW x v a b s aR (t,now)).1.aT.z])):=
 Zen G h J M N O (Yay now a b E) (Zko x) λS T U V X=>Zye S T U V X
def FX (l:List Sgm) (j:Nat):Rw:=(List.range j).map λi=>[I (AH l i)]
theorem TD (l:List Sgm) (j:Nat):(FX l j).length=j:=by simp[FX]
theorem Zm0 (l:List Sgm) (j:Nat):FX l (j+1)=FX l j++[[I (AH l j)]]:=by unfold FX;rw[List.range_succ,de];rfl
theorem Z6r {l:List Sgm} {n i:Nat} (h:i<n):nth [] (FX l n) i=[I (AH l i)]:=by
 have E:i<(FX l n).length:=by rw[TD];exact h
 rw[Gm [] _ i E];simp[FX]
abbrev RG (p:Pth) (x:Ax3) (lo hi mv:Int) (t:Trk) (now:Pt) (at_:Int) (E:Rw) (j:Nat):List AC:=
 [.vC Aa E, .vC As (t.aE.map AN),I lo,I hi,I mv,I at_, .vC Ag (p.aF.map Av),I p.aF.length,I j,I p.aQ.x,I p.aQ.y,I p.aQ.z, .vC Ag (p.aF.map Av), .vC AO (p.aD.map Aw),I now.x,I now.y,I now.z,I mv,I x.a.step,I x.a.aS,I x.a.accel,I x.a.jerk,I x.a.low,I x.a.aY,I x.a.bB,I x.a.aV,I x.a.aO, .vC Aa (x.a.aW.map Ao),I x.b.step,I x.b.aS,I x.b.accel,I x.b.jerk,I x.b.low,I x.b.aY,I x.b.bB,I x.b.aV,I x.b.aO, .vC Aa (x.b.aW.map Ao),I x.c.step,I x.c.aS,I x.c.accel,I x.c.jerk,I x.c.low,I x.c.aY,I x.c.bB,I x.c.aV,I x.c.aO, .vC Aa (x.c.aW.map Ao),I t.length,I t.aQ,I t.aT.x,I t.aT.y,I t.aT.z]
theorem Q41 {x:Ax3} {lo hi mv:Int} {now:Pt} (h:SegOK p.aF):∀(k j:Nat),j+k=p.aF.length->
  Ak (Vj M) (RG p x lo hi mv t now (AH p.aF j) (FX p.aF j) j)=some (1,[.vC Aa (FX p.aF p.aF.length), .vC As (t.aE.map AN),I lo,I hi,I mv,I p.aQ.x,I p.aQ.y,I p.aQ.z, .vC Ag (p.aF.map Av), .vC AO (p.aD.map Aw),I now.x,I now.y,I now.z,I mv,I x.a.step,I x.a.aS,I x.a.accel,I x.a.jerk,I x.a.low,I x.a.aY,I x.a.bB,I x.a.aV,I x.a.aO, .vC Aa (x.a.aW.map Ao),I x.b.step,I x.b.aS,I x.b.accel,I x.b.jerk,I x.b.low,I x.b.aY,I x.b.bB,I x.b.aV,I x.b.aO, .vC Aa (x.b.aW.map Ao),I x.c.step,I x.c.aS,I x.c.accel,I x.c.jerk,I x.c.low,I x.c.aY,I x.c.bB,I x.c.aV,I x.c.aO, .vC Aa (x.c.aW.map Ao),I t.length,I t.aQ,I t.aT.x,I t.aT.y,I t.aT.z])
 |0,j,S=>by
  have G:j=p.aF.length:=by omega
  refine Be (o:=(1,_)) ?_ (by simp);rw[Q04,Bg (by omega),G]
 |k+1,j,S=>by
  have E:j<p.aF.length:=by omega
  have N:=h.count;have O:=Ql5 h j (by omega);have T:=h.seg _ (Il E);have J:Vj M (RG p x lo hi mv t now (AH p.aF j) (FX p.aF j) j)=some (0,RG p x lo hi mv t now (AH p.aF (j+1)) (FX p.aF (j+1)) (j+1)):=by
   have hle:(FX p.aF j++[[I (AH p.aF j)]]).length*8<=140737488355328:=by rw[ay,TD];simp only[bj,dg];omega
   have e1:V ((j:Int)+1)=((j+1:Nat):Int):=by rw[Ae];omega
   rw[Q04];simp only[go_sem,af,ak,LB E,ab hle,e1,Zm0];rw[ab,ab,Ae (x:=AH p.aF j+(sgA p.aF j).len),QV E]
  rw[Bz J];exact Q41 h k (j+1) (by omega)
abbrev Qa (p:Pth) (x:Ax3) (lo hi mv:Int) (t:Trk) (now:Pt) (j:Nat):List AC:=
 [.vC Aa (FX p.aF p.aF.length), .vC As (t.aE.map AN),I lo,I hi,I mv,I p.aF.length,I j,I p.aQ.x,I p.aQ.y,I p.aQ.z, .vC Ag (p.aF.map Av), .vC AO (p.aD.map Aw),I now.x,I now.y,I now.z,I mv,I x.a.step,I x.a.aS,I x.a.accel,I x.a.jerk,I x.a.low,I x.a.aY,I x.a.bB,I x.a.aV,I x.a.aO, .vC Aa (x.a.aW.map Ao),I x.b.step,I x.b.aS,I x.b.accel,I x.b.jerk,I x.b.low,I x.b.aY,I x.b.bB,I x.b.aV,I x.b.aO, .vC Aa (x.b.aW.map Ao),I x.c.step,I x.c.aS,I x.c.accel,I x.c.jerk,I x.c.low,I x.c.aY,I x.c.bB,I x.c.aV,I x.c.aO, .vC Aa (x.c.aW.map Ao),I t.length,I t.aQ,I t.aT.x,I t.aT.y,I t.aT.z]
abbrev Gt (x:Ax3) (mv:Int) (t:Trk) (now:Pt):List AC:=[.vC As (t.aE.map AN),I now.x,I now.y,I now.z,I mv,I x.a.step,I x.a.aS,I x.a.accel,I x.a.jerk,I x.a.low,I x.a.aY,I x.a.bB,I x.a.aV,I x.a.aO, .vC Aa (x.a.aW.map Ao),I x.b.step,I x.b.aS,I x.b.accel,I x.b.jerk,I x.b.low,I x.b.aY,I x.b.bB,I x.b.aV,I x.b.aO, .vC Aa (x.b.aW.map Ao),I x.c.step,I x.c.aS,I x.c.accel,I x.c.jerk,I x.c.low,I x.c.aY,I x.c.bB,I x.c.aV,I x.c.aO, .vC Aa (x.c.aW.map Ao),I t.length,I t.aQ,I t.aT.x,I t.aT.y,I t.aT.z]
theorem Zzo {MV:Fn} {x:Ax3} {lo hi mv:Int} {now:Pt} {n m:Int} {j:Nat} (hv:mv=1\/mv= -1) (hp:GoodPath p) (hx:Ax3OK x) (h:TB t n m) (hn:n<=9000000) (hm:m<=900000000000000000)
  (hj:j<p.aF.length)
  (hV:∀{a b:Pt} {s aR:Int},(0<=aR/\aR<=268435456)->MV [.vC As (t.aE.map AN),I a.x,I a.y,I a.z,I b.x,I b.y,I b.z,I s,I aR,I now.x,I now.y,I now.z,I mv,I x.a.step,I x.a.aS,I x.a.accel,I x.a.jerk,I x.a.low,I x.a.aY,I x.a.bB,I x.a.aV,I x.a.aO, .vC Aa (x.a.aW.map Ao),I x.b.step,I x.b.aS,I x.b.accel,I x.b.jerk,I x.b.low,I x.b.aY,I x.b.bB,I x.b.aV,I x.b.aO, .vC Aa (x.b.aW.map Ao),I x.c.step,I x.c.aS,I x.c.accel,I x.c.jerk,I x.c.low,I x.c.aY,I x.c.bB,I x.c.aV,I x.c.aO, .vC Aa (x.c.aW.map Ao),I t.length,I t.aQ,I t.aT.x,I t.aT.y,I t.aT.z]=some (Gt x mv (CW x mv a b s aR (t,now)).1 (CW x mv a b s aR (t,now)).2)):
  VF MV N (Qa p x lo hi mv t now j)=some (0,Qa p x lo hi mv (In p x mv lo hi (EC p.aF.length mv j) (t,now)).1 (In p x mv lo hi (EC p.aF.length mv j) (t,now)).2 (j+1)):=by
 have S:=hp.ok;have a1:=S.count;have M:=Yg mv hj;have G:(mv=1/\EC p.aF.length mv j=j)\/(mv= -1/\EC p.aF.length mv j=p.aF.length-1-j):=by
  unfold EC;rcases hv with rfl|rfl
  ·exact .inl ⟨rfl,aa⟩
  ·exact .inr ⟨rfl,ab⟩
 obtain⟨i,a0⟩:∃i,EC p.aF.length mv j=i:=⟨_,rfl⟩;rw[a0]at M G⊢;have J:i<p.aF.length:=M;have hg:=S.seg _ (Il J);have hr:=LB J;have hb:=Z6r (l:=p.aF) J;have a2:=Ql5 S i (by omega);have T:=QV J;have U:(0:Int)<=(i:Nat)/\(i:Int)<(p.aF.length:Int):=by omega
 have O:(j:Int)<(p.aF.length:Int):=by omega
 have e1:V ((j:Int)+1)=((j+1:Nat):Int):=by rw[Ae];omega
 have hI:V (V ((p.aF.length:Int)-1)-(j:Int))=((p.aF.length-1-j:Nat):Int):=by rw[Ae (x:=(p.aF.length:Int)-1),Ae];omega
 have hw:V (AH p.aF i+(sgA p.aF i).len)=AH p.aF (i+1):=by rw[T,Ae]
 have X:max (AH p.aF i) lo<min (AH p.aF (i+1)) hi->V (min (AH p.aF (i+1)) hi-max (AH p.aF i) lo)=min (AH p.aF (i+1)) hi-max (AH p.aF i) lo:=λ_=>Ae;have hd:max (AH p.aF i) lo<min (AH p.aF (i+1)) hi->0<=min (AH p.aF (i+1)) hi-max (AH p.aF i) lo/\min (AH p.aF (i+1)) hi-max (AH p.aF i) lo<=268435456:=λ_=>by omega
 have Y:i≠0->V ((i:Int)-1)=((i-1:Nat):Int)/\((0:Int)<=((i-1:Nat):Int)/\((i-1:Nat):Int)<(p.aF.length:Int))/\nth [] (p.aF.map Av) (i-1)=Av (sgA p.aF (i-1))/\Fm p.aQ p.aF i=(sgA p.aF (i-1)).to:=by
  intro h0;refine⟨by rw[Ae];omega,by omega,LB (by omega),?_⟩;obtain⟨q,rfl⟩:∃q,i=q+1:=⟨i-1,by omega⟩;exact UO (by omega)
 unfold In;rw[Q9v];rcases G with⟨rfl,rfl⟩|⟨rfl,ei⟩
 ·simp only[go_sem,af,TD,ak,hr,hb,ab U,ab O,OM,KJ,hw,e1];rw[aa];by_cases c:max (AH p.aF i) lo<min (AH p.aF (i+1)) hi
  ·rw[aa,ab c,X c];by_cases c0:i=0
   ·rw[aa];have E:=hV (a:=p.aQ) (b:=(sgA p.aF i).to) (s:=max (AH p.aF i) lo) (hd c);subst c0;rw[K_];rw[aa,E];simp only[Gt,go_sem];rfl
   ·obtain⟨k1,k2,k3,k4⟩:=Y c0;rw[ab,k1];have E:=hV (a:=(sgA p.aF (i-1)).to) (b:=(sgA p.aF i).to) (s:=max (AH p.aF i) lo) (hd c);rw[k4];simp only[ak,k3,go_sem,ab k2];rw[aa,E];simp only[Gt,go_sem];rfl
  ·rw[ab,aa c]
 ·rw[<-ei]at hI;simp only[go_sem,af,TD,hI,ak,hr,hb,ab U,ab O,OM,KJ,hw,e1];rw[ab];by_cases c:max (AH p.aF i) lo<min (AH p.aF (i+1)) hi
  ·rw[aa,ab c,X c];by_cases c0:i=0
   ·rw[aa];have E:=hV (a:=p.aQ) (b:=(sgA p.aF i).to) (s:=min (AH p.aF (i+1)) hi) (hd c);subst c0;rw[K_];rw[ab,E];simp only[Gt,go_sem];rfl
   ·obtain⟨k1,k2,k3,k4⟩:=Y c0;rw[ab,k1];have E:=hV (a:=(sgA p.aF (i-1)).to) (b:=(sgA p.aF i).to) (s:=min (AH p.aF (i+1)) hi) (hd c);rw[k4];simp only[ak,k3,go_sem,ab k2];rw[ab,E];simp only[Gt,go_sem];rfl
  ·rw[ab,aa c]
def pcA (l:List Pce) (i:Nat):Pce:=l.getD i pc0
def eI (l:List Pce) (i:Nat):Int:=(pcA l i).at_+(pcA l i).aR
def fI:List Pce->Int->Nat
 |[],_=>0
 |c::l,u=>if u<=c.at_+c.aR then 0 else fI l u+1
theorem FM (c:Pce) (l:List Pce) (i:Nat):pcA (c::l) (i+1)=pcA l i:=by unfold pcA;simp
theorem Iv (c:Pce) (l:List Pce):pcA (c::l) 0=c:=by unfold pcA;simp
theorem OR {l:List Pce} (h:i<l.length):nth [] (l.map AN) i=AN (pcA l i):=by
 have e:pcA l i=l[i]:=by unfold pcA;simp[h]
 rw[e];exact JA _ _ _ _ h
theorem Vb:∀{l:List Pce} {u:Int} {j:Nat},j<l.length->u<=eI l j->fI l u<=j
 |c::l,u,0,_,h=>by
  unfold eI at h;rw[Iv]at h;unfold fI;rw[ab h];exact db _
 |c::l,u,j+1,G,h=>by
  unfold fI;by_cases E:u<=c.at_+c.aR
  ·rw[ab E];omega
  ·rw[aa E];have:fI l u<=j:=Vb (by simpa using G) (by unfold eI at h⊢;rw[FM]at h;exact h);omega
theorem Q5r:∀{l:List Pce} {u:Int},fI l u<l.length->u<=eI l (fI l u)
 |[],_,h=>by simp at h
 |c::l,u,h=>by
  unfold fI at h⊢;by_cases E:u<=c.at_+c.aR
  ·rw[ab E];unfold eI;rw[Iv];exact E
  ·rw[aa E]at h⊢;have:=Q5r (l:=l) (u:=u) (by simpa using h);unfold eI at this⊢;rw[FM];exact this
structure TQ (t : Trk) : Prop where
 count:t.aE.length<=10000000
 len:0<=t.length/\t.length<=900000000000000
 pos:∀i,i<t.aE.length->0<=(pcA t.aE i).at_/\1<=(pcA t.aE i).aR/\eI t.aE i<=t.length
 mono:∀i j,i<=j->j<t.aE.length->eI t.aE i<=eI t.aE j
 last:t.aE≠[]->eI t.aE (t.aE.length-1)=t.length
 aQ:0<=t.aQ/\t.aQ<=263886834032640
 s:∀i,i<t.aE.length-> -900000000000000<=(pcA t.aE i).s/\(pcA t.aE i).s<=2000000000000000
 bD:∀i,i<t.aE.length->(pcA t.aE i).bD=0\/(pcA t.aE i).bD=1\/(pcA t.aE i).bD= -1
def clT (t:Trk) (u:Int):Int:=AS u t.length
theorem IY (h:TQ t) (u:Int):0<=clT t u/\clT t u<=t.length:=by have:=h.len;unfold clT AS;omega
def iT (t:Trk) (u:Int):Nat:=fI t.aE (clT t u)
theorem JZ (h:TQ t) (u:Int) (E:t.aE≠[]):iT t u<t.aE.length:=by
 have I:0<t.aE.length:=by
  cases G:t.aE with
  |nil=>exact absurd G E
  |cons _ _=>simp
 have:=Vb (l:=t.aE) (u:=clT t u) (j:=t.aE.length-1) (by omega) (by rw[h.last E];exact(IY h u).2);unfold iT;omega
def Az (t:Trk) (u:Int):Int:=if t.aE=[]then t.aQ else(pcA t.aE (iT t u)).s+(pcA t.aE (iT t u)).bD*(clT t u-(pcA t.aE (iT t u)).at_)
def GV (t:Trk) (u:Int):Prop:=t.aE≠[]/\(pcA t.aE (iT t u)).bD=0/\(pcA t.aE (iT t u)).at_<clT t u/\clT t u<eI t.aE (iT t u)
theorem Qbf (h:TQ t) {u:Int} (hi:fI t.aE u<t.aE.length):∀(k lo hi:Nat),hi-lo<=k->lo<=fI t.aE u->fI t.aE u<=hi->hi<t.aE.length->
  Ak Tw [I u,I lo,I hi, .vC As (t.aE.map AN),I t.length,I t.aQ,I t.aT.x,I t.aT.y,I t.aT.z]=some (1,[I (fI t.aE u)])
 |k,lo,hi,hk,S,T,U=>by
  have O:=h.count;have hl:=h.len;by_cases c:lo<hi
  ·have em:V ((V ((lo:Int)+hi)).tdiv 2)=(((lo+hi)/2:Nat):Int):=by
    rw[Ae (x:=(lo:Int)+hi),bh (by omega),Ae];omega
   have X:lo<=(lo+hi)/2/\(lo+hi)/2<hi:=by omega
   generalize(lo+hi)/2=m at*;have E:m<t.aE.length:=by omega
   have J:=h.pos m E;have N:(0:Int)<=(m:Int)/\(m:Int)<(t.aE.length:Int):=by omega
   have Y:V ((pcA t.aE m).at_+(pcA t.aE m).aR)=eI t.aE m:=by unfold eI at J⊢;exact Ae
   have G:Tw [I u,I lo,I hi, .vC As (t.aE.map AN),I t.length,I t.aQ,I t.aT.x,I t.aT.y,I t.aT.z]=if u<=eI t.aE m then some (0,[I u,I lo,I m, .vC As (t.aE.map AN),I t.length,I t.aQ,I t.aT.x,I t.aT.y,I t.aT.z])else some (0,[I u,I (m+1:Nat),I hi, .vC As (t.aE.map AN),I t.length,I t.aQ,I t.aT.x,I t.aT.y,I t.aT.z]):=by
    rw[Qfg,em];simp only[go_sem,af,ak,OR E,ab N,Y,Ae (x:=(m:Int)+1)];rw[ab];rfl
   by_cases M:u<=eI t.aE m
   ·rw[ab M]at G;rw[Bz G];cases k with
    |zero=>omega
    |succ k=>exact Qbf h (by omega) k lo m (by omega) S (Vb E M) E
   ·rw[aa M]at G;rw[Bz G];have a0:m<fI t.aE u:=by
     by_cases c3:fI t.aE u<=m
     ·exact absurd (iy (Q5r (by omega)) (h.mono _ _ c3 E)) M
     ·omega
    cases k with
    |zero=>omega
    |succ k=>exact Qbf h (by omega) k (m+1) hi (by omega) (by omega) T U
  ·refine Be (o:=(1,_)) ?_ (by simp);rw[Qfg,Bg (by omega),show fI t.aE u=hi by omega]
theorem Qby (h:TQ t) (u:Int):Hh (Ba t++[I (clT t u)])=some [I (if t.aE=[]then-1 else(iT t u:Int))]:=by
 have he:=Z83 Nm (t.aE.map AN) t.length t.aQ t.aT.x t.aT.y t.aT.z (clT t u);unfold Hh;refine cx he ?_;rw[af];have J:=h.count;by_cases c:t.aE=[]
 ·have E:Nm [I (clT t u),I 0,I (-1), .vC As (t.aE.map AN),I t.length,I t.aQ,I t.aT.x,I t.aT.y,I t.aT.z]=some (1,[I (-1)]):=by
   refine Be (o:=(1,_)) ?_ (by simp);rw[Qfg,Bg (by omega)]
  have e1:V ((t.aE.length:Int)-1)= -1:=by rw[c];rfl
  rw[ab c,e1];generalize Nm=N at*;simp only[E,go_sem]
 ·have O:0<t.aE.length:=by
   cases M:t.aE with
   |nil=>exact absurd M c
   |cons _ _=>simp
  have hi:=JZ h u c;have E:=Qbf h (u:=clT t u) hi t.aE.length 0 (t.aE.length-1) (by omega) (by omega) (by unfold iT at hi;omega) (by omega);have G:Nm [I (clT t u),I 0,I (t.aE.length-1:Nat), .vC As (t.aE.map AN),I t.length,I t.aQ,I t.aT.x,I t.aT.y,I t.aT.z]=some (1,[I (iT t u:Int)]):=E;have e1:V ((t.aE.length:Int)-1)=((t.aE.length-1:Nat):Int):=by rw[Ae];omega
  rw[aa c,e1];generalize Nm=N at*;simp only[G,go_sem]
theorem Zvc (h:TQ t) (u:Int) (E:t.aE≠[]):
  V ((pcA t.aE (iT t u)).s+V ((pcA t.aE (iT t u)).bD*V (clT t u-(pcA t.aE (iT t u)).at_)))=Az t u:=by
 have hi:=JZ h u E;have I:=h.pos _ hi;have J:=h.s _ hi;have G:=h.bD _ hi;have M:=IY h u;have N:=h.len;unfold Az eI at*;rw[aa E,Ae (x:=clT t u-_)];generalize pcA t.aE (iT t u)=c at*;have hb:(-900000000000000<=c.bD*(clT t u-c.at_)/\c.bD*(clT t u-c.at_)<=900000000000000):=by
  rcases G with G|G|G<;>rw[G]<;>omega
 rw[Ae (x:=c.bD*_),Ae]
theorem Zgi (h:TQ t) {u:Int} (J:Z [I u,I t.length]=some [I (clT t u)]) (E:M (Ba t++[I (clT t u)])=some [I (if t.aE=[]then-1 else(iT t u:Int))]):Qnq M Z (Ba t++[I u])=some [I (Az t u)]:=by
 have he:=Ztn M Z (t.aE.map AN) t.length t.aQ t.aT.x t.aT.y t.aT.z u;refine cx he ?_;simp only[Ba,az,bf]at E;by_cases c:t.aE=[]
 ·rw[ab c]at E;simp only[J,E,go_sem];rw[ab];unfold Az;rw[ab c]
 ·have hi:=JZ h u c;have N:=h.count;have G:(0:Int)<=(iT t u:Int)/\(iT t u:Int)<(t.aE.length:Int):=by omega
  rw[aa c]at E;simp only[J,E,go_sem,af,ab G,ak,OR hi,Zvc h u c];rw[aa]
theorem PW (h:TQ t) (u:Int):Ew (Ba t++[I u])=some [I (Az t u)]:=Zgi h Sx (Qby h u)
theorem Z2k (h:TQ t) {u:Int} (T:Z [I u,I t.length]=some [I (clT t u)]) (E:M (Ba t++[I (clT t u)])=some [I (if t.aE=[]then-1 else(iT t u:Int))]):Qfz M Z (Ba t++[I u])=some [B (decide (GV t u))]:=by
 have he:=Zqi M Z (t.aE.map AN) t.length t.aQ t.aT.x t.aT.y t.aT.z u;refine cx he ?_;simp only[Ba,az,bf]at E;by_cases c:t.aE=[]
 ·rw[ab c]at E;simp only[T,E,go_sem];rw[ab,an λg=>g.1 c]
 ·have hi:=JZ h u c;have U:=h.count;have G:=h.pos _ hi;have Y:=h.len;have S:(0:Int)<=(iT t u:Int)/\(iT t u:Int)<(t.aE.length:Int):=by omega
  have X:V ((pcA t.aE (iT t u)).at_+(pcA t.aE (iT t u)).aR)=eI t.aE (iT t u):=by unfold eI at G⊢;exact Ae
  rw[aa c]at E;simp only[T,E,go_sem,af,ab S,ak,OR hi,X];rw[aa];by_cases J:(pcA t.aE (iT t u)).bD=0
  ·by_cases N:(pcA t.aE (iT t u)).at_<clT t u
   ·rw[ab J,ab N];by_cases O:clT t u<eI t.aE (iT t u)
    ·rw[am O,am (show GV t u from⟨c,J,N,O⟩)]
    ·rw[an O,an (show¬GV t u from λg=>O g.2.2.2)]
   ·rw[ab J,aa N,an (show¬GV t u from λg=>N g.2.2.1)]
  ·rw[aa J,an (show¬GV t u from λg=>J g.2.1)]
theorem Zvj (h:TQ t) (u:Int):QS (Ba t++[I u])=some [B (decide (GV t u))]:=Z2k h Sx (Qby h u)
def Io (sp:Int) (l:List Int):Prop:=(∀v∈l,-4096<=v/\v<=4096)/\∀i,i+1<l.length-> -sp<=4*(l.getD (i+1) 0-l.getD i 0)/\4*(l.getD (i+1) 0-l.getD i 0)<=sp
structure AxOK (a : Axs) : Prop where
 step:4<=a.step/\a.step<=64
 bB:0<=a.bB/\a.bB<=6
 aV: -200<=a.aV/\a.aV<=200
 aO:a.aW≠[]->4<=a.aO/\a.aO<=123
 aW:Io a.aO a.aW
 count:a.aW.length<=4
 lim:1<=a.aS/\a.aS<=1000/\2<=a.accel/\a.accel<=1000/\4<=a.jerk/\a.jerk<=1000/\a.low= -16777216/\a.aY=16777216
theorem S5 {l m:List Int} (h:i<l.length):(l++m).getD i 0=l.getD i 0:=by simp[fu,kj h]
theorem Zo0 (l m:List Int) (v:Int):(l++v::m).getD l.length 0=v:=by simp[fu]
theorem Zyp {sp v w:Int} {l:List Int} (h:Io sp (l++[v])) (G: -4096<=w/\w<=4096) (I: -sp<=4*(w-v)/\4*(w-v)<=sp):Io sp (l++[v]++[w]):=by
 refine⟨?_,?_⟩
 ·intro x E;rcases bq.1 E with E|E
  ·exact h.1 x E
  ·rw[dw]at E;subst E;exact G
 ·intro i hi;simp only[ay,bj,dg]at hi;by_cases c:i+1<(l++[v]).length
  ·have:=h.2 i c;have c':i<(l++[v]).length:=by omega
   rw[S5 c,S5 c'];exact this
  ·simp only[ay,bj,dg]at c;have e:i=l.length:=by omega
   subst e;have g1:(l++[v]++[w]).getD (l.length+1) 0=w:=by
    simp
   have g2:(l++[v]++[w]).getD l.length 0=v:=by
    rw[fq];exact Zo0 l ([]++[w]) v
   rw[g1,g2];exact I
theorem Zz4 {l:List Int} (h:Io a (l++[v])):Io a l:=by
 refine⟨λx E=>h.1 x (by simp[E]),λi hi=> ?_⟩;have:=h.2 i (by simp;omega);rw[S5 hi,S5 (by omega)]at this;exact this
theorem Zrc (G: -4096<=v/\v<=4096):Io a ([]++[v]):=⟨λx E=>by simp at E;subst E;exact G,λi hi=>by simp at hi⟩
theorem Z3d (h:0<=v/\v<6):∃x,Ah (nth .dead (nth [] [[I 8],[I 4],[I 5],[I 16],[I 23],[I 64]] v.toNat) 0)=x/\4<=x/\x<=64:=by
 have E:v=0\/v=1\/v=2\/v=3\/v=4\/v=5:=by omega
 rcases E with rfl|rfl|rfl|rfl|rfl|rfl<;>exact⟨_,rfl,by decide⟩
theorem Qn9 (h:0<=v/\v<5):∃x y z,Ah (nth .dead (nth [] [[I 40],[I 1],[I 3],[I 9],[I 1000]] v.toNat) 0)=x/\Ah (nth .dead (nth [] [[I 20],[I 2],[I 3],[I 5],[I 1000]] v.toNat) 0)=y/\Ah (nth .dead (nth [] [[I 30],[I 4],[I 5],[I 8],[I 1000]] v.toNat) 0)=z/\1<=x/\x<=1000/\2<=y/\y<=1000/\4<=z/\z<=1000:=by
 have E:v=0\/v=1\/v=2\/v=3\/v=4:=by omega
 rcases E with rfl|rfl|rfl|rfl|rfl<;>exact⟨_,_,_,rfl,rfl,rfl,by decide⟩
theorem Zv8 (h:0<=v/\v<4):∃x,Ah (nth .dead (nth [] [[I 0],[I 1],[I 3],[I 6]] v.toNat) 0)=x/\0<=x/\x<=6:=by
 have E:v=0\/v=1\/v=2\/v=3:=by omega
 rcases E with rfl|rfl|rfl|rfl<;>exact⟨_,rfl,by decide⟩
abbrev axS (l:Rw) (E:List Int) (n v:Int) (j:Nat) (a:Axs) (k:Nat):List AC:=
 [.vC Aa [], .vC Aa (E.map Ao),I n,I v,I j,I 0,I 0,I 0,I 0,I 0,I 0,I 0,I 0,I 0,I a.step,I a.aS,I a.accel,I a.jerk,I a.low,I a.aY,I a.bB,I a.aV,I a.aO, .vC Aa l,I k]
theorem Zdy {MN:Fn} (N:JC l MN) {a:Axs} (J:4<=a.aO/\a.aO<=123):∀(r j:Nat) (E:List Int) (v:Int) (k:Nat),j+r<=4->E.length=j->Io a.aO (E++[v])->
  ∃(G:List Int) (k':Nat),Ak (SM MN) (axS l E (j+r:Nat) v j a k)=some (1,[.vC Aa [], .vC Aa (G.map Ao),I 0,I 0,I 0,I 0,I 0,I 0,I 0,I 0,I 0,I a.step,I a.aS,I a.accel,I a.jerk,I a.low,I a.aY,I a.bB,I a.aV,I a.aO, .vC Aa l,I k'])/\G.length=j+r/\Io a.aO G
 |0,j,E,v,k,_,O,h=>by
  refine⟨E,k,Be (o:=(1,_)) ?_ (by simp),by omega,Zz4 h⟩;rw[Q8k,Bg (by omega)]
 |r+1,j,E,v,k,hj,O,h=>by
  have hv:=h.1 v (by simp);have S:V (a.aO.tdiv 4)=a.aO/4:=by rw[bh (by omega),Ae]
  have T:V (V (2*(a.aO/4))+1)=2*(a.aO/4)+1:=by rw[Ae (x:=2*(a.aO/4)),Ae]
  obtain⟨w,k1,U,w0,w1,-⟩:=N k (n:=2*(a.aO/4)+1) (by omega);have X:V (V (v+w)-a.aO/4)=v+w-a.aO/4:=by rw[Ae (x:=v+w),Ae]
  have hle:(E.map Ao++[[I v]]).length*8<=140737488355328:=by rw[ay,af];simp only[bj,dg];omega
  have M:SM MN (axS l E (j+(r+1):Nat) v j a k)=some (0,axS l (E++[v]) (j+1+r:Nat) (min (max (v+w-a.aO/4) (-4096)) 4096) (j+1) a k1):=by
   rw[Q8k];simp only[go_sem,ab hle,S,T,U,X,KJ,OM];rw[ab,Ae (x:=(j:Int)+1),show j+(r+1)=j+1+r by omega];simp only[axS,de,bt,f8,Ao,gx,i9]
  rw[Bz M];obtain⟨Y,k',h1,h2,h3⟩:=Zdy N J r (j+1) (E++[v]) (min (max (v+w-a.aO/4) (-4096)) 4096) k1 (by omega) (by simp[O]) (Zyp h (by omega) (by omega));exact⟨Y,k',h1,by omega,h3⟩
theorem Zmh (G:JC l M)
  (hL:∀{a:Axs} {n:Nat} {v:Int} {k:Nat},(4<=a.aO/\a.aO<=123)->n<=4->Io a.aO ([]++[v])->∃(E:List Int) (k':Nat),N (axS l [] n v 0 a k)=some (1,[.vC Aa [], .vC Aa (E.map Ao),I 0,I 0,I 0,I 0,I 0,I 0,I 0,I 0,I 0,I a.step,I a.aS,I a.accel,I a.jerk,I a.low,I a.aY,I a.bB,I a.aV,I a.aO, .vC Aa l,I k'])/\E.length=n/\Io a.aO E) (k:Nat):
  ∃(a:Axs) (k':Nat),Wy M N [.vC Aa l,I k]=some (BD a++[.vC Aa l,I k'])/\AxOK a:=by
 obtain⟨v1,k1,h1,a1,b1,-⟩:=G k (n:=6) (by omega);obtain⟨v2,k2,h2,a2,b2,-⟩:=G k1 (n:=4) (by omega);obtain⟨v3,k3,h3,a3,b3,-⟩:=G k2 (n:=5) (by omega);obtain⟨v4,k4,h4,a4,b4,-⟩:=G k3 (n:=5) (by omega);obtain⟨v5,k5,h5,a5,b5,-⟩:=G k4 (n:=5) (by omega);obtain⟨J,k6,h6,a6,b6,-⟩:=G k5 (n:=5) (by omega);obtain⟨Y,k7,h7,a7,b7,-⟩:=G k6 (n:=400) (by omega);obtain⟨v8,k8,h8,a8,b8,-⟩:=G k7 (n:=120) (by omega);obtain⟨v9,k9,h9,a9,b9,-⟩:=G k8 (n:=9) (by omega);obtain⟨O,e1,s1⟩:=Z3d ⟨a1,b1⟩;obtain⟨S,e2,s2⟩:=Zv8 ⟨a2,b2⟩;have i1:(0:Int)<=v1/\v1<(([[I 8],[I 4],[I 5],[I 16],[I 23],[I 64]]:Rw).length:Int):=⟨a1,by simp;omega⟩;have i2:(0:Int)<=v2/\v2<(([[I 0],[I 1],[I 3],[I 6]]:Rw).length:Int):=⟨a2,by simp;omega⟩;have i3:(0:Int)<=v3/\v3<(([[I 40],[I 1],[I 3],[I 9],[I 1000]]:Rw).length:Int):=⟨a3,by simp;omega⟩;have i4:(0:Int)<=v4/\v4<(([[I 20],[I 2],[I 3],[I 5],[I 1000]]:Rw).length:Int):=⟨a4,by simp;omega⟩;have i5:(0:Int)<=v5/\v5<(([[I 30],[I 4],[I 5],[I 8],[I 1000]]:Rw).length:Int):=⟨a5,by simp;omega⟩;obtain⟨T,_,_,a0,-,-,s3,t3,-⟩:=Qn9 ⟨a3,b3⟩;obtain⟨_,U,_,-,b0,-,-,-,s4,t4,-⟩:=Qn9 ⟨a4,b4⟩;obtain⟨_,_,V,-,-,c0,-,-,-,-,s5,t5⟩:=Qn9 ⟨a5,b5⟩;have main : ∀ R, R = (if J = 0 then some [I O, I T, I U, I V, I (-16777216), I 16777216, I S, I 0, I 0, .vC Aa [], .vC Aa l, I k6] else
   (N (axS l [] J.toNat (v9-4) 0 ⟨O,T,U,V,-16777216,16777216,S,Y-200,4+v8,[]⟩ k9)).bind λo=>if o.1=1 then some [I (Ah (nth .dead o.2 11)),I (Ah (nth .dead o.2 12)),I (Ah (nth .dead o.2 13)),I (Ah (nth .dead o.2 14)),I (Ah (nth .dead o.2 15)),I (Ah (nth .dead o.2 16)),I (Ah (nth .dead o.2 17)),I (Ah (nth .dead o.2 18)),I (Ah (nth .dead o.2 19)), .vC Aa (CI (nth .dead o.2 1)), .vC Aa (CI (nth .dead o.2 20)),I (Ah (nth .dead o.2 21))]else none)->
   ∃(a:Axs) (k':Nat),R=some (BD a++[.vC Aa l,I k'])/\AxOK a:=by
  intro R X;by_cases c:J=0
  ·rw[ab c]at X;refine⟨⟨O,T,U,V,-16777216,16777216,S,0,0,[]⟩,k6,X,?_⟩;exact⟨s1,s2,by simp,λh=>absurd rfl h,⟨by simp,by simp⟩,by simp,⟨s3,t3,s4,t4,s5,t5,rfl,rfl⟩⟩
  ·rw[aa c]at X;obtain⟨c1,k',g1,g2,g3⟩:=hL (a:=⟨O,T,U,V,-16777216,16777216,S,Y-200,4+v8,[]⟩) (n:=J.toNat) (v:=v9-4) (k:=k9) (by simp only;omega) (by omega) (Zrc (by omega));rw[g1]at X;refine⟨⟨O,T,U,V,-16777216,16777216,S,Y-200,4+v8,c1⟩,k',?_,?_⟩
   ·rw[X];simp only[go_sem];try rfl
   ·exact⟨s1,s2,by simp only;omega,λ_=>by simp only;omega,g3,by simp only;omega,⟨s3,t3,s4,t4,s5,t5,rfl,rfl⟩⟩
 refine main _ ?_;rw[Zhu];simp only[go_sem,h1,h2,h3,h4,h5,h6,ab i1,ab i2,ab i3,ab i4,ab i5,e1,e2,a0,b0,c0];by_cases c:J=0
 ·rw[ab c,ab c]
 ·rw[aa c,aa c];simp only[h7,h8,h9,go_sem,Ae (x:=v9-4),Ae (x:=Y-200),Ae (x:=4+v8)];have e:((J.toNat:Nat):Int)=J:=by omega
  simp only[axS,e,f8];rfl
theorem Qsr (E:Src l) (k:Nat):∃(a:Axs) (k':Nat),NN [.vC Aa l,I k]=some (BD a++[.vC Aa l,I k'])/\AxOK a:=by
 refine Zmh (N:=Qqs) (Kc E) (fun{a n v k} M T O=> ?_) k;obtain⟨p,k',G,J,S⟩:=Zdy (MN:=Dv) (Kc E) M n 0 [] v k (by omega) rfl O;rw[d9]at G J;exact⟨p,k',G,J,S⟩
structure Ax3M (x : Ax3) : Prop where
 a:AxOK x.a
 b:AxOK x.b
 c:AxOK x.c
theorem Ax3M.ok {x:Ax3} (h:Ax3M x):Ax3OK x:=⟨by have:=h.a.bB;omega,by have:=h.b.bB;omega,by have:=h.c.bB;omega⟩
theorem Zzp (G:Src l):∃x:Ax3,O1 [.vC Aa l]=some (AI x)/\Ax3M x:=by
 obtain⟨a,k1,N,g1⟩:=Qsr G 0;obtain⟨b,k2,J,g2⟩:=Qsr G k1;obtain⟨c,T,M,O⟩:=Qsr G k2;refine⟨⟨a,b,c⟩,?_,g1,g2,O⟩;have hf:=TX l;unfold O1;generalize NN=S at*;generalize Es=U at*;rw[Z87];have E:S [.vC Aa l,I 0]=some (BD a++[.vC Aa l,I k1]):=N;simp only[BD,az,bf]at E J M;simp only[go_sem,hf,E,J,M]
theorem Z03 {x:Ax3} {mv lo hi f:Int} {d:Pt} (j:Nat):(Cw p x mv lo hi (⟨[],0,f,d⟩,d) j).1.aQ=f/\(Cw p x mv lo hi (⟨[],0,f,d⟩,d) j).1.aT=d:=by
 induction j with
 |zero=>exact⟨rfl,rfl⟩
 |succ j E=>rw[Cw,(Q95 _).1,(Q95 _).2];exact E
theorem Zcd {x:Ax3} {lo hi mv f:Int} (J:mv=1\/mv= -1) (E:GoodPath p) (G:Ax3OK x):∀(k j:Nat),j+k=p.aF.length->∀w,w=Cw p x mv lo hi (⟨[],0,f,g⟩,g) j->
  Ak (VF Gk Pa) (Qa p x lo hi mv w.1 w.2 j)=some (1,Gt x mv (Cw p x mv lo hi (⟨[],0,f,g⟩,g) p.aF.length).1 (Cw p x mv lo hi (⟨[],0,f,g⟩,g) p.aF.length).2)
 |0,j,T,w,I=>by
  have M:j=p.aF.length:=by omega
  refine Be (o:=(1,_)) ?_ (by simp);rw[Q9v,Bg (by omega),I,M]
 |k+1,j,T,w,I=>by
  have S:=E.count;have hb:=Zu (mv:=mv) (lo:=lo) (hi:=hi) (f:=f) (d:=g) G E.ok j (by omega);rw[<-I]at hb;have O:=Zzo (MV:=Gk) (N:=Pa) (lo:=lo) (hi:=hi) (now:=w.2) (j:=j) J E G hb (by omega) (by omega) (by omega) (fun{a b s aR} U=>Zwe J G hb (by omega) (by omega) (k:=268435456) (by omega) U);rw[Bz O];exact Zcd J E G k (j+1) (by omega) _ (by rw[Cw,<-I])
theorem Zfg {MV:Fn} {N4 N10:Lp} {x:Ax3} {lo hi mv f:Int}
  (G:N4 (RG p x lo hi mv ⟨[],0,f,g⟩ g 0 [] 0)=some (1,[.vC Aa (FX p.aF p.aF.length), .vC As [],I lo,I hi,I mv,I p.aQ.x,I p.aQ.y,I p.aQ.z, .vC Ag (p.aF.map Av), .vC AO (p.aD.map Aw),I g.x,I g.y,I g.z,I mv,I x.a.step,I x.a.aS,I x.a.accel,I x.a.jerk,I x.a.low,I x.a.aY,I x.a.bB,I x.a.aV,I x.a.aO, .vC Aa (x.a.aW.map Ao),I x.b.step,I x.b.aS,I x.b.accel,I x.b.jerk,I x.b.low,I x.b.aY,I x.b.bB,I x.b.aV,I x.b.aO, .vC Aa (x.b.aW.map Ao),I x.c.step,I x.c.aS,I x.c.accel,I x.c.jerk,I x.c.low,I x.c.aY,I x.c.bB,I x.c.aV,I x.c.aO, .vC Aa (x.c.aW.map Ao),I 0,I f,I g.x,I g.y,I g.z]))
  (E:N10 (Qa p x lo hi mv ⟨[],0,f,g⟩ g 0)=some (1,Gt x mv (Cw p x mv lo hi (⟨[],0,f,g⟩,g) p.aF.length).1 (Cw p x mv lo hi (⟨[],0,f,g⟩,g) p.aF.length).2)):
  Qe6 MV N4 N10 [.vC As [],I p.aQ.x,I p.aQ.y,I p.aQ.z, .vC Ag (p.aF.map Av), .vC AO (p.aD.map Aw),I lo,I hi,I mv,I g.x,I g.y,I g.z,I mv,I x.a.step,I x.a.aS,I x.a.accel,I x.a.jerk,I x.a.low,I x.a.aY,I x.a.bB,I x.a.aV,I x.a.aO, .vC Aa (x.a.aW.map Ao),I x.b.step,I x.b.aS,I x.b.accel,I x.b.jerk,I x.b.low,I x.b.aY,I x.b.bB,I x.b.aV,I x.b.aO, .vC Aa (x.b.aW.map Ao),I x.c.step,I x.c.aS,I x.c.accel,I x.c.jerk,I x.c.low,I x.c.aY,I x.c.bB,I x.c.aV,I x.c.aO, .vC Aa (x.c.aW.map Ao),I 0,I f,I g.x,I g.y,I g.z]=some (Gt x mv (Cw p x mv lo hi (⟨[],0,f,g⟩,g) p.aF.length).1 (Cw p x mv lo hi (⟨[],0,f,g⟩,g) p.aF.length).2):=by
 rw[Zrx];simp only[RG,f8,i9]at G;simp only[Qa,Gt,f8,i9]at E;simp only[go_sem,af,G,E]
theorem Zgh {x:Ax3} {lo hi mv f:Int} (G:mv=1\/mv= -1) (E:GoodPath p) (J:Ax3OK x):
  Qm [.vC As [],I p.aQ.x,I p.aQ.y,I p.aQ.z, .vC Ag (p.aF.map Av), .vC AO (p.aD.map Aw),I lo,I hi,I mv,I g.x,I g.y,I g.z,I mv,I x.a.step,I x.a.aS,I x.a.accel,I x.a.jerk,I x.a.low,I x.a.aY,I x.a.bB,I x.a.aV,I x.a.aO, .vC Aa (x.a.aW.map Ao),I x.b.step,I x.b.aS,I x.b.accel,I x.b.jerk,I x.b.low,I x.b.aY,I x.b.bB,I x.b.aV,I x.b.aO, .vC Aa (x.b.aW.map Ao),I x.c.step,I x.c.aS,I x.c.accel,I x.c.jerk,I x.c.low,I x.c.aY,I x.c.bB,I x.c.aV,I x.c.aO, .vC Aa (x.c.aW.map Ao),I 0,I f,I g.x,I g.y,I g.z]=some (Gt x mv (Cw p x mv lo hi (⟨[],0,f,g⟩,g) p.aF.length).1 (Cw p x mv lo hi (⟨[],0,f,g⟩,g) p.aF.length).2):=by
 refine Zfg (MV:=Gk) (N4:=Pa) (N10:=Qho) ?_ (Zcd G E J p.aF.length 0 (by omega) _ rfl);have h:=Q41 (M:=Gk) (x:=x) (lo:=lo) (hi:=hi) (mv:=mv) (t:=⟨[],0,f,g⟩) (now:=g) E.ok p.aF.length 0 (by omega);rw[Uk]at h;exact h
theorem Z8o {x:Ax3} (E:S (BC p)=some [I (Ay p.aF)]) (J:∀n h:Int,T [I n,I h]=some [I (AS n h)])
  (G:∀{lo hi mv f:Int},(mv=1\/mv= -1)->M [.vC As [],I p.aQ.x,I p.aQ.y,I p.aQ.z, .vC Ag (p.aF.map Av), .vC AO (p.aD.map Aw),I lo,I hi,I mv,I g.x,I g.y,I g.z,I mv,I x.a.step,I x.a.aS,I x.a.accel,I x.a.jerk,I x.a.low,I x.a.aY,I x.a.bB,I x.a.aV,I x.a.aO, .vC Aa (x.a.aW.map Ao),I x.b.step,I x.b.aS,I x.b.accel,I x.b.jerk,I x.b.low,I x.b.aY,I x.b.bB,I x.b.aV,I x.b.aO, .vC Aa (x.b.aW.map Ao),I x.c.step,I x.c.aS,I x.c.accel,I x.c.jerk,I x.c.low,I x.c.aY,I x.c.bB,I x.c.aV,I x.c.aO, .vC Aa (x.c.aW.map Ao),I 0,I f,I g.x,I g.y,I g.z]=some (Gt x mv (Cw p x mv lo hi (⟨[],0,f,g⟩,g) p.aF.length).1 (Cw p x mv lo hi (⟨[],0,f,g⟩,g) p.aF.length).2)):
  Qh3 M Z W T S (BC p++AI x++[I g.x,I g.y,I g.z,I a,I k])=some (Ba (AL p x g a k)):=by
 have he:=Zi0 M Z W T S p.aQ.x p.aQ.y p.aQ.z (p.aF.map Av) (p.aD.map Aw) x.a.step x.a.aS x.a.accel x.a.jerk x.a.low x.a.aY x.a.bB x.a.aV x.a.aO (x.a.aW.map Ao) x.b.step x.b.aS x.b.accel x.b.jerk x.b.low x.b.aY x.b.bB x.b.aV x.b.aO (x.b.aW.map Ao) x.c.step x.c.aS x.c.accel x.c.jerk x.c.low x.c.aY x.c.bB x.c.aV x.c.aO (x.c.aW.map Ao) g.x g.y g.z a k;refine cx he ?_;unfold AL;simp only[BC]at E;simp only[E,J,go_sem,KJ,OM];generalize AS a (Ay p.aF)=f at*;generalize AS k (Ay p.aF)=t at*;by_cases c:t<f
 ·have h:=G (lo:=min f t) (hi:=max f t) (mv:= -1) (f:=f) (.inr rfl);simp only[Gt]at h;simp only[h,go_sem,c,dz]
 ·have h:=G (lo:=min f t) (hi:=max f t) (mv:=1) (f:=f) (.inl rfl);simp only[Gt]at h;simp only[h,go_sem,c,ig]
theorem Q9t {x:Ax3} {d:Pt} {from_ to:Int} (E:GoodPath p) (G:Ax3OK x):Kj (BC p++AI x++[I d.x,I d.y,I d.z,I from_,I to])=some (Ba (AL p x d from_ to)):=
 Z8o (Q87 E.ok) (λ_ _=>Sx) λJ=>Zgh J E G
def Pn (t:Trk):Pt:=if t.aE=[]then t.aT else(Bl t.aE).aT
theorem Yas {x:Ax3} (d:Pt) (a b:Int) (E:GoodPath p) (G:Ax3OK x):(AL p x d a b).aE.length<=10000000/\0<=(AL p x d a b).length/\(AL p x d a b).length<=900000000000000:=by
 have I:=E.count;have h:=Zu (mv:=if AS a (Ay p.aF)>AS b (Ay p.aF)then-1 else 1) (lo:=min (AS a (Ay p.aF)) (AS b (Ay p.aF))) (hi:=max (AS a (Ay p.aF)) (AS b (Ay p.aF))) (f:=AS a (Ay p.aF)) (d:=d) G E.ok p.aF.length (db _);obtain⟨J,M,-⟩:=h;unfold AL;simp only;refine⟨by omega,by omega,by omega⟩
theorem SJ {x:Ax3}:∀{a s:Int} {d:Pt} {l:List Pce},chain x k Q a s d l->a<=By a l
 |a,_,_,[],_=>bz _
 |a,s,d,c::l,h=>by
  obtain⟨-,-,G,-,E⟩:=h;have:=SJ E;unfold By;omega
theorem R7 {x:Ax3} (I:k=1\/k= -1):∀{a s:Int} {d:Pt} {l:List Pce},chain x k Q a s d l->∀i,i<l.length->
  a<=(pcA l i).at_/\1<=(pcA l i).aR/\eI l i<=By a l/\(s-((pcA l i).at_-a)<=(pcA l i).s/\(pcA l i).s<=s+((pcA l i).at_-a))/\((pcA l i).bD=0\/(pcA l i).bD=k)
 |a,s,d,c::l,h,0,_=>by
  obtain⟨N,O,J,E,G⟩:=h;have:=SJ G;unfold eI;rw[Iv];refine⟨by omega,J,by unfold By;omega,by omega,?_⟩;rcases E with E|E
  ·exact .inr E.1
  ·exact .inl E.1
 |a,s,d,c::l,h,i+1,hi=>by
  obtain⟨N,O,J,E,G⟩:=h;have M:=R7 I G i (by simpa using hi);unfold eI at M⊢;rw[FM];obtain⟨g1,g2,S,U,T⟩:=M;have V:c.bD*c.aR=0\/c.bD*c.aR=c.aR\/c.bD*c.aR= -c.aR:=by
   rcases E with E|E
   ·rw[E.1];rcases I with rfl|rfl<;>omega
   ·rw[E.1];omega
  refine⟨by omega,g2,by unfold By;exact S,by omega,T⟩
theorem Q3u {x:Ax3} (J:k=1\/k= -1):∀{a s:Int} {d:Pt} {l:List Pce},chain x k Q a s d l->∀i j,i<=j->j<l.length->eI l i<=eI l j
 |a,s,d,c::l,h,0,0,_,_=>bz _
 |a,s,d,c::l,h,0,j+1,_,E=>by
  obtain⟨M,N,O,S,G⟩:=h;have:=R7 J G j (by simpa using E);unfold eI at*;rw[Iv,FM];omega
 |a,s,d,c::l,h,i+1,0,I,_=>by omega
 |a,s,d,c::l,h,i+1,j+1,I,E=>by
  obtain⟨M,N,O,S,G⟩:=h;have:=Q3u J G i j (by omega) (by simpa using E);unfold eI at*;rw[FM,FM];exact this
theorem Qtm {x:Ax3}:∀{a s:Int} {d:Pt} {l:List Pce},chain x k Q a s d l->l≠[]->eI l (l.length-1)=By a l
 |a,s,d,[c],h,_=>by
  obtain⟨G,-⟩:=h;show eI [c] 0=By a [c];unfold eI;rw[Iv];simp only[By];omega
 |a,s,d,c::e::l,h,_=>by
  obtain⟨-,-,-,-,E⟩:=h;have:=Qtm E (by simp);have e1:(c::e::l).length-1=((e::l).length-1)+1:=by simp
  rw[e1];unfold eI at*;rw[FM,this];rfl
def mvP (p:Pth) (a b:Int):Int:=if AS a (Ay p.aF)>AS b (Ay p.aF)then-1 else 1
theorem R5 (p:Pth) (a b:Int):mvP p a b=1\/mvP p a b= -1:=by unfold mvP;split<;>simp
theorem I2 {x:Ax3} {d:Pt} (I:Ax3OK x) (E:GoodPath p) (J:Qv5 p (mvP p a b) Q):
  ∃M,TC x (mvP p a b) Q (AL p x d a b) (AS b (Ay p.aF)) M/\(AL p x d a b).aQ=AS a (Ay p.aF)/\(AL p x d a b).aT=d:=by
 have O:=Nb E;have S:0<=AS a (Ay p.aF)/\AS a (Ay p.aF)<=Ay p.aF:=by unfold AS;omega
 have hb:0<=AS b (Ay p.aF)/\AS b (Ay p.aF)<=Ay p.aF:=by unfold AS;omega
 have G:=λmv lo hi f=>Z03 (p:=p) (x:=x) (mv:=mv) (lo:=lo) (hi:=hi) (f:=f) (d:=d) p.aF.length;unfold AL mvP at*;simp only;generalize AS a (Ay p.aF)=f at*;generalize AS b (Ay p.aF)=t at*;have h:=Q88 (p:=p) (x:=x) (mv:=if f>t then-1 else 1) (lo:=min f t) (hi:=max f t) (f:=f) (d:=d) (Q:=Q) (by split<;>simp) I E.ok (by omega) (by split<;>omega) J p.aF.length (db _);have N:KF p.aF (if f>t then-1 else 1) (min f t) (max f t) p.aF.length=t:=by
  unfold KF;rw[jt,Uk,Q9l];by_cases c:f>t
  ·rw[ab c,ab];omega
  ·rw[aa c,aa];omega
 rw[N]at h;exact⟨_,h,(G _ _ _ _).1,(G _ _ _ _).2⟩
theorem Zzq {x:Ax3} {s:Int} (E:a=1\/a= -1) (h:TC x a Q t s g) (hb:t.aE.length<=10000000/\0<=t.length/\t.length<=900000000000000) (M:0<=t.aQ/\t.aQ<=263886834032640):TQ t:=by
 obtain⟨G,I,-,-⟩:=h;refine⟨hb.1,hb.2,λi hi=> ?_,Q3u E G,λJ=>by rw[Qtm G J,I],M,λi hi=> ?_,λi hi=> ?_⟩
 ·have:=R7 E G i hi;rw[I]at this;exact⟨this.1,this.2.1,this.2.2.1⟩
 ·have:=R7 E G i hi;rw[I]at this;unfold eI at this;omega
 ·have:=(R7 E G i hi).2.2.2.2;rcases E with rfl|rfl
  ·rcases this with h|h
   ·exact .inl h
   ·exact .inr (.inl h)
  ·rcases this with h|h
   ·exact .inl h
   ·exact .inr (.inr h)
theorem Jq {x:Ax3} (d:Pt) (a b:Int) (G:Ax3OK x) (E:GoodPath p):TQ (AL p x d a b):=by
 have M:=Nb E;obtain⟨N,I,J,-⟩:=I2 (d:=d) (a:=a) (b:=b) (Q:=λ_ _=>True) G E (λ_ _ _ _ _ _ _ _=>trivial);exact Zzq (R5 p a b) I (Yas d a b E G) (by rw[J];unfold AS;omega)
def CH (a:Axs) (i:Nat):Int:=a.aW.getD i 0
def Le (a:Axs) (p:Int):Int:=
 if a.aW=[]then 0
 else if p<=a.aV then CH a 0
 else if(p-a.aV)/a.aO>=a.aW.length-1 then CH a (a.aW.length-1)
 else CH a ((p-a.aV)/a.aO).toNat+BA ((CH a (((p-a.aV)/a.aO).toNat+1)-CH a ((p-a.aV)/a.aO).toNat)*(p-a.aV-(p-a.aV)/a.aO*a.aO)) a.aO
def D8 (a:Axs) (p:Int):Int:=BA (p+Le a p) a.step
def okB (p:Int):Prop:= -1000000000<=p/\p<=1000000000
theorem Q00 {l:List Int} (h:l≠[]):0<l.length:=by
 cases l with
 |nil=>exact absurd rfl h
 |cons _ _=>simp
theorem QO {a:Axs} (h:AxOK a) {i:Nat} (hi:i<a.aW.length): -4096<=CH a i/\CH a i<=4096:=by
 have e:CH a i=a.aW[i]:=by unfold CH;simp[hi]
 rw[e];exact h.aW.1 _ (bn _)
theorem Ue {a:Axs} (hi:i<a.aW.length):nth [] (a.aW.map Ao) i=[I (CH a i)]:=by
 have e:CH a i=a.aW[i]:=by unfold CH;simp[hi]
 rw[e];exact JA _ _ _ _ hi
theorem Q6m {a:Axs} (h:AxOK a) (E:a.aW≠[]) {p:Int} (G: ¬p<=a.aV) (I: ¬(p-a.aV)/a.aO>=a.aW.length-1):
  ∃(i:Nat) (r:Int),((p-a.aV)/a.aO=i)/\i+1<a.aW.length/\0<=r/\r<a.aO/\p-a.aV=i*a.aO+r/\p-a.aV-(p-a.aV)/a.aO*a.aO=r:=by
 have J:=h.aO E;have e0:=Int.mul_ediv_add_emod (p-a.aV) a.aO;have e1:=Int.emod_nonneg (p-a.aV) (show a.aO≠0 by omega);have e2:=kh (p-a.aV) (show 0<a.aO by omega);have e3:0<=(p-a.aV)/a.aO:=Int.ediv_nonneg (by omega) (by omega);refine⟨((p-a.aV)/a.aO).toNat,(p-a.aV)%a.aO,by omega,by omega,e1,e2,?_,?_⟩
 ·rw[Int.toNat_of_nonneg e3,fa];omega
 ·rw[fa ((p-a.aV)/a.aO)];omega
theorem Zcx {a:Axs} (h:AxOK a) (E:a.aW≠[]) {i:Nat} (hi:i+1<a.aW.length) {r:Int} (G:0<=r/\r<=a.aO):
  (-30<=CH a (i+1)-CH a i/\CH a (i+1)-CH a i<=30)/\(BA ((CH a (i+1)-CH a i)*r) a.aO).natAbs<=31:=by
 have J:=h.aO E;have M:=h.aW.2 i hi;have I: -30<=CH a (i+1)-CH a i/\CH a (i+1)-CH a i<=30:=by unfold CH;omega
 refine⟨I,Qgi (by omega) ?_⟩;have m1:(CH a (i+1)-CH a i)*r<=31*r:=dp (by omega) G.1;have m2: -31*r<=(CH a (i+1)-CH a i)*r:=dp (by omega) G.1;have e:((31:Nat):Int)=31:=rfl;rw[e];omega
theorem Q5l {a:Axs} (h:AxOK a) (p:Int): -5000<=Le a p/\Le a p<=5000:=by
 unfold Le;by_cases c:a.aW=[]
 ·rw[ab c];omega
 ·have I:=Q00 c;rw[aa c];by_cases E:p<=a.aV
  ·rw[ab E];have:=QO h (show 0<a.aW.length from I);omega
  ·rw[aa E];by_cases G:(p-a.aV)/a.aO>=a.aW.length-1
   ·rw[ab G];have:=QO h (show a.aW.length-1<a.aW.length by omega);omega
   ·rw[aa G];obtain⟨i,r,e1,e2,e3,M,N,J⟩:=Q6m h c E G;rw[J,e1,ak];have b1:=QO h (show i<a.aW.length by omega);have b2:=(Zcx h c e2 (r:=r) (by omega)).2;omega
theorem Zra {a:Axs} (h:AxOK a) {v:Int} (E:v.natAbs<=1000010000):Lb (BD a++[I v])=some [I (BA v a.step)]:=by
 have G:=h.step;have he:=Zhy a.step a.aS a.accel a.jerk a.low a.aY a.bB a.aV a.aO (a.aW.map Ao) v;unfold Lb;refine cx he ?_;rw[Ae (x:=2*v),Ae (x:=2*v+a.step),Ae (x:=2*a.step)];have J:=Int.tmod_add_mul_tdiv (2*v+a.step) (2*a.step);have M:=Int.tmod_lt_of_pos (2*v+a.step) (show 0<2*a.step by omega);have N:=Int.lt_tmod_of_pos (2*v+a.step) (show 0<2*a.step by omega);have O:((2*v+a.step).tdiv (2*a.step)).natAbs<=(2*v+a.step).natAbs:=by rw[Int.natAbs_tdiv];exact iq _ _
 generalize(2*v+a.step).tdiv (2*a.step)=q at*;generalize(2*v+a.step).tmod (2*a.step)=r at*;have e1:2*a.step*q=q*(2*a.step):=fa _ _;rw[Bg (by omega),Bg (by omega),Bg (by omega),Bg (by omega),Ae (x:=q)];by_cases h:r<0
 ·rw[Ep h,Ae,Mf (k:=q-1) (by omega)]
  ·rw[Int.sub_mul];omega
  ·rw[Int.sub_add_cancel];omega
 ·rw[Bg h,Mf (k:=q) (by omega)]
  ·omega
  ·rw[jj];omega
theorem Zrv {a:Axs} (h:AxOK a) {p:Int} (S:okB p):Kz (BD a++[I p])=some [I (Le a p)]:=by
 unfold okB at S;have ho:=h.aV;have hc:=h.count;have he:=Zzm BM a.step a.aS a.accel a.jerk a.low a.aY a.bB a.aV a.aO (a.aW.map Ao) p;unfold Kz;have T:=fun{x y:Int} (hx:x.natAbs<=30) (hy:y.natAbs<=123) (O:4<=a.aO/\a.aO<=123)=>Q9m (a:=x) (b:=y) (c:=a.aO) (by omega) (by omega) (by omega);generalize BM=M at*;refine cx he ?_;unfold Le;rw[af];by_cases c:a.aW=[]
 ·rw[ab c,c];rfl
 ·have U:=Q00 c;have O:=h.aO c;have e1:V ((a.aW.length:Int)-1)=((a.aW.length-1:Nat):Int):=by rw[Ae];omega
  have e2:V (p-a.aV)=p-a.aV:=Ae;rw[aa c,e2,e1];by_cases J:p<=a.aV
  ·rw[ab J];simp only[go_sem,Ue U];rw[aa,ab,ab]
  ·have e3:V ((p-a.aV).tdiv a.aO)=(p-a.aV)/a.aO:=by
    rw[bh (by omega)];have:=Int.ediv_nonneg (show 0<=p-a.aV by omega) (show 0<=a.aO by omega);have:=Int.ediv_le_self a.aO (show 0<=p-a.aV by omega);exact Ae
   rw[aa J,e3];by_cases N:(p-a.aV)/a.aO>=(a.aW.length:Int)-1
   ·rw[ab N];simp only[go_sem,ak,Ue (show a.aW.length-1<a.aW.length by omega)];rw[aa,aa,aa,aa,ab,ab]
   ·rw[aa N];obtain⟨i,r,g1,g2,g3,g4,g5,X⟩:=Q6m h c J N;obtain⟨n1,n2⟩:=Zcx h c g2 (r:=r) (by omega);have b1:=QO h (show i<a.aW.length by omega);rw[X,g1]at*;rw[ak];have Y:V ((i:Int)+1)=((i+1:Nat):Int):=by rw[Ae];omega
    have hmul:(i:Int)*a.aO=p-a.aV-r:=by omega
    have w2:V (p-a.aV-V ((i:Int)*a.aO))=r:=by rw[hmul,Ae (x:=p-a.aV-r),Ae];omega
    have E:(0:Int)<=(i:Int)/\(i:Int)<(a.aW.length:Int):=by omega
    have G:(0:Int)<=((i+1:Nat):Int)/\((i+1:Nat):Int)<(a.aW.length:Int):=by omega
    simp only[go_sem,Y,w2,ak,Ue (show i<a.aW.length by omega),Ue g2,ab E,ab G];have b2:=QO h g2;generalize CH a (i+1)=y at*;generalize CH a i=z at*;rw[aa,aa,aa,aa,aa,Ae (x:=y-z),T (by omega) (by omega) O];simp only[go_sem];rw[Ae]
theorem Z6c {a:Axs} (h:AxOK a) {p:Int} (E:okB p):Nz (BD a++[I p])=some [I (D8 a p)]:=by
 have hb:=Q5l h p;have G:=Zrv h E;unfold okB at E;have J:=Zra h (v:=p+Le a p) (by omega);have he:=Zz1 Lb Kz a.step a.aS a.accel a.jerk a.low a.aY a.bB a.aV a.aO (a.aW.map Ao) p;unfold Nz;generalize Lb=M at*;generalize Kz=N at*;refine cx he ?_;simp only[BD,az,bf]at G J;simp only[G,go_sem,Ae (x:=p+Le a p),J];rfl
def AP (a:Axs) (d:Int):Int:=if d= -1 then-a.bB else 0
def DW (a:Axs) (bD at_ was aT u:Int):Int:=if bD≠0\/was=aT then AP a aT else if aT= -1 then-min (u-at_) a.bB else min (u-at_) a.bB-a.bB
theorem SS {a:Axs} (hb:0<=a.bB/\a.bB<=1000) (v:Int):J8 (BD a++[I v])=some [I (AP a v)]:=by
 have he:=Zfc a.step a.aS a.accel a.jerk a.low a.aY a.bB a.aV a.aO (a.aW.map Ao) v;unfold J8;refine cx he ?_;unfold AP;by_cases c:v= -1
 ·rw[Ca (by simp[c]),ab c,Ae];congr 3;omega
 ·rw[BI (by simp[c]),aa c]
theorem Zwo {a:Axs} {c:Pce} (O:∀v:Int,M (BD a++[I v])=some [I (AP a v)]) (hb:0<=a.bB/\a.bB<=1000) (U:0<=u-c.at_/\u-c.at_<=2000000000000000):
  QK M (BD a++AN c++[I 0,I u])=some [I (DW a c.bD c.at_ c.was.x c.aT.x u)]:=by
 have he:=Qlk M a.step a.aS a.accel a.jerk a.low a.aY a.bB a.aV a.aO (a.aW.map Ao) c.at_ c.aR c.s c.bD c.was.x c.was.y c.was.z c.aT.x c.aT.y c.aT.z 0 u;refine cx he ?_;have E:=O c.aT.x;simp only[BD,az,bf]at E;have e1:V (0+1)=1:=rfl;have e2:V (1+1)=2:=rfl;have S:V (u-c.at_)=u-c.at_:=Ae;have T:V (0-min (u-c.at_) a.bB)= -min (u-c.at_) a.bB:=by rw[Ae];omega
 have w3:V (min (u-c.at_) a.bB-a.bB)=min (u-c.at_) a.bB-a.bB:=Ae;unfold DW;simp only[go_sem,e1,e2,KJ,S,T,w3,Nat.reduceAdd,i9,jz,j7,Int.reduceEq,E];by_cases G:c.bD=0
 ·by_cases J:c.was.x=c.aT.x
  ·simp[G,J]
  ·by_cases N:c.aT.x= -1
   ·simp[G,N,show c.was.x≠-1 from λe=>J (by rw[e,N])]
   ·simp[G,J,N]
 ·simp[G]
theorem Zr9 {a:Axs} {c:Pce} (O:∀v:Int,M (BD a++[I v])=some [I (AP a v)]) (hb:0<=a.bB/\a.bB<=1000) (U:0<=u-c.at_/\u-c.at_<=2000000000000000):
  QK M (BD a++AN c++[I (V (0+1)),I u])=some [I (DW a c.bD c.at_ c.was.y c.aT.y u)]:=by
 have he:=Qlk M a.step a.aS a.accel a.jerk a.low a.aY a.bB a.aV a.aO (a.aW.map Ao) c.at_ c.aR c.s c.bD c.was.x c.was.y c.was.z c.aT.x c.aT.y c.aT.z (V (0+1)) u;refine cx he ?_;have E:=O c.aT.y;simp only[BD,az,bf]at E;have e1:V (0+1)=1:=rfl;have e2:V (1+1)=2:=rfl;have S:V (u-c.at_)=u-c.at_:=Ae;have T:V (0-min (u-c.at_) a.bB)= -min (u-c.at_) a.bB:=by rw[Ae];omega
 have w3:V (min (u-c.at_) a.bB-a.bB)=min (u-c.at_) a.bB-a.bB:=Ae;unfold DW;simp only[go_sem,e1,e2,KJ,S,T,w3,Nat.reduceAdd,i9,jz,j7,Int.reduceEq,E];by_cases G:c.bD=0
 ·by_cases J:c.was.y=c.aT.y
  ·simp[G,J]
  ·by_cases N:c.aT.y= -1
   ·simp[G,N,show c.was.y≠-1 from λe=>J (by rw[e,N])]
   ·simp[G,J,N]
 ·simp[G]
theorem Z2s {a:Axs} {c:Pce} (O:∀v:Int,M (BD a++[I v])=some [I (AP a v)]) (hb:0<=a.bB/\a.bB<=1000) (U:0<=u-c.at_/\u-c.at_<=2000000000000000):
  QK M (BD a++AN c++[I (V (V (0+1)+1)),I u])=some [I (DW a c.bD c.at_ c.was.z c.aT.z u)]:=by
 have he:=Qlk M a.step a.aS a.accel a.jerk a.low a.aY a.bB a.aV a.aO (a.aW.map Ao) c.at_ c.aR c.s c.bD c.was.x c.was.y c.was.z c.aT.x c.aT.y c.aT.z (V (V (0+1)+1)) u;refine cx he ?_;have E:=O c.aT.z;simp only[BD,az,bf]at E;have e1:V (0+1)=1:=rfl;have e2:V (1+1)=2:=rfl;have S:V (u-c.at_)=u-c.at_:=Ae;have T:V (0-min (u-c.at_) a.bB)= -min (u-c.at_) a.bB:=by rw[Ae];omega
 have w3:V (min (u-c.at_) a.bB-a.bB)=min (u-c.at_) a.bB-a.bB:=Ae;unfold DW;simp only[go_sem,e1,e2,KJ,S,T,w3,Nat.reduceAdd,i9,jz,j7,Int.reduceEq,E];by_cases G:c.bD=0
 ·by_cases J:c.was.z=c.aT.z
  ·simp[G,J]
  ·by_cases N:c.aT.z= -1
   ·simp[G,N,show c.was.z≠-1 from λe=>J (by rw[e,N])]
   ·simp[G,J,N]
 ·simp[G]
theorem Zop {a:Axs} (hb:0<=a.bB/\a.bB<=1000) {bD at_ was aT u:Int} (E:0<=u-at_): -1000<=DW a bD at_ was aT u/\DW a bD at_ was aT u<=1000:=by
 unfold DW AP
 (repeat' split)<;>omega
theorem Zp7 {a:Pt} {g:Sgm} (E:bd B26 a) (G:1<=g.len/\g.len<=268435456/\bd B26 g.to) (J:0<=k/\k<=g.len):bd 201326592 (PE a g k):=by
 have key:∀u v:Int,u.natAbs<=B26->v.natAbs<=B26->(v+BA ((u-v)*k) g.len).natAbs<=201326592:=by
  intro u v M I;have N:=IR M I;have O:=Qx0 (D:=u-v) (L:=g.len) (d:=k) (by omega) (df N (by decide)) J;have S:v.natAbs<=67108864:=I;omega
 exact⟨key _ _ G.2.2.1 E.1,key _ _ G.2.2.2.1 E.2.1,key _ _ G.2.2.2.2 E.2.2⟩
theorem Zti (h:GoodPath p) (s:Int):bd 201326592 (atP p s):=by
 unfold atP;by_cases c:p.aF=[]
 ·rw[c];exact A3 h.aQ (by decide)
 ·have E:=h.ok;obtain⟨G,I,J,M⟩:=Qjm (l:=p.aF) (a:=p.aQ) (s:=max s 0) c (λg N=>(E.seg g N).1) (by omega);rw[M];exact Zp7 (Zdf h.aQ E G) (E.seg _ (Il G)) ⟨I,J⟩
theorem NY {a:Axs} (h:AxOK a) {p:Int} (E:okB p):(D8 a p).natAbs<=2000000000:=by
 have hb:=Q5l h p;have G:=h.step;unfold okB at E;unfold D8;refine Qgi (by omega) ?_;have e:((2000000000:Nat):Int)=2000000000:=rfl;rw[e];omega
def shT (a:Axs) (t:Trk) (u:Int) (f:Pt->Int):Int:=if t.aE=[]then AP a (f t.aT)else DW a (pcA t.aE (iT t u)).bD (pcA t.aE (iT t u)).at_ (f (pcA t.aE (iT t u)).was) (f (pcA t.aE (iT t u)).aT) (clT t u)
def CX (p:Pth) (x:Ax3) (s:Int):Pt:=⟨D8 x.a (atP p s).x,D8 x.b (atP p s).y,D8 x.c (atP p s).z⟩
def CO (p:Pth) (x:Ax3) (t:Trk) (u:Int):Pt:=
 ⟨(CX p x (Az t u)).x+shT x.a t u Pt.x,(CX p x (Az t u)).y+shT x.b t u Pt.y,(CX p x (Az t u)).z+shT x.c t u Pt.z⟩
theorem Qvl (h:TQ t) (G:∀i,i+1<t.aE.length->(pcA t.aE (i+1)).at_=eI t.aE i) (h0:t.aE≠[]->(pcA t.aE 0).at_=0) (u:Int) (E:t.aE≠[]):(pcA t.aE (iT t u)).at_<=clT t u/\(0<iT t u->(pcA t.aE (iT t u)).at_<clT t u):=by
 have hi:=JZ h u E;have J:=IY h u;by_cases c:iT t u=0
 ·rw[c,h0 E];exact⟨J.1,λg=>absurd g (by omega)⟩
 ·obtain⟨j,I⟩:∃j,iT t u=j+1:=⟨iT t u-1,by omega⟩;rw[I]at hi⊢;rw[G j hi];have: ¬clT t u<=eI t.aE j:=by
   intro g;have:=Vb (show j<t.aE.length by omega) g;unfold iT at I;omega
  exact⟨by omega,λ_=>by omega⟩
theorem Z7b (h:TQ t) (u:Int):clT t (clT t u)=clT t u:=by have:=h.len;unfold clT AS;omega
theorem Z0z (h:TQ t) (u:Int):Az t (clT t u)=Az t u:=by unfold Az iT;rw[Z7b h]
theorem Q0q (h:TQ t) (u:Int): -3000000000000000<=Az t u/\Az t u<=3000000000000000:=by
 unfold Az;by_cases c:t.aE=[]
 ·rw[ab c];have:=h.aQ;omega
 ·have hi:=JZ h u c;have G:=h.pos _ hi;have I:=h.s _ hi;have E:=h.bD _ hi;have J:=IY h u;have M:=h.len;rw[aa c];unfold eI at G;rcases E with E|E|E<;>rw[E]<;>omega
theorem Zcu (h:GoodPath p) (s:Int):okB (atP p s).x/\okB (atP p s).y/\okB (atP p s).z:=by
 obtain⟨E,G,I⟩:=Zti h s;unfold okB;omega
structure TH (t : Trk) : Prop where
 q:TQ t
 at0:t.aE≠[]->(pcA t.aE 0).at_=0
 at1:∀i,i+1<t.aE.length->(pcA t.aE (i+1)).at_=eI t.aE i
theorem Pi {a:Axs} (hb:0<=a.bB/\a.bB<=1000) {t:Trk} (h:TH t) (u:Int) (f:Pt->Int): -1000<=shT a t u f/\shT a t u f<=1000:=by
 unfold shT;by_cases c:t.aE=[]
 ·rw[ab c];unfold AP;split<;>omega
 ·rw[aa c];exact Zop hb (by have:=(Qvl h.q h.at1 h.at0 u c).1;omega)
theorem Zon {x:Ax3} (hp:GoodPath p) (E:Ax3M x) (G:TH t) (hC:O [I u,I t.length]=some [I (clT t u)]) (hL:P (Ba t++[I (clT t u)])=some [I (Az t u)]) (hA:S (BC p++[I (Az t u)])=some (ptR (atP p (Az t u))))
  (J:T (Ba t++[I (clT t u)])=some [I (if t.aE=[]then-1 else(iT t u:Int))]) (hM:∀{a:Axs} {q:Int},AxOK a->okB q->W (BD a++[I q])=some [I (D8 a q)]) (hD:∀{a:Axs} (v:Int),(0<=a.bB/\a.bB<=1000)->Z (BD a++[I v])=some [I (AP a v)])
  (h0:∀{a:Axs} {c:Pce} {u:Int},(0<=a.bB/\a.bB<=1000)->(0<=u-c.at_/\u-c.at_<=2000000000000000)->M (BD a++AN c++[I 0,I u])=some [I (DW a c.bD c.at_ c.was.x c.aT.x u)])
  (h1:∀{a:Axs} {c:Pce} {u:Int},(0<=a.bB/\a.bB<=1000)->(0<=u-c.at_/\u-c.at_<=2000000000000000)->M (BD a++AN c++[I (V (0+1)),I u])=some [I (DW a c.bD c.at_ c.was.y c.aT.y u)])
  (h2:∀{a:Axs} {c:Pce} {u:Int},(0<=a.bB/\a.bB<=1000)->(0<=u-c.at_/\u-c.at_<=2000000000000000)->M (BD a++AN c++[I (V (V (0+1)+1)),I u])=some [I (DW a c.bD c.at_ c.was.z c.aT.z u)]):
  Qek M Z W T S P O (BC p++AI x++Ba t++[I u])=some (ptR (CO p x t u)):=by
 have he:=Z7p M Z W T S P O u p x t;refine cx he ?_;obtain⟨o1,o2,o3⟩:=Zcu hp (Az t u);have m1:=hM E.a o1;have m2:=hM E.b o2;have m3:=hM E.c o3;have b1:=NY E.a o1;have b2:=NY E.b o2;have b3:=NY E.c o3;have s1:=Pi E.ok.a G u Pt.x;have s2:=Pi E.ok.b G u Pt.y;have s3:=Pi E.ok.c G u Pt.z;unfold CO CX;generalize D8 x.a (atP p (Az t u)).x=q1 at*;generalize D8 x.b (atP p (Az t u)).y=q2 at*;generalize D8 x.c (atP p (Az t u)).z=q3 at*;have w1:V (q1+shT x.a t u Pt.x)=q1+shT x.a t u Pt.x:=Ae;have w2:V (q2+shT x.b t u Pt.y)=q2+shT x.b t u Pt.y:=Ae;have w3:V (q3+shT x.c t u Pt.z)=q3+shT x.c t u Pt.z:=Ae;by_cases c:t.aE=[]
 ·have N:=hD t.aT.x E.ok.a;have U:=hD t.aT.y E.ok.b;have X:=hD t.aT.z E.ok.c;unfold shT at*;rw[ab c]at J;simp only[ab c]at w1 w2 w3⊢;simp only[BC,Ba,BD,az,bf]at hL hA J N U X m1 m2 m3;simp only[hC,hL,hA,J,go_sem,m1,m2,m3,N,U,X,w1,w2,w3];rw[ab,ab,ab]
 ·have hi:=JZ G.q u c;have a1:=G.q.count;have a3:=(Qvl G.q G.at1 G.at0 u c).1;have a4:=IY G.q u;have hlen:=G.q.len;have a2:=G.q.pos _ hi;have a0:(0:Int)<=(iT t u:Int)/\(iT t u:Int)<(t.aE.length:Int):=by omega
  have Y: ¬((iT t u:Int)<0):=by omega
  have N:=h0 (c:=pcA t.aE (iT t u)) (u:=clT t u) E.ok.a (by omega);have U:=h1 (c:=pcA t.aE (iT t u)) (u:=clT t u) E.ok.b (by omega);have X:=h2 (c:=pcA t.aE (iT t u)) (u:=clT t u) E.ok.c (by omega);unfold shT at*;rw[aa c]at J;simp only[aa c]at w1 w2 w3⊢;simp only[BC,Ba,BD,AN,az,bf]at hL hA J N U X m1 m2 m3;simp only[hC,hL,hA,J,go_sem,m1,m2,m3,af,ab a0,ak,OR hi,aa Y,N,U,X,w1,w2,w3]
theorem Z71 {x:Ax3} (M:GoodPath p) (N:Ax3M x) (E:TH t) (u:Int):EB (BC p++AI x++Ba t++[I u])=some (ptR (CO p x t u)):=by
 have T:=Q0q E.q u;have G:=PW E.q (clT t u);rw[Z0z E.q]at G;exact Zon M N E Sx G (Z5b M (by unfold i64;omega)) (Qby E.q u) (λO S=>Z6c O S) (λv hb=>SS hb v) (λhb J=>Zwo (SS hb) hb J) (λhb J=>Zr9 (SS hb) hb J) (λhb J=>Z2s (SS hb) hb J)
theorem Qyq {x:Ax3} {a s:Int} {l:List Pce} (h:chain x k Q a s g l) (E:l≠[]):(pcA l 0).at_=a:=by
 cases l with
 |nil=>exact absurd rfl E
 |cons c l=>rw[Iv];exact h.1
theorem Qwo {x:Ax3}:∀{a s:Int} {d:Pt} {l:List Pce},chain x k Q a s d l->∀i,i+1<l.length->(pcA l (i+1)).at_=eI l i
 |a,s,d,[],h,i,hi=>by simp at hi
 |a,s,d,c::l,h,0,hi=>by
  obtain⟨G,I,J,M,E⟩:=h;unfold eI;rw[FM,Iv,Qyq E (λe=>by rw[e]at hi;simp at hi),G]
 |a,s,d,c::l,h,i+1,hi=>by
  obtain⟨G,I,J,M,E⟩:=h;have:=Qwo E i (by simpa using hi);unfold eI at*;rw[FM,FM];exact this
theorem Qy1 {x:Ax3} (d:Pt) (a b:Int) (E:Ax3OK x) (G:GoodPath p):TH (AL p x d a b):=by
 obtain⟨J,I,M,-⟩:=I2 (d:=d) (a:=a) (b:=b) (Q:=λ_ _=>True) E G (λ_ _ _ _ _ _ _ _=>trivial);exact⟨Jq d a b E G,Qyq I.ch,Qwo I.ch⟩
def wF (z:Int):List Pce->Int
 |[]=> -1
 |c::l=>if c.bD≠0/\0<=(z-c.s)*c.bD/\(z-c.s)*c.bD<=c.aR then c.at_+(z-c.s)*c.bD else wF z l
def AU (t:Trk) (z:Int):Int:=if z=t.aQ then 0 else wF z t.aE
def plL:List Pce->Int->Int
 |[],_=>0
 |c::l,u=>if u<=c.at_+c.aR then c.s+c.bD*(u-c.at_)else plL l u
theorem Qs9:∀{l:List Pce} {u:Int},fI l u<l.length->plL l u=(pcA l (fI l u)).s+(pcA l (fI l u)).bD*(u-(pcA l (fI l u)).at_)
 |[],_,h=>by simp at h
 |c::l,u,h=>by
  unfold fI at h⊢;unfold plL;by_cases E:u<=c.at_+c.aR
  ·rw[ab E,ab E,Iv]
  ·rw[aa E]at h⊢;rw[aa E,FM];exact Qs9 (by simpa using h)
theorem E2 (h:TQ t) (u:Int) (E:t.aE≠[]):Az t u=plL t.aE (clT t u):=by
 have hi:=JZ h u E;unfold Az;rw[aa E];exact(Qs9 hi).symm
theorem U2 {x:Ax3} (J:k=1\/k= -1):∀{a s:Int} {d:Pt} {l:List Pce},chain x k Q a s d l->0<=k*(endQ s l-s)
 |a,s,d,[],_=>by simp[endQ]
 |a,s,d,c::l,h=>by
  obtain⟨O,S,T,G,M⟩:=h;have N:=U2 J M;unfold endQ;generalize endQ (s+c.bD*c.aR) l=E at*;have I:c.bD=k\/c.bD=0:=by rcases G with G|G<;>simp[G.1]
  rcases I with I|I<;>rw[I]at N<;>rcases J with rfl|rfl<;>omega
theorem ZU {x:Ax3} (G:k=1\/k= -1) (z:Int):∀{a s:Int} {d:Pt} {l:List Pce},chain x k Q a s d l->
  (k*(z-s)<0->wF z l= -1)/\(0<k*(z-endQ s l)->wF z l= -1)/\
  (0<k*(z-s)->k*(z-endQ s l)<=0->a<wF z l/\wF z l<=By a l/\plL l (wF z l)=z/\∀v,a<=v->v<wF z l->k*(plL l v-z)<0)
 |a,s,d,[],_=>by
  simp only[endQ,wF];exact⟨λ_=>trivial,λ_=>trivial,λM N=>absurd M (by omega)⟩
 |a,s,d,c::l,h=>by
  obtain⟨M,N,h3,S,X⟩:=h;obtain⟨i1,i2,T⟩:=ZU G z X;have O:=U2 G X;have a1:=SJ X;have I:c.bD=k\/c.bD=0:=by rcases S with S|S<;>simp[S.1]
  simp only[endQ,By];generalize endQ (s+c.bD*c.aR) l=E at*;generalize By (a+c.aR) l=A at*;have key : (0 < k * (z - (s + c.bD * c.aR)) -> k * (z - E) <= 0 -> wF z (c :: l) = wF z l -> (∀ v, a <= v -> v <= a + c.aR -> k * (s + c.bD * (v - a) - z) < 0) ->
    a<wF z (c::l)/\wF z (c::l)<=A/\plL (c::l) (wF z (c::l))=z/\∀v,a<=v->v<wF z (c::l)->k*(plL (c::l) v-z)<0):=by
   intro g1 g2 g3 g4;obtain⟨k1,k2,k3,k4⟩:=T g1 g2;rw[g3];refine⟨by omega,k2,?_,?_⟩
   ·unfold plL;rw[aa];exact k3
   ·intro v U V;unfold plL;by_cases w3:v<=c.at_+c.aR
    ·rw[ab w3,M,N];exact g4 v U (by omega)
    ·rw[aa w3];exact k4 v (by omega) V
  rcases I with I|I
  ·
   have a0:c.bD≠0:=by rcases G with rfl|rfl<;>omega
   rw[I]at i1 T key;by_cases Y:0<=(z-s)*k/\(z-s)*k<=c.aR
   ·have J:wF z (c::l)=a+(z-s)*k:=by unfold wF;rw[N,I,M,ab ⟨by omega,Y.1,Y.2⟩]
    rw[J];refine⟨λg=> ?_,λg=> ?_,λg1 g2=>⟨?_,?_,?_,?_⟩⟩
    ·rcases G with rfl|rfl<;>omega
    ·rw[I]at O;rcases G with rfl|rfl<;>omega
    ·rcases G with rfl|rfl<;>omega
    ·omega
    ·unfold plL;rw[ab,M,N,I];rcases G with rfl|rfl<;>omega
    ·intro v U V;unfold plL;rw[ab,M,N,I];rcases G with rfl|rfl<;>omega
   ·have J:wF z (c::l)=wF z l:=by
     show(if _ then _ else _)=_;rw[N,I,aa λg=>Y g.2]
    refine⟨λg=> ?_,λg=> ?_,λg1 g2=> ?_⟩
    ·rw[J];exact i1 (by rcases G with rfl|rfl<;>omega)
    ·rw[J];exact i2 g
    ·refine key (by rcases G with rfl|rfl<;>omega) g2 J ?_;intro v U V;rcases G with rfl|rfl<;>omega
  ·have J:wF z (c::l)=wF z l:=by
    show(if _ then _ else _)=_;rw[aa λg=>g.1 I]
   rw[I]at i1 T key;simp only[kg,iz]at i1 T key;refine⟨λg=> ?_,λg=> ?_,λg1 g2=> ?_⟩
   ·rw[J];exact i1 g
   ·rw[J];exact i2 g
   ·refine key g1 g2 J ?_;intro v U V;rcases G with rfl|rfl<;>omega
theorem Qvm (h:TQ t) {z:Int} (X:i64 z):∀(k j:Nat),j+k=t.aE.length->wF z (t.aE.drop j)= -1/\Ak Sd [I z, .vC As (t.aE.map AN),I t.aE.length,I j]=some (2,[])\/
  Ak Sd [I z, .vC As (t.aE.map AN),I t.aE.length,I j]=some (1,[I (wF z (t.aE.drop j))])
 |0,j,hj=>by
  left;rw[fc (by omega)];refine⟨rfl,Be (o:=(2,_)) ?_ (by simp)⟩;rw[Qwi,Bg (by omega)]
 |k+1,j,hj=>by
  have E:j<t.aE.length:=by omega
  have Y:=h.count;have T:(0:Int)<=(j:Int)/\(j:Int)<(t.aE.length:Int):=by omega
  have O:=h.pos j E;have hl:=h.len;have hs:=h.s j E;have a0:=h.bD j E;have e:t.aE.drop j=pcA t.aE j::t.aE.drop (j+1):=by
   have e1:pcA t.aE j=t.aE[j]:=by unfold pcA;simp[E]
   rw[e1];exact Ph _ _ E
  have M:Sd [I z, .vC As (t.aE.map AN),I t.aE.length,I j]=if(pcA t.aE j).bD≠0/\0<=(z-(pcA t.aE j).s)*(pcA t.aE j).bD/\(z-(pcA t.aE j).s)*(pcA t.aE j).bD<=(pcA t.aE j).aR then
    some (1,[I ((pcA t.aE j).at_+(z-(pcA t.aE j).s)*(pcA t.aE j).bD)])else some (0,[I z, .vC As (t.aE.map AN),I t.aE.length,I (j+1:Nat)]):=by
   rw[Qwi];simp only[go_sem,af,ak,OR E,ab T,Ae (x:=(j:Int)+1)];rw[ab];unfold eI at O;unfold i64 at X;generalize pcA t.aE j=c at*;have J:∀y:Int,-9223372036854775808-2000000000000000<=y->y<=9223372036854775807+2000000000000000->(V y=y/\ -9223372036854775808<=y/\y<=9223372036854775807)\/(V y=y+18446744073709551616/\y< -9223372036854775808)\/(V y=y-18446744073709551616/\y>9223372036854775807):=by
    intro y y1 y2;have hw:=Zqn y;unfold i64 at hw;by_cases N: -9223372036854775808<=y/\y<=9223372036854775807
    ·exact .inl ⟨Ae N,N⟩
    ·have:=Qco y;omega
   by_cases U:c.bD=0
   ·have S: ¬(c.bD≠0/\0<=(z-c.s)*c.bD/\(z-c.s)*c.bD<=c.aR):=λg=>g.1 U;rw[aa,aa S];rfl
   ·rw[ab U];have G:c.bD=1\/c.bD= -1:=by omega
    have a1:=J (z-c.s) (by omega) (by omega);have a3:V (V (z-c.s)*c.bD)=(z-c.s)*c.bD\/((V (V (z-c.s)*c.bD)<0\/V (V (z-c.s)*c.bD)>1000000000000000)/\((z-c.s)*c.bD<0\/(z-c.s)*c.bD>1000000000000000)):=by
     generalize V (z-c.s)=y at*;have a2:=J (y*c.bD) (by rcases G with G|G<;>rw[G]<;>omega) (by rcases G with G|G<;>rw[G]<;>omega);rcases G with G|G<;>rw[G]at a2⊢<;>omega
    generalize V (V (z-c.s)*c.bD)=n at*;by_cases N:0<=(z-c.s)*c.bD/\(z-c.s)*c.bD<=c.aR
    ·have en:n=(z-c.s)*c.bD:=by omega
     have S:c.bD≠0/\0<=(z-c.s)*c.bD/\(z-c.s)*c.bD<=c.aR:=⟨U,N⟩;rw[ab S,en,ab N.1,ab N.2,Ae]
    ·have S: ¬(c.bD≠0/\0<=(z-c.s)*c.bD/\(z-c.s)*c.bD<=c.aR):=λg=>N g.2;rw[aa S];by_cases c2:0<=n
     ·rw[ab c2,aa];rfl
     ·rw[aa c2];rfl
  rw[e];by_cases c:(pcA t.aE j).bD≠0/\0<=(z-(pcA t.aE j).s)*(pcA t.aE j).bD/\(z-(pcA t.aE j).s)*(pcA t.aE j).bD<=(pcA t.aE j).aR
  ·rw[ab c]at M;right;rw[Be M (by simp)];unfold wF;rw[ab c]
  ·rw[aa c]at M;rw[Bz M];unfold wF;rw[aa c];exact Qvm h X k (j+1) (by omega)
theorem Zis (h:TQ t) {z:Int} (M:i64 z):N_ (Ba t++[I z])=some [I (AU t z)]:=by
 have he:=Z9t L2 (t.aE.map AN) t.length t.aQ t.aT.x t.aT.y t.aT.z z;unfold N_;refine cx he ?_;unfold AU;rw[af];by_cases c:z=t.aQ
 ·rw[ab c,Ca (by simp[c])]
 ·rw[aa c,BI (by simp[c])];rcases Qvm h M t.aE.length 0 (by omega)with⟨J,G⟩|G
  ·rw[f9]at J;have E:L2 [I z, .vC As (t.aE.map AN),I t.aE.length,I 0]=some (2,[]):=G;generalize L2=N at*;rw[J];simp only[E,go_sem];rfl
  ·rw[f9]at G;have E:L2 [I z, .vC As (t.aE.map AN),I t.aE.length,I 0]=some (1,[I (wF z t.aE)]):=G;generalize L2=N at*;simp only[E,go_sem]
end Go.Bm
namespace Go.Bm
theorem Zlj (l:Rw) (h:l.length<=100000):Out (λo=>(wA o 0).length<=l.length) (Se [.vC Aa l]):=by
 show Out _ (YW (Ak Qsc) [.vC Aa l]);rw[Zpb];refine .bind (p:=λo=>o.1=1/\(wA o.2 0).length<=l.length) ?_ λo g=>by rw[g.1];exact .some g.2
 refine Co (λs:Rw×Nat=>[.vC Aa s.1, .vC Aa l,I (s.2:Int)]) (λs=>1<=s.2/\s.2<=l.length+1/\s.1.length+1<=s.2) (λs=>l.length+1-s.2) _ ?_ ([],1) (by simp);rintro⟨v,i⟩ ⟨g1,g2,E⟩;dsimp only at*;rw[Z0f];rw[Ae (x:=(i:Int)-1),Ae (x:=(i:Int)+1)];refine .cond (λc=> ?_) (λc=> ?_)
 ·have c:=Bi c;refine .cond (λ_=> ?_) λc=>by simp at c;omega
  refine .cond (λ_=> ?_) λc=>by simp at c;omega
  refine .cond (λ_=> ?_) λc=>by rw[Dl (by simp;omega)]at c;cases c
  exact .some (.inl ⟨rfl,(_,i+1),rfl,by simp;omega,by simp;omega⟩)
 ·have c:=Bp c;exact .some (.inr ⟨by simp,rfl,by show v.length<=l.length;omega⟩)
theorem Zxo (l:Rw) (n:Int) (h:l.length<=100000):(QN [.vC Aa l,I n]).isSome=true:=by
 show(V7 (Ak Wx) [.vC Aa l,I n]).isSome=true;rw[Zhg];refine Out.is (p:=λ_=>True) ?_;refine .bind (p:=λo=>o.1=1\/o.1=2) ?_ λo g=>by rcases g with g|g<;>rw[g]<;>exact .some trivial
 refine Co (λs:Nat=>[I n, .vC Aa l,I (l.length:Int),I (s:Int)]) (λs=>s<=l.length) (λs=>l.length-s) _ ?_ 0 (by simp);intro i g;rw[Zyb];rw[Ae (x:=(i:Int)+1)];refine .cond (λc=> ?_) (λc=> ?_)
 ·have c:=Bi c;refine .cond (λ_=> ?_) λc=>by simp at c;omega
  refine .cond (λ_=> .some (.inr ⟨by simp, .inl rfl⟩)) λ_=> .cond (λ_=> .some (.inr ⟨by simp, .inl rfl⟩)) λ_=> ?_;exact .some (.inl ⟨rfl,i+1,rfl,by omega,by omega⟩)
 ·exact .some (.inr ⟨by simp, .inr rfl⟩)
theorem Z6x (E:∀l:Rw,l.length<=100000->Out (λo=>(wA o 0).length<=l.length) (Z [.vC Aa l])) (G:∀(l:Rw) n,l.length<=100000->(M [.vC Aa l,I n]).isSome=true)
  (J N O S T U V X Y:Int) (x9 l:Rw) (h:l.length<=100000):(Qet M Z [I J,I N,I O,I S,I T,I U,I V,I X,I Y, .vC Aa x9, .vC Aa l]).isSome=true:=by
 rw[Yar];obtain⟨a,ha,ga⟩:=E l h;rw[ha];simp only[ag];generalize wA a 0=la at*;obtain⟨b,hb,gb⟩:=E la (by omega);rw[hb];simp only[ag];generalize wA b 0=lb at*;obtain⟨c,hc,gc⟩:=E lb (by omega);rw[hc];simp only[ag];generalize wA c 0=lc at*;refine F3 (G _ _ (by omega)) λ_ _=>Cd (λ_=>rfl) λ_=>F3 (G _ _ (by omega)) λ_ _=>Cd (λ_=>rfl) λ_=>F3 (G _ _ (by omega)) λ_ _=>Cd (λ_=>rfl) λ_=>rfl
theorem Z5h (E G J M N O S T U:Int) (V l:Rw) (h:l.length<=100000):(Nu [I E,I G,I J,I M,I N,I O,I S,I T,I U, .vC Aa V, .vC Aa l]).isSome=true:=Z6x Zlj Zxo E G J M N O S T U V l h
theorem Zsc {x:Ax3} (N:0<=k/\k<=2) {l out:Rw} (h0:out.length=l.length) (O:l.length<=100000):
  Out (λo=>o.1=1/\∃v:Rw,o.2= .vC Aa v:: .vC kPt l::I k::I k::AI x/\v.length=l.length) (Ak (Mv M) (.vC Aa out:: .vC kPt l::I k::I k::I (l.length:Int)::I 0::AI x)):=by
 refine Co (λs:Rw×Nat=> .vC Aa s.1:: .vC kPt l::I k::I k::I (l.length:Int)::I (s.2:Int)::AI x) (λs=>s.1.length=l.length/\s.2<=l.length) (λs=>l.length-s.2) _ ?_ (out,0) ⟨h0,by simp⟩;rintro⟨v,i⟩ ⟨g1,g2⟩;dsimp only at*;rw[Zre];rw[Ae (x:=(i:Int)+1)];refine .cond (λc=> ?_) (λc=> ?_)
 ·have c:=Bi c;refine .cond (λ_=> ?_) λc=>by simp at c;omega
  refine .cond (λ_=> ?_) λE=> .cond (λ_=> ?_) λG=> .cond (λ_=> ?_) λJ=> ?_
  ·refine .cond (λ_=> ?_) λc=>by simp at c;omega
   exact .some (.inl ⟨rfl,(_,i+1),rfl,by simp;omega,by simp;omega⟩)
  ·refine .cond (λ_=> ?_) λc=>by simp at c;omega
   exact .some (.inl ⟨rfl,(_,i+1),rfl,by simp;omega,by simp;omega⟩)
  ·refine .cond (λ_=> ?_) λc=>by simp at c;omega
   exact .some (.inl ⟨rfl,(_,i+1),rfl,by simp;omega,by simp;omega⟩)
  ·have E:=Bp E;have G:=Bp G;have J:=Bp J
   simp at E G J;omega
 ·exact .some (.inr ⟨by simp,rfl,v,rfl,g1⟩)
theorem Zku (hM:∀(E G J N O S T U X:Int) (Y l:Rw),l.length<=100000->(M [I E,I G,I J,I N,I O,I S,I T,I U,I X, .vC Aa Y, .vC Aa l]).isSome=true) (x:Ax3) {l:Rw} (h1:l.length<=100000):
  (T7 M (Ak (Mv M)) (Ak (TJ M (Ak (Mv M)))) (AI x++[.vC kPt l])).isSome=true:=by
 show(T7 M (Ak (Mv M)) (Ak (TJ M (Ak (Mv M)))) [I x.a.step,I x.a.aS,I x.a.accel,I x.a.jerk,I x.a.low,I x.a.aY,I x.a.bB,I x.a.aV,I x.a.aO, .vC Aa (x.a.aW.map Ao),I x.b.step,I x.b.aS,I x.b.accel,I x.b.jerk,I x.b.low,I x.b.aY,I x.b.bB,I x.b.aV,I x.b.aO, .vC Aa (x.b.aW.map Ao),I x.c.step,I x.c.aS,I x.c.accel,I x.c.jerk,I x.c.low,I x.c.aY,I x.c.bB,I x.c.aV,I x.c.aO, .vC Aa (x.c.aW.map Ao), .vC kPt l]).isSome=true;rw[Zla];refine Out.is (p:=λ_=>True) ?_;refine .bind (p:=λo=>o.1=1\/o.1=2) ?_ λo g=>by rcases g with g|g<;>rw[g]<;>exact .some trivial
 refine Co (λs:Nat=> .vC kPt l::I (s:Int)::AI x) (λs=>s<=3) (λs=>3-s) _ ?_ 0 (by omega);intro k hk;rw[Znj];refine .cond (λc=> ?_) (λc=> ?_)
 ·have c:=Bi c;refine .cond (λ_=> ?_) λc=>by simp at c
  refine .cond (λ_=> ?_) λc=>by simp at c;omega
  refine .bind (Zsc (M:=M) (x:=x) (k:=(k:Int)) (by omega) (by simp) h1) λo g=> ?_;obtain⟨g1,v,g2,g3⟩:=g;obtain⟨o1,o2⟩:=o;subst g1;subst g2;refine .cond (λ_=> ?_) λc=>by simp at c
  have e:V ((k:Int)+1)=((k+1:Nat):Int):=by rw[Ae];rfl
  have hw:∀(E G J N O S T U X:Int) (Y:Rw),(M [I E,I G,I J,I N,I O,I S,I T,I U,I X, .vC Aa Y, .vC Aa v]).isSome=true:=λE G J N O S T U X Y=>hM E G J N O S T U X Y v (by omega);refine .cond (λ_=> ?_) λc0=> .cond (λ_=> ?_) λc1=> .cond (λ_=> ?_) λc2=> ?_
  ·refine .ibind (hw _ _ _ _ _ _ _ _ _ _) λ_ _=> .cond (λ_=> .some (.inr ⟨by simp, .inl rfl⟩)) λ_=> .some (.inl ⟨rfl,k+1,?_,by omega,by omega⟩);simp only[gA,wA,bA,jA,nth,Ah,CI,e]
  ·refine .ibind (hw _ _ _ _ _ _ _ _ _ _) λ_ _=> .cond (λ_=> .some (.inr ⟨by simp, .inl rfl⟩)) λ_=> .some (.inl ⟨rfl,k+1,?_,by omega,by omega⟩);simp only[gA,wA,bA,jA,nth,Ah,CI,e]
  ·refine .ibind (hw _ _ _ _ _ _ _ _ _ _) λ_ _=> .cond (λ_=> .some (.inr ⟨by simp, .inl rfl⟩)) λ_=> .some (.inl ⟨rfl,k+1,?_,by omega,by omega⟩);simp only[gA,wA,bA,jA,nth,Ah,CI,e]
  ·have c0:=Bp c0;have c1:=Bp c1;have c2:=Bp c2
   simp[gA,wA,bA,jA,nth,Ah]at c0 c1 c2;omega
 ·exact .some (.inr ⟨by simp, .inr rfl⟩)
theorem Zqw (x:Ax3) {l:Rw} (E:l.length<=100000):(NW (AI x++[.vC kPt l])).isSome=true:=Zku Z5h x E
theorem Qp8 (u:Int):(Jn [I u]).isSome=true:=by
 show(Qpk [I u]).isSome=true;rw[Z7e];exact Cd (λ_=>rfl) λ_=>rfl
structure Fix (p : Pth) (x : Ax3) (t : Trk) : Prop where
 p:GoodPath p
 x:Ax3M x
 t:TH t
theorem QE {x:Ax3} (h:Fix p x t) (u:Int):EB (pxt p x t [I u])=some (ptR (CO p x t u)):=Z71 h.p h.x h.t u
theorem Z4a {G J MU:Fn} {x:Ax3} (N:∀{l:Rw},l.length<=100000->(G (AI x++[.vC kPt l])).isSome=true) (O:∀u,(J (pxt p x t [I u])).isSome=true) (S:∀u,(MU [I u]).isSome=true) {way:Rw} (T:way.length<=100000):
  (Qhf G J MU (Ak (Qau G J MU)) (pxt p x t [.vC Aa way])).isSome=true:=by
 rw[Zlu];refine Out.is (p:=λ_=>True) ?_;refine .bind (p:=λo=>o.1=1\/o.1=2) ?_ λo g=>by rcases g with g|g<;>rw[g]<;>exact .some trivial
 refine Co (λs:Rw×Nat=> .vC kPt s.1:: .vC Aa way::I (way.length:Int)::I (s.2:Int)::pxt p x t []) (λs=>s.1.length<=4/\s.2<=way.length) (λs=>way.length-s.2) _ ?_ ([],0) (by simp);rintro⟨v,i⟩ ⟨g1,g2⟩;dsimp only at g1 g2;rw[Z0h];try dsimp only[E]
 rw[Ae (x:=(i:Int)+1)];refine .cond (λc=> ?_) (λc=> ?_)
 ·have c:=Bi c;refine .cond (λ_=> ?_) λc=>by simp at c;omega
  refine .ibind (S _) λa _=> .ibind (O _) λb _=> ?_;refine .cond (λ_=> ?_) λc=>by rw[Dl (by simp;omega)]at c;cases c
  generalize [jA b 0,jA b 1,jA b 2]=q;refine .cond (λ_=> ?_) λM=> ?_
  ·refine .cond (λ_=> ?_) λc=>by simp at c;omega
   refine .cond (λ_=> ?_) λc=>by rw[Dl (by simp)]at c;cases c
   refine .ibind (N (l:=List.drop (Int.toNat 1) (v++[q])) (by simp;omega)) λ_ _=> .cond (λ_=> .some (.inr ⟨by simp, .inl rfl⟩)) λ_=> ?_;exact .some (.inl ⟨rfl,(_,i+1),rfl,by simp;omega,by simp;omega⟩)
  ·have M:=Bp M;simp at M;refine .ibind (N (l:=v++[q]) (by simp;omega)) λ_ _=> .cond (λ_=> .some (.inr ⟨by simp, .inl rfl⟩)) λ_=> ?_;exact .some (.inl ⟨rfl,(_,i+1),rfl,by simp;omega,by simp;omega⟩)
 ·exact .some (.inr ⟨by simp, .inr rfl⟩)
theorem Qx1 {x:Ax3} (h:Fix p x t) {way:Rw} (E:way.length<=100000):(OI (pxt p x t [.vC Aa way])).isSome=true:=
 Z4a (Zqw x) (λu=>by rw[QE h u];rfl) Qp8 E
theorem Zej (O S:Int) (T b1 b2:Bool) (U V X Y x9 E G J M N:Int):(OQ [I O,I S,B T,B b1,B b2,I U,I V,I X,I Y,I x9,I E,I G,I J,I M,I N]).isSome=true:=by
 show(Vn [I O,I S,B T,B b1,B b2,I U,I V,I X,I Y,I x9,I E,I G,I J,I M,I N]).isSome=true;rw[Q9y]
 repeat' first|exact rfl|refine Cd (λ_=> ?_) (λ_=> ?_)
theorem VR {x:Ax3} (h:Fix p x t) (u:Int):i64 (Az t u):=by
 have:=Q0q h.t.q u;unfold i64;omega
theorem Qca:∀(l:List Sgm) (s:Int),l≠[]->(Bo l s).1<l.length
 |[],_,h=>absurd rfl h
 |[g],s,_=>by unfold Bo;split<;>simp
 |g::h::l,s,_=>by
  by_cases c:s<g.len
  ·rw[Bo,ab c];simp
  ·rw[Zbe c];have:=Qca (h::l) (s-g.len) (by simp);simp at this⊢;omega
theorem Q9j {x:Ax3} (h:Fix p x t) {s:Int} (E:i64 s):∃i v:Int,Fe (BC p++[I s])=some [I i,I v]/\(i= -1\/0<=i/\i<p.aF.length)/\(p.aF≠[]->0<=i):=by
 rw[Wg (h.p.ok) E];by_cases c:p.aF=[]
 ·rw[ab c];exact⟨-1,0,rfl, .inl rfl,λh=>absurd c h⟩
 ·rw[aa c];have:=Qca p.aF (max s 0) c;exact⟨_,_,rfl, .inr ⟨by omega,by omega⟩,λ_=>by omega⟩
theorem Z6h {U V X MU:Fn} (Y:∀(x0 x1:Int) (E b1 b2:Bool) (x5 x6 x7 x8 x9 G J M N O:Int),(U [I x0,I x1,B E,B b1,B b2,I x5,I x6,I x7,I x8,I x9,I G,I J,I M,I N,I O]).isSome=true)
  (hF:∀s,i64 s->∃i v:Int,V (BC p++[I s])=some [I i,I v]/\(i= -1\/0<=i/\i<p.aF.length)/\(p.aF≠[]->0<=i)) (hP:∀u,∃s,X (Ba t++[I u])=some [I s]/\i64 s) (hU:∀u,(MU [I u]).isSome=true) (S:p.aF≠[])
  (a b c o0 o1:Int) (E b1 b2:Bool) (u:Int):
  (U_ U V X MU (DM p t [I a,I b,I c,I o0,I o1,B E,B b1,B b2,I u])).isSome=true:=by
 rw[Qzq];refine F3 (hU _) λq _=> ?_;obtain⟨s,h1,h2⟩:=hP (gA q 0);rw[h1];simp only[ag];obtain⟨i,v,g1,g2,T⟩:=hF s h2;simp only[gA,wA,bA,jA,nth,Ah];rw[g1];simp only[ag,gA,wA,bA,jA,nth,Ah];have T:=T S;refine Cd (λ_=>F3 (Y _ _ _ _ _ _ _ _ _ _ _ _ _ _ _) λ_ _=>rfl) λc=> ?_;simp at c;have:=c (am T);omega
theorem Zoa {x:Ax3} (h:Fix p x t) (E:p.aF≠[]) (a b c o0 o1:Int) (G b1 b2:Bool) (u:Int):
  (LW (DM p t [I a,I b,I c,I o0,I o1,B G,B b1,B b2,I u])).isSome=true:=
 Z6h Zej (λ_ J=>Q9j h J) (λu=>⟨_,PW h.t.q u,VR h u⟩) Qp8 E a b c o0 o1 G b1 b2 u
theorem Zr5 {a b c o0 o1:Int} {G b1 b2:Bool} (E:p.aF≠[]->∀u,(M (DM p t [I a,I b,I c,I o0,I o1,B G,B b1,B b2,I u])).isSome=true)
  (O:∀a b c S T U V X Y,Out (λo=>(wA o 0).length<=4096) (Z [I a,I b,I c,I S,I T,I U,I V,I X,I Y])) (m0 m1 m2 m3 m4 m5:Int):
  (UW M Z (Ak (ST M Z)) (DM p t [I a,I b,I c,I o0,I o1,B G,B b1,B b2,I m0,I m1,I m2,I m3,I m4,I m5])).isSome=true:=by
 rw[Qxn];obtain⟨o,h1,h2⟩:=O a b c m0 m1 m2 m3 m4 m5;rw[h1];simp only[ag];generalize wA o 0=sp at*;refine Cd (λ_=>rfl) λ_=>Cd (λ_=>rfl) λN=> ?_;have J:p.aF≠[]:=by
  intro e;rw[e]at N;simp at N
 have E:=E J;refine F3 (E _) λ_ _=>Cd (λ_=>rfl) λ_=> ?_;refine Out.is (p:=λ_=>True) ?_;refine .bind (p:=λo=>o.1=1\/o.1=2) ?_ λo g=>by rcases g with g|g<;>rw[g]<;>exact .some trivial
 refine Co (λs:Int×Nat=>I s.1:: .vC Aa sp::I (sp.length:Int)::I (s.2:Int)::DM p t [I a,I b,I c,I o0,I o1,B G,B b1,B b2]) (λs=>s.2<=sp.length) (λs=>sp.length-s.2) _ ?_ (m0,0) (by simp);rintro⟨v,i⟩ g;dsimp only at g;rw[Qwy];rw[Ae (x:=(i:Int)+1)];refine .cond (λc=> ?_) (λc=> ?_)
 ·have c:=Bi c;refine .cond (λ_=> ?_) λc=>by simp at c;omega
  refine .ibind (E _) λ_ _=> .cond (λ_=> .some (.inr ⟨by simp, .inl rfl⟩)) λ_=> ?_;exact .some (.inl ⟨rfl,(_,i+1),rfl,by dsimp only;omega,by dsimp only;omega⟩)
 ·exact .some (.inr ⟨by simp, .inr rfl⟩)
theorem Zv2 {x:Ax3} (h:Fix p x t) (a b c o0 o1:Int) (G b1 b2:Bool) (m0 m1 m2 m3 m4 m5:Int):
  (Lj (DM p t [I a,I b,I c,I o0,I o1,B G,B b1,B b2,I m0,I m1,I m2,I m3,I m4,I m5])).isSome=true:=
 Zr5 (λE u=>Zoa h E a b c o0 o1 G b1 b2 u) VX m0 m1 m2 m3 m4 m5
theorem Z5a (I:R<i*4294967296+A) (M:J<4294967296) (E:R=q*i+r) (h:4294967296<=q\/r*4294967296+J<q*A):(R*4294967296+J)/(i*4294967296+A)<q:=by
 have G:0<i*4294967296+A:=by omega
 rw[fh G];rcases h with h|h
 ·have N:4294967296*(i*4294967296+A)<=q*(i*4294967296+A):=bp _ h;omega
 ·have e:q*(i*4294967296+A)=q*i*4294967296+q*A:=by rw[Nat.mul_add,ik]
  rw[e];clear e;generalize q*i=p at*;generalize q*A=t at*;subst E;rw[dt p r 4294967296,du];exact Nat.add_lt_add_left h _
theorem Q0s {a b v u q r:Nat} (G:v<a*4294967296+b) (I:v=q*a+r) (h:q*b<=r*4294967296+u):q<=(v*4294967296+u)/(a*4294967296+b):=by
 have E:0<a*4294967296+b:=by omega
 rw[Nat.le_div_iff_mul_le E];have e:q*(a*4294967296+b)=q*a*4294967296+q*b:=by rw[Nat.mul_add,ik]
 rw[e];generalize q*a=p at*;generalize q*b=t at*;omega
theorem Q35 (E:A<i*4294967296+r) (G:q<4294967296):(A*4294967296+q)/(i*4294967296+r)<4294967296:=by
 rw[fh (by omega)];omega
theorem Qtf {q b:Nat} (E:q<4294967296) (hb:b<4294967296):q*b<=18446744065119617025:=by
 have:=fv (show q<=4294967295 by omega) (show b<=4294967295 by omega);omega
theorem Wm {α:Type} {F G:Nat->Nat->Option α} (E:(R*4294967296+J)/(i*4294967296+A)=C) (hb:A<4294967296) (Y:2147483648<=i) (M:i<4294967296) (I:R<i*4294967296+A) (S:J<4294967296) {X:α}
  (T:∀q r:Nat,q<=4294967297->r<4294967296->F q r=if 4294967296<=q\/r*4294967296+J<q*A then(if 4294967296<=r+i then G (q-1) 0 else F (q-1) (r+i))else G q 0)
  (N:G C 0=some X):∀(k q r:Nat),q<=C+k->C<=q->R=q*i+r->r<4294967296->q<=4294967297->F q r=some X
 |k,q,r,hk,h1,U,h3,h4=>by
  rw[T q r h4 h3];by_cases c:4294967296<=q\/r*4294967296+J<q*A
  ·rw[ab c];have h5:=Z5a I S U c;rw[E]at h5;have e:R=(q-1)*i+(r+i):=by
    have:(q-1)*i+i=q*i:=by rw[<-ij];congr 1;omega
    omega
   by_cases V:4294967296<=r+i
   ·rw[ab V];have h6:(q-1)*A<=(r+i)*4294967296+J:=by
     have:=fv (show q-1<=4294967296 by omega) (show A<=4294967296 by omega);omega
    have O:=Q0s I e h6;rw[E]at O;rw[show q-1=C by omega];exact N
   ·rw[aa V]
    match k with
    |0=>omega
    |k+1=>exact Wm E hb Y M I S T N k (q-1) (r+i) (by omega) (by omega) e (by omega) (by omega)
  ·rw[aa c];have O:=Q0s (u:=J) I U (by omega);rw[E]at O;rw[show q=C by omega];exact N
theorem Q7a (hb:r<4294967296) (G:2147483648<=i) (I:A<i*4294967296+r) (J:q<4294967296):(A*4294967296+q)/(i*4294967296+r)<=A/i/\A/i<=4294967297/\A=A/i*i+A%i/\A%i<i:=by
 have e:A=A/i*i+A%i:=by have:=gv A i;rw[fg]at this;omega
 have E:A%i<i:=ia _ (by omega);refine⟨?_,?_,e,E⟩
 ·rw[<-Nat.lt_succ_iff,fh (by omega)];have e2:(A/i).succ*(i*4294967296+r)=(A/i*i+i)*4294967296+(A/i).succ*r:=by rw[Nat.mul_add,<-ik,ij]
  rw[e2];omega
 ·rw[<-Nat.lt_succ_iff,fh (by omega)];omega
theorem wr {x:Nat} (h:x<=18446744073709551615):wrap .u64 (x:Int)=x:=Ig (by omega)
theorem Zy1 {y s v0:Int} (hb:A<4294967296) (V:2147483648<=i) (N:i<4294967296) (X:R<i*4294967296+A) (Y:J<4294967296):
  Ak (Mp M) [U y,U s,U i,U A,U R,U J,U v0,U ((R/i:Nat):Int),U ((R%i:Nat):Int)]=some (1,[U y,U s,U i,U A,U R,U J,U v0,U (((R*4294967296+J)/(i*4294967296+A):Nat):Int)]):=by
 obtain⟨f1,f2,f3,f4⟩:=Q7a hb V X Y;refine Wm (F:=λq r=>Ak (Mp M) [U y,U s,U i,U A,U R,U J,U v0,U q,U r]) (G:=λq _=>some (1,[U y,U s,U i,U A,U R,U J,U v0,U q])) rfl hb V N X Y ?_ rfl (R/i) _ _ (Nat.le_add_left _ _) f1 f3 (by omega) f2;intro q r hq hr;have w1:wrap .u64 ((r:Int)+(i:Int))=((r+i:Nat):Int):=by rw[<-gx,wr (by omega)]
 have w3:wrap .u64 (wrap .u64 (4294967296*(r:Int))+(J:Int))=((r*4294967296+J:Nat):Int):=by rw[show(4294967296:Int)*r=((r*4294967296:Nat):Int) by omega,wr (by omega),<-gx,wr (by omega)]
 have w4:4294967296<=q->wrap .u64 ((q:Int)-1)=((q-1:Nat):Int):=λh=>by rw[show(q:Int)-1=((q-1:Nat):Int) by omega,wr (by omega)]
 have E:=Zpt (Et:=M) y s i A R J v0 q r;rw[w1,w3]at E;by_cases O:4294967296<=q
 ·rw[Ep (show(q:Int)>=4294967296 by omega),w4 O]at E;show _=if _ then _ else _;rw[ab (.inl O)];by_cases I:4294967296<=r+i
  ·rw[Ep (show((r+i:Nat):Int)>=4294967296 by omega)]at E;rw[ab I];exact Be E (by simp)
  ·rw[Bg (show¬((r+i:Nat):Int)>=4294967296 by omega)]at E;rw[aa I];exact Bz E
 ·have S:=Qtf (q:=q) (b:=A) (by omega) hb;rw[Bg (show¬(q:Int)>=4294967296 by omega),<-dq,wr (df S (by decide))]at E;show _=if _ then _ else _;by_cases T:r*4294967296+J<q*A
  ·rw[Ep (show((q*A:Nat):Int)>((r*4294967296+J:Nat):Int) by omega)]at E;rw[ab (.inr T)];have a0:0<q:=by
    rcases fd q with h|h
    ·rw[h]at T;omega
    ·exact h
   rw[show(q:Int)-1=((q-1:Nat):Int) by omega,wr (by omega)]at E;by_cases I:4294967296<=r+i
   ·rw[Ep (show((r+i:Nat):Int)>=4294967296 by omega)]at E;rw[ab I];exact Be E (by simp)
   ·rw[Bg (show¬((r+i:Nat):Int)>=4294967296 by omega)]at E;rw[aa I];exact Bz E
  ·rw[Bg (show¬((q*A:Nat):Int)>((r*4294967296+J:Nat):Int) by omega)]at E;rw[aa (λh=>h.elim O T)];exact Be E (by simp)
theorem Zxd {y s q1 w:Int} (hb:A<4294967296) (X:2147483648<=i) (O:i<4294967296) (Y:R<i*4294967296+A) (hu:J<4294967296):
  Ak (P9 M N) [U y,U s,U i,U A,U J,U q1,U ((R%i:Nat):Int),U w,U ((R/i:Nat):Int)]=some (1,[U y,U s,U J,U q1,U w,U (((R*4294967296+J)/(i*4294967296+A):Nat):Int)]):=by
 obtain⟨f1,f2,f3,f4⟩:=Q7a hb X Y hu;refine Wm (F:=λq r=>Ak (P9 M N) [U y,U s,U i,U A,U J,U q1,U r,U w,U q]) (G:=λq _=>some (1,[U y,U s,U J,U q1,U w,U q])) rfl hb X O Y hu ?_ rfl (R/i) _ _ (Nat.le_add_left _ _) f1 f3 (by omega) f2;intro q r hq hr;have w1:wrap .u64 ((r:Int)+(i:Int))=((r+i:Nat):Int):=by rw[<-gx,wr (by omega)]
 have w3:wrap .u64 (wrap .u64 (4294967296*(r:Int))+(J:Int))=((r*4294967296+J:Nat):Int):=by rw[show(4294967296:Int)*r=((r*4294967296:Nat):Int) by omega,wr (by omega),<-gx,wr (by omega)]
 have w4:4294967296<=q->wrap .u64 ((q:Int)-1)=((q-1:Nat):Int):=λh=>by rw[show(q:Int)-1=((q-1:Nat):Int) by omega,wr (by omega)]
 have E:=Zn3 (Et:=M) (N17:=N) y s i A J q1 r w q;rw[w1,w3]at E;by_cases S:4294967296<=q
 ·rw[Ep (show(q:Int)>=4294967296 by omega),w4 S]at E;show _=if _ then _ else _;rw[ab (.inl S)];by_cases I:4294967296<=r+i
  ·rw[Ep (show((r+i:Nat):Int)>=4294967296 by omega)]at E;rw[ab I];exact Be E (by simp)
  ·rw[Bg (show¬((r+i:Nat):Int)>=4294967296 by omega)]at E;rw[aa I];exact Bz E
 ·have T:=Qtf (q:=q) (b:=A) (by omega) hb;rw[Bg (show¬(q:Int)>=4294967296 by omega),<-dq,wr (df T (by decide))]at E;show _=if _ then _ else _;by_cases V:r*4294967296+J<q*A
  ·rw[Ep (show((q*A:Nat):Int)>((r*4294967296+J:Nat):Int) by omega)]at E;rw[ab (.inr V)];have a0:0<q:=by
    rcases fd q with h|h
    ·rw[h]at V;omega
    ·exact h
   rw[show(q:Int)-1=((q-1:Nat):Int) by omega,wr (by omega)]at E;by_cases I:4294967296<=r+i
   ·rw[Ep (show((r+i:Nat):Int)>=4294967296 by omega)]at E;rw[ab I];exact Be E (by simp)
   ·rw[Bg (show¬((r+i:Nat):Int)>=4294967296 by omega)]at E;rw[aa I];exact Bz E
  ·rw[Bg (show¬((q*A:Nat):Int)>((r*4294967296+J:Nat):Int) by omega)]at E;rw[aa (λh=>h.elim S V)];exact Be E (by simp)
theorem Q4k {s:Nat} (E:s<=63):(2:Int)^min (Int.toNat (s:Int)) IntKind.u64.bits=((2^s:Nat):Int):=by
 have e:min (Int.toNat (s:Int)) IntKind.u64.bits=s:=by
  show min (Int.toNat (s:Int)) 64=s;omega
 rw[e];simp
theorem Z3m {s:Nat} (E:s<=63):(2:Int)^min (Int.toNat ((64-s:Nat):Int)) IntKind.u64.bits=((2^(64-s):Nat):Int):=by
 have e:min (Int.toNat ((64-s:Nat):Int)) IntKind.u64.bits=64-s:=by
  show min (Int.toNat ((64-s:Nat):Int)) 64=64-s;omega
 rw[e];simp
theorem Q7k (x y:Nat):((x:Int)).fdiv (y:Int)=((x/y:Nat):Int):=by
 rw[gk _ (by omega)];rfl
theorem Z3 (x y:Nat):((x:Int)).tdiv (y:Int)=((x/y:Nat):Int):=by
 rw[bh (by omega)];rfl
theorem orP {A B s:Nat} (E:B<2^s) (h:A*2^s+B<w64):wrap .u64 (((BitVec.ofInt IntKind.u64.bits ((A*2^s:Nat):Int)|||BitVec.ofInt IntKind.u64.bits (B:Int)).toNat:Nat):Int)=((A*2^s+B:Nat):Int):=by
 rw[B6]at h;have e:(BitVec.ofInt IntKind.u64.bits ((A*2^s:Nat):Int)|||BitVec.ofInt IntKind.u64.bits (B:Int)).toNat=A*2^s+B:=by
  rw[BitVec.toNat_or];have e1:∀v:Nat,v<18446744073709551616->(BitVec.ofInt IntKind.u64.bits (v:Int)).toNat=v:=by
   intro v G;simp only[IntKind.bits,ki];omega
  have:=(Nat.two_pow_add_eq_or_of_lt E A).symm;rw[fg]at this;generalize A*2^s=X at*;rw[e1 _ (by omega),e1 _ (by omega)];exact this
 rw[e,wr (by omega)]
theorem Q3b {v u E y:Nat} (I:y<w64) (J:E=(v*4294967296+u)/y) (G:0<y):wrap .u64 (wrap .u64 (wrap .u64 ((v:Int)*4294967296)+(u:Int))-wrap .u64 ((E:Int)*(y:Int)))=(((v*4294967296+u)%y:Nat):Int):=by
 have M:=gv (v*4294967296+u) y;have N:=ia (v*4294967296+u) G;rw[<-J,fg]at M;rw[B6]at I;rw[Om,Om,Om,Om,<-dq];generalize E*y=p at*;generalize(v*4294967296+u)%y=r at*;omega
theorem Q8u (E:0<A) (G:i<w64):wrap .u64 ((i:Int)-wrap .u64 (wrap .u64 ((i/A:Nat):Int)*(A:Int)))=((i%A:Nat):Int):=by
 have I:=gv i A;have J:=ia i E;have M:=iq i A;rw[B6]at G;rw[wr (x:=i/A) (by omega),<-dq];rw[fg]at I;generalize i/A*A=p at*;generalize i%A=r at*;rw[wr (x:=p) (by omega),show(i:Int)-(p:Int)=(r:Int) by omega,wr (by omega)]
theorem Z6l {v u1 u0 Y:Nat} (E:0<Y):(v*w64+(u1*4294967296+u0))/Y=(v*4294967296+u1)/Y*4294967296+((v*4294967296+u1)%Y*4294967296+u0)/Y/\
  (v*w64+(u1*4294967296+u0))%Y=((v*4294967296+u1)%Y*4294967296+u0)%Y:=by
 have e:v*w64+(u1*4294967296+u0)=((v*4294967296+u1)%Y*4294967296+u0)+(v*4294967296+u1)/Y*4294967296*Y:=by
  have h:=gv (v*4294967296+u1) Y;rw[fg]at h;rw[B6];generalize(v*4294967296+u1)%Y=r at*;have e2:(v*4294967296+u1)/Y*4294967296*Y=(v*4294967296+u1)/Y*Y*4294967296:=by rw[ik,fg 4294967296,<-ik]
  rw[e2];generalize(v*4294967296+u1)/Y*Y=p at*;omega
 rw[e,Nat.add_mul_div_right _ _ E,Nat.add_mul_mod_self_right];exact⟨kf _ _,rfl⟩
theorem Zvm {hi lo y s:Nat} (h0:0<hi) (h1:hi<y) (a8:y<w64) (a4:lo<w64) (hs:s<=63) (h2:9223372036854775808<=y*2^s) (E:y*2^s<w64) (hM:M [U y]=some [I s]):
  Qe5 M (Ak (Mp M)) (Ak (P9 M (Ak (Mp M)))) [U hi,U lo,U y]=some [U (((hi*w64+lo)/y:Nat):Int),U (((hi*w64+lo)%y:Nat):Int)]:=by
 have hP:0<2^s:=gq _;have a0:2^s*2^(64-s)=w64:=by rw[B6,<-Nat.pow_add,show s+(64-s)=64 by omega]
 have hT:0<2^(64-s):=gq _;have es:wrap .u64 (s:Int)=s:=wr (by omega);have et:wrap .u64 (64-(s:Int))=((64-s:Nat):Int):=by rw[show(64:Int)-s=((64-s:Nat):Int) by omega,wr (by omega)]
 have hB:lo/2^(64-s)<2^s:=by rw[fh hT,a0];exact a4
 have hv:hi*2^s+lo/2^(64-s)<y*2^s:=by
  have:hi*2^s+2^s<=y*2^s:=by rw[<-ij];exact bp _ h1
  omega
 have hN:(hi*w64+lo)*2^s=(hi*2^s+lo/2^(64-s))*w64+lo*2^s%w64:=by
  have e1:lo*2^s/w64=lo/2^(64-s):=by
   rw[<-a0,fg lo,Nat.mul_div_mul_left _ _ hP]
  have e2:=gv (lo*2^s) w64;rw[e1]at e2;rw[dt,dt,du,fg (lo/2^(64-s)),e2];congr 1;rw[ik,fg w64,ik]
 have hU:lo*2^s%w64<w64:=ia _ Sr;have ey:wrap .u64 ((y:Int)*((2^s:Nat):Int))=((y*2^s:Nat):Int):=by rw[<-dq,wr (Nat.le_of_lt_succ (by rw[B6]at E;exact E))]
 have eh:wrap .u64 ((hi:Int)*((2^s:Nat):Int))=((hi*2^s:Nat):Int):=by
  rw[<-dq,wr (Nat.le_of_lt_succ (by have:=ff h1 hP;rw[B6]at E;exact Nat.lt_trans this E))]
 have el:wrap .u64 ((lo:Int)*((2^s:Nat):Int))=((lo*2^s%w64:Nat):Int):=by
  rw[<-dq,Om,B6];rfl
 have eo:=orP (A:=hi) (B:=lo/2^(64-s)) (s:=s) hB (by omega);have hq:(hi*w64+lo)/y=(hi*w64+lo)*2^s/(y*2^s):=(Nat.mul_div_mul_right _ _ hP).symm;have hr:(hi*w64+lo)%y=(hi*w64+lo)*2^s%(y*2^s)/2^s:=by rw[Nat.mul_mod_mul_right,Nat.mul_div_cancel _ hP]
 rw[hq,hr,hN];rw[Q1h];simp only[hM,ag,Ik,Ng,Mj,RQ,Qi,UY,Qgj,Qe2,H7,gA,jA,wA,bA,es,et,Q4k hs,Z3m hs,ey,eh,el,Q7k,eo];rw[BI (by simp;omega),Bg (show¬(y:Int)<=hi by omega),BI (by simp;omega),Bg (show¬(s:Int)<0 by omega),Bg (show¬(s:Int)<0 by omega),Bg (show¬((64-s:Nat):Int)<0 by omega),Bg (show¬(s:Int)<0 by omega)];rw[Q1s,Q4l _ E,Q1s,Q4l _ hU];have S:y*2^s=y*2^s/4294967296*4294967296+y*2^s%4294967296:=by omega
 have hW:lo*2^s%w64=lo*2^s%w64/4294967296*4294967296+lo*2^s%w64%4294967296:=by omega
 have hb:y*2^s%4294967296<4294967296:=ia _ (by omega);have a1:lo*2^s%w64%4294967296<4294967296:=ia _ (by omega);have a2:lo*2^s%w64/4294967296<4294967296:=by rw[B6]at hU⊢;omega
 have ha:2147483648<=y*2^s/4294967296:=by omega
 have a3:y*2^s/4294967296<4294967296:=by rw[B6]at E;omega
 clear hN hq hr eh el eo ey hB;generalize hi*2^s+lo/2^(64-s)=v at*;generalize lo*2^s%w64=w at*;generalize y*2^s=Y at*;generalize w/4294967296=u1 at*;generalize w%4294967296=u0 at*;generalize Y/4294967296=a at*;generalize Y%4294967296=b at*;subst hW;rw[Bg (show¬(a:Int)=0 by omega),Z3,Q8u (by omega) (Nat.lt_trans hv E),wr (x:=v/a) (by have:=iq v a;rw[B6]at E;omega)];have hl:=Zy1 (M:=M) (y:=(Y:Int)) (s:=s) (v0:=u0) hb ha a3 (by rw[<-S];exact hv) a2;rw[hl];rw[<-S];have G:0<Y:=by omega
 have T:=Q3b (v:=v) (u:=u1) (y:=Y) E rfl G;have a5:(v*4294967296+u1)/Y<4294967296:=by rw[S];exact Q35 (by rw[<-S];exact hv) a2
 have J:=ia (v*4294967296+u1) G;obtain⟨k1,k2⟩:=Z6l (v:=v) (u1:=u1) (u0:=u0) G;rw[k1,k2];clear hl k1 k2;obtain⟨V,g1⟩:∃V,(v*4294967296+u1)/Y=V:=⟨_,rfl⟩;obtain⟨O,g2⟩:∃O,(v*4294967296+u1)%Y=O:=⟨_,rfl⟩;rw[g1]at T a5⊢;rw[g2]at T J⊢;simp only[ag,Ik,Ng,Mj,RQ,Qi,UY,Qgj,Qe2,H7,T];rw[show Nat.beq 1 1=true from rfl,aj,Bg (show¬(a:Int)=0 by omega),Z3,Q8u (by omega) (Nat.lt_trans J E),wr (x:=O/a) (by have:=iq O a;rw[B6]at E;omega)];have a6:=Zxd (M:=M) (N:=Ak (Mp M)) (y:=(Y:Int)) (s:=s) (q1:=V) (w:=O) hb ha a3 (by rw[<-S];exact J) a1;rw[a6];rw[<-S];have X:=Q3b (v:=O) (u:=u0) (y:=Y) E rfl G;have a7:(O*4294967296+u0)/Y<4294967296:=by rw[S];exact Q35 (by rw[<-S];exact J) a1
 obtain⟨q0,g3⟩:∃q0,(O*4294967296+u0)/Y=q0:=⟨_,rfl⟩;obtain⟨r0,g4⟩:∃r0,(O*4294967296+u0)%Y=r0:=⟨_,rfl⟩;rw[g3]at X a7⊢;rw[g4]at X⊢;simp only[ag,Ik,Ng,Mj,RQ,Qi,UY,H7,X];rw[show Nat.beq 1 1=true from rfl,aj,Bg (show¬(s:Int)<0 by omega),Q4k hs,Q7k];have w1:wrap .u64 (wrap .u64 ((V:Int)*4294967296)+(q0:Int))=((V*4294967296+q0:Nat):Int):=by
  rw[show(V:Int)*4294967296=((V*4294967296:Nat):Int) by omega,wr (by omega),<-gx,wr (by omega)]
 rw[w1]
theorem Zuy (h0:0<i) (h:i<w64):∃s:Nat,Jg [U i]=some [I s]/\s<=63/\9223372036854775808<=i*2^s/\i*2^s<w64:=by
 have G:=B6;obtain⟨b1,b2,b3⟩:=Lib.bitLenAux_bounds 64 i (by rw[<-show w64=2^64 by rw[G]];exact h) (by omega);have M:Lib.bitLen i=Lib.bitLenAux 64 i:=rfl;generalize hb:Lib.bitLenAux 64 i=L at*;have J:L<=64:=by
  by_cases c:L<=64
  ·exact c
  ·have:=Nat.pow_le_pow_right (show 0<2 by omega) (show 64<=L-1 by omega);rw[show(2:Nat)^64=18446744073709551616 from rfl]at this;omega
 refine⟨64-L,?_,by omega,?_,?_⟩
 ·unfold Jg;have E:Gf=18446744073709551616:=rfl;have N:inU (i:Int)=true:=by
   simp only[inU,E,al,da];omega
  simp only[Ik,H7,gA,jA,wA,bA,N,aj,ak,M];rw[show(64:Int)-(L:Int)=((64-L:Nat):Int) by omega]
 ·have e:2^(L-1)*2^(64-L)=9223372036854775808:=by rw[<-Nat.pow_add,show L-1+(64-L)=63 by omega]
  rw[<-e];exact bp _ b2
 ·have e:2^L*2^(64-L)=w64:=by rw[<-Nat.pow_add,show L+(64-L)=64 by omega,G]
  rw[<-e];exact ff b3 (gq _)
theorem Zb0 (G:i<A) (I:A<w64) (E:r<w64):Hc [U i,U r,U A]=some [U (((i*w64+r)/A:Nat):Int),U (((i*w64+r)%A:Nat):Int)]:=by
 rcases fd i with h|h
 ·subst h;rw[ja,d9];exact Zac E G
 ·obtain⟨s,e,e1,e2,e3⟩:=Zuy (show 0<A by omega) I;exact Zvm h G I E e1 e2 e3 e
theorem Zng {M N O S M5 T V:Fn} (h1:∀x b,(M [U x,B b]).isSome=true) (h2:∀x y b c,(N [I x,I y,B b,B c]).isSome=true) (X:∀x y,(O [I x,I y]).isSome=true)
  (h4:∀{hi lo y:Nat},hi<y->y<w64->lo<w64->(S [U hi,U lo,U y]).isSome=true) (h5:∀{x y:Nat},x<w64->y<w64->M5 [U x,U y]=some [U ((x*y/w64:Nat):Int),U ((x*y%w64:Nat):Int)])
  (E:∀{x:Int},i64 x->T [I x]=some [U (x.natAbs:Int)]) (h7:∀x,(V [I x]).isSome=true) {a b c:Int} (Y:i64 a) (hb:i64 b) (hc:i64 c) (m:Int):
  (TW M N O S M5 T V [I a,I b,I c,I m]).isSome=true:=by
 have G:∀{x:Int},i64 x->x.natAbs<w64:=by
  intro x hx;unfold i64 at hx;rw[B6];omega
 rw[Zaj,E Y,E hb,E hc];refine Cd (λ_=>rfl) λ_=>F3 (h7 _) λ_ _=>Cd (λ_=>rfl) λ_=> ?_;simp only[ag,gA,wA,bA,jA,nth,Ah];rw[h5 (G Y) (G hb)];simp only[ag,gA,wA,bA,jA,nth,Ah];refine Cd (λ_=>rfl) λc0=> ?_;have c0:=Bp c0;have J:a.natAbs*b.natAbs%w64<w64:=ia _ (by rw[B6];decide);refine F3 (h4 (by omega) (G hc) J) λ_ _=>F3 (X _ _) λ_ _=> ?_
 repeat' first|exact rfl|exact h1 _ _|exact h2 _ _ _ _|exact X _ _|refine Cd (λ_=> ?_) (λ_=> ?_)|refine F3 ?_ λ_ _=> ?_
theorem Zm7 (x:Int) (b:Bool):(Fz [U x,B b]).isSome=true:=by
 show(Qiw [U x,B b]).isSome=true;rw[Qqq]
 repeat' first|exact rfl|refine Cd (λ_=> ?_) (λ_=> ?_)
theorem Zi3 (x y:Int) (b c:Bool):(Ii [I x,I y,B b,B c]).isSome=true:=by
 show(Ql9 [I x,I y,B b,B c]).isSome=true;rw[Q15]
 repeat' first|exact rfl|refine Cd (λ_=> ?_) (λ_=> ?_)
theorem Z8a (x y:Int):(Gr [I x,I y]).isSome=true:=by
 show(Qj4 [I x,I y]).isSome=true;rw[Qvn]
 repeat' first|exact rfl|refine Cd (λ_=> ?_) (λ_=> ?_)
theorem Z2n (x:Int):(Gn [I x]).isSome=true:=by
 show(Wt [I x]).isSome=true;rw[Q5g]
 repeat' first|exact rfl|refine Cd (λ_=> ?_) (λ_=> ?_)
theorem Qku {a b c:Int} (J:i64 a) (hb:i64 b) (M:i64 c) (m:Int):(BM [I a,I b,I c,I m]).isSome=true:=
 Zng Zm7 Zi3 Z8a (λE G N=>by rw[Zb0 E G N];rfl) (λE G=>Q45 E G) (λh=>Jb h) Z2n J hb M m
theorem Vx (x:Int):i64 (V x):=Z63 x
theorem Qx4 {l:List AC} (h:(M l).isSome=true) {f:List AC->List AC}:((M l).bind λo=>some (f o)).isSome=true:=F3 h λ_ _=>rfl
theorem Zb4 (E:i64 a) (hb:i64 b):(QJ [I a,I b]).isSome=true:=by
 show(YN BM [I a,I b]).isSome=true;have h:=Qku E hb (show i64 4096 by unfold i64;omega) 0;generalize BM=M at*;rw[Z08];exact Qx4 h
theorem Q6w (E:i64 a):(FF [I a]).isSome=true:=by
 show(Us BM [I a]).isSome=true;have h:=Qku E (show i64 1048576 by unfold i64;omega) (show i64 60000 by unfold i64;omega) 2;generalize BM=M at*;rw[Q4d];exact Qx4 h
theorem Q7e (a b:Int):∃v,Sb [I a,I b]=some [I v]/\i64 v:=by
 refine⟨mx (V (a-b)) (V (b-a)),?_,?_⟩
 ·show Qb1 [I a,I b]=_;rw[Zlh]
 ·have E:=Vx (a-b);have G:=Vx (b-a)
  unfold mx;split<;>assumption
theorem Qud (a:Int):(Hu [I a]).isSome=true:=by
 show(Qlh [I a]).isSome=true;rw[Zfi]
 repeat' first|exact rfl|refine Cd (λ_=> ?_) (λ_=> ?_)
theorem Zo4 (hb:b≠0):(Kv [I a,I b]).isSome=true:=by
 show(Qlv [I a,I b]).isSome=true;rw[Z7j];refine Cd (λc=>absurd (Bi c) hb) λ_=>Cd (λc=>absurd (Bi c) hb) λ_=>Cd (λ_=>rfl) λ_=>rfl
theorem Zk4 (J O S T E:Int) {G:Int} (U:i64 G):(Ly [I J,I O,I S,I T,I E,I G]).isSome=true:=by
 show(Zj FF Hu [I J,I O,I S,I T,I E,I G]).isSome=true;have h:=Q6w U;have V:=Qud E;generalize FF=M at*;generalize Hu=N at*;rw[Znu]
 repeat' first|exact rfl|exact h|exact V|refine Cd (λ_=> ?_) (λ_=> ?_)|refine F3 ?_ λ_ _=> ?_
theorem Z62 (J O S T E:Int) {G:Int} (U:i64 G):(ND [I J,I O,I S,I T,I E,I G]).isSome=true:=by
 show(Yy FF Hu [I J,I O,I S,I T,I E,I G]).isSome=true;have h:=Q6w U;have V:=Qud E;generalize FF=M at*;generalize Hu=N at*;rw[Zrw]
 repeat' first|exact rfl|exact h|exact V|refine Cd (λ_=> ?_) (λ_=> ?_)|refine F3 ?_ λ_ _=> ?_
structure Plan3 (a b c : Int) : Prop where
 a:1<=a/\a<=65536
 b:2<=b/\b<=65536
 c:1<=c/\c<=16777216
abbrev El (m0 m1 m3 m4 v:Int):List AC:=[I (V (m0+v)),I v,I (V (v-m1)),I m0,I m3,I m4]
theorem OX (m0 m1 m2 m3 m4 m5 v:Int):J0 [I m0,I m1,I m2,I m3,I m4,I m5,I v]=some (El m0 m1 m3 m4 v):=by
 show Wf [I m0,I m1,I m2,I m3,I m4,I m5,I v]=some (El m0 m1 m3 m4 v);rw[Z3y]
theorem FB (a:AC) (l:List AC):nth .dead (a::l) 0=a:=rfl
theorem IT (a:AC) (l:List AC) (n:Nat):nth .dead (a::l) (n+1)=nth .dead l n:=rfl
theorem HO (n:Int):Ah (.int .i64 n)=n:=rfl
theorem Z7o {x:Ax3} (J:∀u,(M (pxt p x t [I u])).isSome=true) (T:0<=t.length/\t.length<=900000000000000) (E G:Int) (U:G-E<=1000000000000):
  (Yz M (Ak (Qn5 M)) (pxt p x t [I E,I G])).isSome=true:=by
 rw[Zs3];have N:0<=mx 0 (mn E t.length)/\mx 0 (mn E t.length)<=t.length/\mx 0 (mn G t.length)-mx 0 (mn E t.length)<=1000000000000/\mx 0 (mn G t.length)<=t.length:=by
  unfold mx mn
  (repeat' split)<;>omega
 obtain⟨k1,k2,V,X⟩:=N;generalize mx 0 (mn E t.length)=f at*;generalize mx 0 (mn G t.length)=e at*;refine F3 (J _) λo _=> ?_;refine Out.is (p:=λ_=>True) ?_;refine .bind (p:=λo=>o.1=1) ?_ λo g=>by rw[g];exact .some trivial
 show Out _ (Ak _ (.vC kPt []::I e::I f::pxt p x t [I (gA o 0),I (gA o 1),I (gA o 2)]));generalize gA o 0=w0;generalize gA o 1=O;generalize gA o 2=S;refine Co (λs:Rw×Int×Int×Int×Int=> .vC kPt s.1::I e::I s.2.1::pxt p x t [I s.2.2.1,I s.2.2.2.1,I s.2.2.2.2]) (λs=>f<=s.2.1/\s.2.1<=t.length/\(s.1.length:Int)<=3*(s.2.1-f)) (λs=>(e-s.2.1).toNat) _ ?_ ([],f,w0,O,S) (by simp;omega);rintro⟨v,u,Y,a1,a2⟩ ⟨q1,q2,q3⟩;dsimp only at*;rw[Z9l];try dsimp only[Pb]
 rw[Ae (x:=u+1)];refine .cond (λc=> ?_) (λ_=> .some (.inr ⟨by simp,rfl⟩));have c:=Bi c;refine .ibind (J _) λo _=> ?_
 repeat' first
  |(refine .cond (λ_=> ?_) λc=>by rw[Dl (by simp;omega)]at c;cases c)
  |refine .cond (λ_=> ?_) (λ_=> ?_)
 all_goals refine Out.some (Or.inl ⟨rfl,(_,u+1,_,_,_),rfl,by simp;omega,by show(e-(u+1)).toNat<(e-u).toNat;omega⟩)
theorem Z9a {x:Ax3} (h:Fix p x t) (E G:Int) (J:G-E<=1000000000000):(Ks (pxt p x t [I E,I G])).isSome=true:=
 Z7o (λu=>by rw[QE h u];rfl) h.t.q.len E G J
def BF (k b:Int):Int:=if b<=0 then 0 else(b-1)/k*b-k*((b-1)/k*((b-1)/k+1)/2)
def Ci (j k v a:Int):Prop:= -j<=a/\a<=j/\BF k (-a)<=v/\v<=16777216-BF k a/\(v=0->a<=k)
instance (j k v a:Int):Decidable (Ci j k v a):=by unfold Ci;infer_instance
theorem Q6f (G:2<=k/\k<=65536) (hb:0<b/\b<=1048576):
  0<=(b-1)/k/\(b-1)/k<=524288/\k*((b-1)/k)<=b-1/\0<=(b-1)/k*b/\(b-1)/k*b<=549755813888/\0<=(b-1)/k*((b-1)/k+1)/\(b-1)/k*((b-1)/k+1)<=274878431232:=by
 have h0:0<=(b-1)/k:=Int.ediv_nonneg (by omega) (by omega);have I:k*((b-1)/k)<=b-1:=Int.mul_ediv_self_le (by omega);have J:2*((b-1)/k)<=k*((b-1)/k):=dp G.1 h0;have E:(b-1)/k<=524288:=by omega
 have M:(b-1)/k*b<=524288*1048576:=f6 E hb.2 (by omega) (by omega);have N:(b-1)/k*((b-1)/k+1)<=524288*524289:=f6 E (by omega) (by omega) (by omega);exact⟨h0,E,I,fy h0 (by omega),by omega,fy h0 (by omega),by omega⟩
theorem Id (h:b<=0):BF k b=0:=by simp[BF,h]
theorem Sy (h:b<=k):BF k b=0:=by
 unfold BF;split
 ·rfl
 ·rw[Int.ediv_eq_zero_of_lt (by omega) (by omega)];simp
theorem Zld (m:Int):m*(m+1)/2=(m-1)*m/2+m:=by
 have:m*(m+1)=(m-1)*m+m*2:=by
  rw[Int.sub_mul,jr,Int.mul_one,ji];omega
 rw[this,Int.add_mul_ediv_right _ _ (by omega)]
theorem Oa (E:0<k) (h:k<b):BF k b=(b-k)+BF k (b-k):=by
 have e1:(b-1)/k=(b-k-1)/k+1:=by
  have:b-1=(b-k-1)+k*1:=by omega
  rw[this,Int.add_mul_ediv_left _ _ (by omega)]
 unfold BF;rw[aa,aa,e1];generalize(b-k-1)/k=m;rw[Zld (m+1)];have e2:m+1-1=m:=by omega
 rw[e2,jr k,jj m 1 b,j8 m b k,jr k m 1,fa k m];omega
theorem Qtz (E:0<k):∀(n:Nat) (b:Int),b<=n->0<=BF k b
 |0,b,h=>by rw[Id (by omega)];omega
 |n+1,b,h=>by
  by_cases hb:b<=k
  ·rw[Sy hb];omega
  ·rw[Oa E (by omega)];have:=Qtz E n (b-k) (by omega);omega
theorem H3 (E:0<k):0<=BF k b:=Qtz E b.toNat b (by omega)
theorem Qth (E:0<k):∀(n:Nat) (b:Int),b<=n->BF k b<=BF k (b+1)
 |0,b,h=>by rw[Id (by omega)];exact H3 E
 |n+1,b,h=>by
  by_cases hb:b<=k
  ·rw[Sy hb];exact H3 E
  ·rw[Oa E (b:=b) (by omega),Oa E (b:=b+1) (by omega)];have:=Qth E n (b-k) (by omega);have e:b+1-k=b-k+1:=by omega
   rw[e];omega
theorem Qv2 (E:0<k):∀(n:Nat) (b:Int),BF k b<=BF k (b+n)
 |0,b=>by simp
 |n+1,b=>by
  have G:=Qv2 E n b;have I:=Qth E (b+n).toNat (b+n) (by omega);have e:b+((n+1:Nat):Int)=b+n+1:=by omega
  rw[e];omega
theorem VN {k b c:Int} (E:0<k) (h:b<=c):BF k b<=BF k c:=by
 have:=Qv2 E (c-b).toNat b;have e:b+((c-b).toNat:Int)=c:=by omega
 rwa [e]at this
theorem Qyo (E:2<=k/\k<=65536) (hb:b<=1048576):BF k b<=549755813888:=by
 unfold BF;split
 ·omega
 ·have p:=Q6f (k:=k) (b:=b) E ⟨by omega,hb⟩;generalize(b-1)/k=m at p⊢;obtain⟨G,I,J,M,N,O,S⟩:=p;have T:0<=k*(m*(m+1)/2):=fy (by omega) (by omega);omega
def bs (k v:Int):Nat->Int->Int->Int
 |0,low,_=>low
 |n+1,low,aY=>if low<aY then
   if BF k (aY-(aY-low)/2)<=v-(aY-(aY-low)/2)then bs k v n (aY-(aY-low)/2) aY else bs k v n low (aY-(aY-low)/2-1)
  else low
def AB (j k v a:Int):Int:= -(bs k v 20 (-a-k) (min (k-a) j))
theorem Qn8 (k v:Int):∀(n:Nat) (low aY:Int),low<=bs k v n low aY/\bs k v n low aY<=max low aY
 |0,low,aY=>by simp only[bs];omega
 |n+1,low,aY=>by
  unfold bs;split
  ·split
   ·have:=Qn8 k v n (aY-(aY-low)/2) aY;omega
   ·have:=Qn8 k v n low (aY-(aY-low)/2-1);omega
  ·omega
theorem Qnx (k v:Int):∀(n:Nat) (low aY:Int),low<=aY->aY-low<2^n->BF k low<=v-low->
  BF k (bs k v n low aY)<=v-bs k v n low aY/\low<=bs k v n low aY/\bs k v n low aY<=aY/\(bs k v n low aY=aY\/v-(bs k v n low aY+1)<BF k (bs k v n low aY+1))
 |0,low,aY,I,M,G=>by
  simp only[bs];have:aY-low<1:=by simpa using M
  exact⟨G,by omega,I, .inl (by omega)⟩
 |n+1,low,aY,I,M,G=>by
  have N:(2:Int)^(n+1)=2*2^n:=by rw[Int.pow_succ];omega
  unfold bs;by_cases E:low<aY
  ·rw[ab E];by_cases J:BF k (aY-(aY-low)/2)<=v-(aY-(aY-low)/2)
   ·rw[ab J];obtain⟨a,b,c,d⟩:=Qnx k v n (aY-(aY-low)/2) aY (by omega) (by omega) J;exact⟨a,by omega,c,d⟩
   ·rw[aa J];obtain⟨a,b,c,d⟩:=Qnx k v n low (aY-(aY-low)/2-1) (by omega) (by omega) G;refine⟨a,b,by omega, .inr ?_⟩;rcases d with d|d
    ·have e:bs k v n low (aY-(aY-low)/2-1)+1=aY-(aY-low)/2:=by omega
     rw[e];omega
    ·exact d
  ·rw[aa E];exact⟨G,by omega,I, .inl (by omega)⟩
theorem Ot (N:Plan3 j k u) (O:Ci j k v a) {B:Int} (S:B=bs k v 20 (-a-k) (min (k-a) j)):
  BF k B<=v-B/\ -a-k<=B/\B<=k-a/\B<=j/\(B=min (k-a) j\/v-(B+1)<BF k (B+1))/\0<=v:=by
 obtain⟨⟨X,Y⟩,⟨p3,p4⟩,p5,p6⟩:=N;obtain⟨h1,h2,T,h4,h5⟩:=O;have G:0<k:=by omega
 have l0:=H3 (b:= -a) G;have E:BF k (-a-k)<=v-(-a-k):=by
  by_cases U:k< -a
  ·rw[Oa G U]at T;omega
  ·rw[Id (by omega)];omega
 obtain⟨I,J,V,M⟩:=Qnx k v 20 (-a-k) (min (k-a) j) (by omega) (by simp;omega) E;rw[<-S]at I J V M;exact⟨I,J,by omega,by omega,M,by omega⟩
theorem closed (M:Plan3 j k u) (N:Ci j k v a):
  Ci j k (v+AB j k v a) (AB j k v a)/\AB j k v a-a<=k/\a-AB j k v a<=k/\(0<a\/(v=0/\AB j k v a=0)\/AB j k v a<0):=by
 obtain⟨B,O⟩:∃B,B=bs k v 20 (-a-k) (min (k-a) j):=⟨_,rfl⟩;have hb:AB j k v a= -B:=by unfold AB;rw[O]
 obtain⟨q1,q2,q3,q4,E,q6⟩:=Ot M N O;rw[hb];obtain⟨⟨p1,p2⟩,⟨p3,p4⟩,p5,p6⟩:=M;obtain⟨h1,h2,h3,h4,h5⟩:=N;have J:0<k:=by omega
 have top:B+1<=0->B=min (k-a) j:=by
  intro h;rcases E with E|E
  ·exact E
  ·rw[Id h]at E;omega
 have U: -a<=B\/0<=B:=by
  by_cases G:B+1<=0
  ·have:=top G;omega
  ·right;omega
 have I:a<=0->0<=B:=λS=>by
  by_cases G:B+1<=0
  ·have:=top G;omega
  ·omega
 have la:=H3 (b:=a) J;have V: -j<=B:=by
  by_cases G:B+1<=0
  ·have:=top G;omega
  ·omega
 have e1: -(-B)=B:=by omega
 refine⟨⟨by omega,by omega,by rw[e1];omega,?_,?_⟩,by omega,by omega,?_⟩
 ·by_cases G:0<=B
  ·rw[Id (b:= -B) (by omega)];omega
  ·have ht:=top (by omega);have X:B=k-a:=by omega
   have e2: -B=a-k:=by omega
   have hs:=Oa (k:=k) (b:=a) J (by omega);rw[e2];omega
 ·intro T;omega
 ·by_cases S:0<a
  ·exact .inl S
  ·right;have Y:=I (by omega);by_cases T:v=0
   ·left;have:=H3 (b:=B) J;exact⟨T,by omega⟩
   ·right;by_cases hz:B=0
    ·rcases E with E|E
     ·omega
     ·rw[hz,Sy (k:=k) (b:=0+1) (by omega)]at E;omega
    ·omega
def BU (j k:Int):Nat->Int->Int->List Int×Bool
 |0,v,_=>([],decide (v<=0))
 |n+1,v,a=>if v<=0 then([],true)else((v+AB j k v a)::(BU j k n (v+AB j k v a) (AB j k v a)).1,(BU j k n (v+AB j k v a) (AB j k v a)).2)
theorem Zb6 (j k:Int):∀(n:Nat) (v a:Int),(BU j k n v a).2=true->BU j k (n+1) v a=BU j k n v a
 |0,v,a,h=>by
  have h:v<=0:=of_decide_eq_true h;unfold BU;rw[ab h];show([],true)=([],decide (v<=0));rw[am h]
 |n+1,v,a,h=>by
  unfold BU at h⊢;by_cases c:v<=0
  ·rw[ab c,ab c]
  ·rw[aa c]at h;rw[aa c,aa c,Zb6 j k n _ _ h]
theorem DH (E:Plan3 j k u) (G:Ci j k v a): -65536<=a/\a<=65536/\0<=v/\v<=16777216:=by
 obtain⟨I,J,M,N,-⟩:=G;have O:=E.a;have S:=E.b
 have T:=H3 (k:=k) (b:=a) (by omega);have U:=H3 (k:=k) (b:= -a) (by omega);omega
end Go.Bm
noncomputable section
namespace Go.Bm
theorem Zd3 {a k c:Int} (E:2<=k/\k<=65536) {d:Int} (M:d<=1048576):G9 [I a,I k,I c,I d]=some [I (BF k d)]:=by
 show Vh _=_;rw[Qex];by_cases h:d<=0
 ·rw[Ca (am h),Id h]
 ·rw[BI (an h),BI (an (by omega)),BI (an (by omega))];obtain⟨N,O,S,T,U,G,V⟩:=Q6f E (show 0<d/\d<=1048576 by omega);rw[Ae (x:=d-1),bh (show 0<=d-1 by omega)];unfold BF;rw[aa h];have X:0<=k*((d-1)/k*((d-1)/k+1)/2):=fy (by omega) (by omega);have J:k*((d-1)/k*((d-1)/k+1)/2)<=65536*274878431232:=f6 E.2 (by omega) (by omega) (by omega);generalize Y:(d-1)/k=q at*;rw[Ae (x:=q),Ae (x:=q*d),Ae (x:=q+1),Ae (x:=q*(q+1)),bh G];generalize q*(q+1)=y at*;generalize q*d=z at*;rw[Ae (x:=y/2),Ae (x:=k*(y/2)),Ae]
theorem Zj5 {a k c:Int} (J:Plan3 a k c) (N:∀{d:Int},d<=1048576->M [I a,I k,I c,I d]=some [I (BF k d)]) (v x:Int):Q9 M [I a,I k,I c,I v,I x]=some [B (decide (Ci a k v x))]:=by
 have S:=J.a;have O:=J.b
 rw[Zz,Ae (x:=0-a)];refine eC (λh=> ?_) λh=> ?_
 ·have h:x<0-a:=Bi h;rw[an (λq=>by have:=q.1;omega)]
 have h: ¬x<0-a:=Bp h;refine eC (λE=> ?_) λE=> ?_
 ·have E:x>a:=Bi E;rw[an (λq=>by have:=q.2.1;omega)]
 have E: ¬x>a:=Bp E;have T:=Qyo (b:= -x) O (by omega);have U:=Qyo (b:=x) O (by omega);have X:=H3 (k:=k) (b:=x) (by omega);have fin: ¬(v=0/\x>k)->((M [I a,I k,I c,I (V (0-x))]).bind λo=>bif decide (v>=gA o 0)then(M [I a,I k,I c,I x]).bind λo2=>some [B (decide (v<=V (16777216-gA o2 0)))]else some [B false])=some [B (decide (Ci a k v x))]:=λY=>by
  rw[Ae (x:=0-x),show(0:Int)-x= -x by omega];refine eB (N (by omega)) (eC (λq=> ?_) λq=> ?_)
  ·have q:v>=BF k (-x):=Bi q;refine eB (N (by omega)) ?_;show some [B (decide (v<=V (16777216-BF k x)))]=_;rw[Ae];have e:(v<=16777216-BF k x)↔Ci a k v x:=⟨λe=>⟨by omega,by omega,q,e,λz=>by omega⟩,λe=>e.2.2.2.1⟩;rw[decide_eq_decide.2 e]
  ·have q: ¬v>=BF k (-x):=Bp q;rw[an (λw=>q w.2.2.1)]
 refine eC (λh0=>eC (λG=> ?_) λG=> ?_) λh0=> ?_
 ·have h0:v=0:=eq_of_beq h0;have G:x>k:=Bi G;rw[an (λq=>by have:=q.2.2.2.2 h0;omega)]
 ·exact fin λw=>Bp G w.2
 ·exact fin λw=>by rw[beT w.1]at h0;cases h0
theorem Zwt {a k c:Int} (E:Plan3 a k c) (v x:Int):GZ [I a,I k,I c,I v,I x]=some [B (decide (Ci a k v x))]:=Zj5 E (λG=>Zd3 E.b G) v x
theorem Zgo:∀(n:Nat) {low aY:Int},¬low<aY->bs k v n low aY=low
 |0,_,_,_=>rfl
 |n+1,_,_,h=>by unfold bs;rw[aa h]
theorem Z32 {M MV:Fn} {a k c v:Int} (N:∀{d:Int},d<=1048576->M [I a,I k,I c,I d]=some [I (BF k d)]) (S: -1099511627776<=v/\v<=1099511627776):∀(n:Nat) (low aY:Int),aY-low<2^n-> -262144<=low->aY<=262144->low<=262144-> -262145<=aY->
  Ak (Nr M MV) [I v,I low,I aY,I a,I k,I c]=some (1,[I (bs k v n low aY)]):=by
 have E:∀(n:Nat) {low aY:Int},¬low<aY->Ak (Nr M MV) [I v,I low,I aY,I a,I k,I c]=some (1,[I (bs k v n low aY)]):=λn low aY h=>by
  rw[Zgo n h];refine Be ?_ (by simp);rw[Yr,BI (an h)]
 intro n;induction n with
 |zero=>
  intro low aY h _ _ _ _;have h:aY-low<1:=by simpa using h
  exact E 0 (by omega)
 |succ n J=>
  intro low aY h T U X Y;have O:(2:Int)^(n+1)=2*2^n:=by rw[Int.pow_succ];omega
  rw[O]at h;by_cases cc:low<aY
  ·have e1:V (aY-V ((V (aY-low)).tdiv 2))=aY-(aY-low)/2:=by
    rw[Ae (x:=aY-low),bh (show 0<=aY-low by omega),Ae (x:=(aY-low)/2),Ae]
   have e2:V (v-(aY-(aY-low)/2))=v-(aY-(aY-low)/2):=Ae;have e3:V (aY-(aY-low)/2-1)=aY-(aY-low)/2-1:=Ae;have G:=Yr M MV v low aY a k c;rw[Ca (am cc),e1,e2,e3,N (by omega)]at G;unfold bs;rw[ab cc];by_cases q:BF k (aY-(aY-low)/2)<=v-(aY-(aY-low)/2)
   ·rw[ab q];rw[Bz (G.trans (eB rfl (eT (am (show v-(aY-(aY-low)/2)>=BF k (aY-(aY-low)/2)from q)) rfl)))];exact J _ _ (by omega) (by omega) (by omega) (by omega) (by omega)
   ·rw[aa q];rw[Bz (G.trans (eB rfl (eF (an (show¬v-(aY-(aY-low)/2)>=BF k (aY-(aY-low)/2)from q)) rfl)))];exact J _ _ (by omega) (by omega) (by omega) (by omega) (by omega)
  ·exact E (n+1) cc
theorem Zhl {a k c v x:Int} (E:Plan3 a k c) (G:Ci a k v x) (J:∀{d:Int},d<=1048576->M [I a,I k,I c,I d]=some [I (BF k d)]) (N:Z [I a,I k,I c]=some [B true]):
  T1 M Z (Ak (Nr M Z)) [I a,I k,I c,I v,I x]=some [I (AB a k v x)]:=by
 have O:=DH E G;have S:=E.a;have T:=E.b
 rw[Zbm];have m1:mx x v=max x v:=by unfold mx;split<;>omega
 have m2:mn x v=min x v:=by unfold mn;split<;>omega
 rw[m1,m2];refine eB N (eF rfl (eF (an (by omega)) (eF (an (by omega)) ?_)));have m3:mn (V (k-x)) a=min (k-x) a:=by rw[Ae (x:=k-x)];unfold mn;split<;>omega
 rw[m3,Ae (x:=0-x),Ae (x:=0-x-k),show(0:Int)-x-k= -x-k by omega];refine eB (Z32 (MV:=Z) J (by omega) 20 (-x-k) (min (k-x) a) (by simp;omega) (by omega) (by omega) (by omega) (by omega)) (eT rfl ?_);have hb:=Qn8 k v 20 (-x-k) (min (k-x) a);show some [I (V (0-bs k v 20 (-x-k) (min (k-x) a)))]=_;unfold AB;rw[Ae,Int.zero_sub]
theorem Q1b {a k c:Int} (E:Plan3 a k c):FE [I a,I k,I c]=some [B true]:=by
 rw[Rf,am];exact⟨E.a.1,E.a.2,E.b.1,E.b.2,E.c.1,E.c.2⟩
theorem Qt6 {a k c v x:Int} (E:Plan3 a k c) (G:Ci a k v x):FN [I a,I k,I c,I v,I x]=some [I (AB a k v x)]:=
 Zhl E G (λJ=>Zd3 E.b J) (Q1b E)
def AM (a k v x:Int):List Int×Bool:=if Ci a k v x/\(BU a k 4096 v x).2=true then((BU a k 4096 v x).1,true)else([],false)
theorem Zk8 {E MR MV:Fn} {a k c:Int} (J:Plan3 a k c) (T:∀{v x:Int},Ci a k v x->E [I a,I k,I c,I v,I x]=some [I (AB a k v x)]):∀(n:Nat) (pre:List Int) (v x:Int),pre.length+n=4096->Ci a k v x->
  Ak (IF E MR MV) [.vC Aa (pre.map Ao),I v,I x,I a,I k,I c]=if(BU a k n v x).2=true then some (2,[.vC Aa ((pre++(BU a k n v x).1).map Ao)])else some (1,[B false]):=by
 have fin:∀(n:Nat) (pre:List Int) (v x:Int),v<=0->Ak (IF E MR MV) [.vC Aa (pre.map Ao),I v,I x,I a,I k,I c]=if(BU a k n v x).2=true then some (2,[.vC Aa ((pre++(BU a k n v x).1).map Ao)])else some (1,[B false]):=λn pre v x h=>by
  have e:BU a k n v x=([],true):=by
   cases n with
   |zero=>show([],decide (v<=0))=([],true);rw[am h]
   |succ n=>unfold BU;rw[ab h]
  rw[e,ab rfl];refine Be ?_ (by simp);rw[Rl,BI (an (by omega)),List.append_nil]
 intro n;induction n with
 |zero=>
  intro pre v x U G;by_cases h:v<=0
  ·exact fin 0 pre v x h
  ·have e:BU a k 0 v x=([],false):=by show([],decide (v<=0))=([],false);rw[an h]
   rw[e,aa (by simp)];refine Be ?_ (by simp);rw[Rl,Ca (am (by omega)),Ca (beT (by rw[af];omega))]
 |succ n X=>
  intro pre v x U G;by_cases h:v<=0
  ·exact fin (n+1) pre v x h
  ·have N:=closed J G;have Y:=DH J G;have O:=DH J N.1;have S:=Rl E MR MV (pre.map Ao) v x a k c;rw[Ca (am (by omega)),BI (beF (by rw[af];omega)),T G]at S;have hw:V (v+AB a k v x)=v+AB a k v x:=Ae;have M:IF E MR MV [.vC Aa (pre.map Ao),I v,I x,I a,I k,I c]=some (0,[.vC Aa ((pre++[v+AB a k v x]).map Ao),I (v+AB a k v x),I (AB a k v x),I a,I k,I c]):=by
    refine S.trans (eB rfl ?_);show cond ((List.length (pre.map Ao++[[I (V (v+AB a k v x))]])*8).ble 140737488355328) (some (0,[AC.vC Aa (pre.map Ao++[[I (V (v+AB a k v x))]]),I (V (v+AB a k v x)),I (AB a k v x),I a,I k,I c])) none=_;rw[hw,Dl (by simp;omega),de];rfl
   rw[Bz M,X (pre++[v+AB a k v x]) _ _ (by simp;omega) N.1];have e:BU a k (n+1) v x=((v+AB a k v x)::(BU a k n (v+AB a k v x) (AB a k v x)).1,(BU a k n (v+AB a k v x) (AB a k v x)).2):=by
    show(if v<=0 then _ else _)=_;rw[aa h]
   rw[e];simp only[fq,az,bf]
theorem Z2o {a k c:Int} (G:Plan3 a k c) (J:∀{v x:Int},Ci a k v x->M [I a,I k,I c,I v,I x]=some [I (AB a k v x)]) (N:W [I a,I k,I c]=some [B true])
  (O:∀v x,Z [I a,I k,I c,I v,I x]=some [B (decide (Ci a k v x))]) (v x:Int):
  Rv M Z W (Ak (IF M Z W)) [I a,I k,I c,I v,I x]=some [.vC Aa ((AM a k v x).1.map Ao),B (AM a k v x).2]:=by
 rw[W9];refine eB N (eF rfl (eB (O v x) ?_));unfold AM;refine eC (λh=> ?_) λh=> ?_
 ·have h: ¬Ci a k v x:=by
   intro q;have h:(!decide (Ci a k v x))=true:=h;rw[am q]at h;cases h
  rw[aa (λw=>h w.1)];rfl
 ·have h:Ci a k v x:=by
   have h:(!decide (Ci a k v x))=false:=h;by_cases q:Ci a k v x
   ·exact q
   ·rw[an q]at h;cases h
  have E:=Zk8 (MR:=Z) (MV:=W) G J 4096 [] v x (by simp) h;by_cases q:(BU a k 4096 v x).2=true
  ·rw[ab q]at E;rw[ab ⟨h,q⟩];exact eB E rfl
  ·rw[aa q]at E;rw[aa (λw=>q w.2)];exact eB E rfl
theorem Zcy {a k c:Int} (E:Plan3 a k c) (v x:Int):KW [I a,I k,I c,I v,I x]=some [.vC Aa ((AM a k v x).1.map Ao),B (AM a k v x).2]:=
 Z2o E (λG=>Qt6 E G) (Q1b E) (Zwt E) v x
def BN (u:Int):List Int->List Int
 |[]=>[]
 |v::l=>(u+v)::BN (u+v) l
def Ck (u:Int):List Int->Int
 |[]=>u
 |v::l=>Ck (u+v) l
theorem Qz8 (v:Int):∀(u:Int) (l:List Int),BN u (l++[v])=BN u l++[Ck u l+v]
 |_,[]=>rfl
 |u,w::l=>by simp only[az,BN,Ck,Qz8 v (u+w) l]
theorem Qte (v:Int):∀(u:Int) (l:List Int),Ck u (l++[v])=Ck u l+v
 |_,[]=>rfl
 |u,w::l=>by simp only[az,Ck,Qte v (u+w) l]
theorem KZ:∀(u:Int) (l:List Int),(BN u l).length=l.length
 |_,[]=>rfl
 |u,w::l=>by simp[BN,KZ (u+w) l]
theorem ZD:∀(u:Int) (l:List Int),l≠[]->(BN u l)[(BN u l).length-1]? =some (Ck u l)
 |u,[v],_=>rfl
 |u,v::w::l,_=>by
  have h:=ZD (u+v) (w::l) (by simp);rw[KZ]at h⊢;simpa [BN,Ck]using h
theorem Qss {N:Int}:∀(u:Int) (l:List Int),(∀v∈l,0<=v/\v<=N)->u<=Ck u l/\Ck u l<=u+l.length*N
 |u,[],_=>by simp[Ck]
 |u,v::l,h=>by
  have G:=h v (by simp);have I:=Qss (N:=N) (u+v) l λw E=>h w (by simp[E]);simp only[Ck,bj];have e:((l.length+1:Nat):Int)*N=l.length*N+N:=by
   rw[gx,jj];simp
  rw[e];omega
theorem Q3e {a k c:Int} (E:Plan3 a k c):∀(n:Nat) (v x:Int),Ci a k v x->(BU a k n v x).1.length<=n/\∀w∈(BU a k n v x).1,0<=w/\w<=16777216
 |0,v,x,_=>⟨by simp[BU],λw h=>by simp[BU]at h⟩
 |n+1,v,x,h=>by
  have I:=closed E h;have M:=DH E I.1;have J:=Q3e E n _ _ I.1;unfold BU;by_cases q:v<=0
  ·rw[ab q];exact⟨by simp,λw h=>by cases h⟩
  ·rw[aa q];refine⟨by simp only[bj];omega,λw G=> ?_⟩;rcases av.1 G with rfl|G
   ·omega
   ·exact J.2 w G
theorem Qq {a k c:Int} (E:Plan3 a k c) (v x:Int):(AM a k v x).1.length<=4096/\∀w∈(AM a k v x).1,0<=w/\w<=16777216:=by
 unfold AM;split
 ·rename_i h;exact Q3e E 4096 v x h.1
 ·exact⟨by simp,λw h=>by cases h⟩
theorem Za6 {α:Type} (l:List α) (x y:α) (r:List α):(l++x::r).set l.length y=l++y::r:=by
 rw[List.set_append_right _ _ (db _)];simp
theorem Zx5 {sp:List Int} (Y: -1000000000000000<=u/\u<=1000000000000000) (hl:sp.length<=4096) (E:∀v∈sp,0<=v/\v<=16777216):
  Ak (H5 M) [.vC Aa (List.replicate sp.length [I 0]),I u, .vC Aa (sp.map Ao),I sp.length,I 0]=some (1,[.vC Aa ((BN u sp).map Ao)]):=by
 have key:Out (λo=>o=(1,[.vC Aa ((BN u sp).map Ao)])) (Ak (H5 M) [.vC Aa ((BN u (sp.take 0)).map Ao++List.replicate (sp.length-0) [I 0]),I (Ck u (sp.take 0)), .vC Aa (sp.map Ao),I sp.length,I ((0:Nat):Int)]):=by
  refine Co (λi:Nat=>[.vC Aa ((BN u (sp.take i)).map Ao++List.replicate (sp.length-i) [I 0]),I (Ck u (sp.take i)), .vC Aa (sp.map Ao),I sp.length,I (i:Int)]) (λi=>i<=sp.length) (λi=>sp.length-i) _ ?_ 0 (by simp);intro i hi;rw[Qgc];refine .cond (λc=> ?_) λc=> ?_
  ·have c:(i:Int)<(sp.length:Int):=Bi c;have hi:i<sp.length:=by omega
   refine .cond (λ_=> ?_) λe=>(inB (by omega) (by rw[af];exact c) e).elim;refine .cond (λ_=> ?_) λe=>(inB (by omega) (by simp[KZ];omega) e).elim;have J:nth [] (sp.map Ao) (i:Int).toNat=Ao sp[i]:=by
    rw[ak,Gm [] _ i (by rw[af];exact hi),gj]
   have O:=Qss (N:=16777216) u (sp.take i) λv G=>E v (eu G);rw[List.length_take_of_le (by omega)]at O;have G:=E _ (bn hi);have S:sp.take (i+1)=sp.take i++[sp[i]]:=by
    rw[jc,ai hi];rfl
   rw[J];show Out _ (some (0,[AC.vC Aa (((BN u (sp.take i)).map Ao++List.replicate (sp.length-i) [I 0]).set (i:Int).toNat [I (V (Ck u (sp.take i)+sp[i]))]),I (V (Ck u (sp.take i)+sp[i])), .vC Aa (sp.map Ao),I sp.length,I (V ((i:Int)+1))]));rw[Ae (x:=Ck u (sp.take i)+sp[i]),Ae (x:=(i:Int)+1),ak];refine .some (.inl ⟨rfl,i+1,?_,by omega,by omega⟩);have T:((BN u (sp.take i)).map Ao).length=i:=by rw[af,KZ,List.length_take_of_le (by omega)]
   have U:sp.length-i=(sp.length-(i+1))+1:=by omega
   rw[S,Qz8,Qte,U,j0,de];have:=Za6 ((BN u (sp.take i)).map Ao) [I 0] [I (Ck u (sp.take i)+sp[i])] (List.replicate (sp.length-(i+1)) [I 0]);rw[T]at this;rw[this];simp;rfl
  ·have c: ¬(i:Int)<(sp.length:Int):=Bp c;refine .some (.inr ⟨by simp,?_⟩);rw[i8 (by omega),show sp.length-i=0 by omega];simp
 obtain⟨o,X,rfl⟩:=key;exact X
theorem Zsm {a k c v x:Int} (E:M [I a,I k,I c,I v,I x]=some [.vC Aa ((AM a k v x).1.map Ao),B (AM a k v x).2]) (hb:(AM a k v x).1.length<=4096/\∀w∈(AM a k v x).1,0<=w/\w<=16777216)
  {u:Int} (G: -1000000000000000<=u/\u<=1000000000000000) (J N O:Int) (S:(AM a k v x).2=false->(AM a k v x).1=[]):
  PM M (Ak (H5 M)) [I a,I k,I c,I u,I v,I x,I J,I N,I O]=some [.vC Aa ((BN u (AM a k v x).1).map Ao),B (AM a k v x).2]:=by
 rw[Uf];generalize AM a k v x=z at*;refine eB E (eC (λh=> ?_) λh=> ?_)
 ·have h:z.2=false:=by simpa [bA,nth,Dh]using h
  rw[h,S h];rfl
 ·have h:z.2=true:=by simpa [bA,nth,Dh]using h
  refine eT (am rfl) (eT ?_ ?_)
  ·show(decide (0<=((z.1.map Ao).length:Int))&&decide (((z.1.map Ao).length:Int)*8<=140737488355328))=true;rw[af,am (show(0:Int)<=(z.1.length:Int) by omega),am (show(z.1.length:Int)*8<=140737488355328 by omega)];rfl
  ·have T:=Zx5 (M:=M) G hb.1 hb.2;refine cx (ii (λq=>Option.bind q _) (show Ak (H5 M) [.vC Aa (List.replicate ((z.1.map Ao).length:Int).toNat [I 0]),I u, .vC Aa (z.1.map Ao),I (z.1.map Ao).length,I 0]=some (1,[.vC Aa ((BN u z.1).map Ao)])from by rw[af,ak];exact T)) ?_;rw[h];rfl
theorem Zcb {a k c:Int} (E:Plan3 a k c) {u:Int} (N: -1000000000000000<=u/\u<=1000000000000000) (v x G J M:Int):
  Fo [I a,I k,I c,I u,I v,I x,I G,I J,I M]=some [.vC Aa ((BN u (AM a k v x).1).map Ao),B (AM a k v x).2]:=
 Zsm (Zcy E v x) (Qq E v x) N G J M λh=>by
  unfold AM at h⊢;split at h
  ·cases h
  ·rename_i q;rw[aa q]
end Go.Bm
