/- laid together -/
import Derived.Test.YtnnpdlgenmnekaaGreatDoorPrUh
import Derived.Test.YtnnpdlgenmnekaaGreatDoorPrYf
import Derived.Test.YtnnpdlgenmnekaaGreatDoorMx3
import Derived.Test.YtnnpdlgenmnekaaGreatDoorMy1
import Derived.Test.YtnnpdlgenmnekaaGreatDoorPrAtF
set_option linter.unusedVariables false
set_option linter.unusedSimpArgs false
set_option maxRecDepth 100000
variable {K:Go.Bm.Kf} {p:Go.Bm.Pth} {i:Nat} {a k u b v m:Int} {M Z W T P O:Go.Bm.Fn} {d:Go.Bm.Pt} {Q:Int->Go.Bm.Pt->Prop} {N:Go.Bm.Lp}
noncomputable section
open Go.IntKind (wrap)
namespace Go.Bm
open Classical
theorem whl (mk:MarksOK K):0<=A4 K.t K.len/\A4 K.t K.len<=K.t.length/\0<=K.len:=by
 have D:0<=K.len:=dw (mk.fw.rg 0).1 (mk.fw.rg 0).2;have G:=mk.fw.wh _ D (cz _);exact⟨G.1,G.2.1,D⟩
theorem Zs0 {c:Cv} (D:c.o3=false) (G:c.o4=false) {k:Int} (h:Dl k c=true):A0 k=true:=by
 unfold Dl at h;unfold A0;rw[D,G]at h;simpa using h
theorem Qz8 (m:MvF K) (mk:MarksOK K) {c:Cv} (g:Gd K 100 c) (ix:Ix A0 K c) (I:c.o3=false) (L:c.o4=false) (he:B2 K c<=256*A4 K.t K.len):B2 K c<=256*(AS K c).1/\0<=(AS K c).1/\(AS K c).1<=A4 K.t K.len:=by
 obtain⟨w0,U,V⟩:=whl mk;rcases Vn m.k mk g (by omega) (λk M=>Qfp (c:=c) k M) ix.m0 ix.next ix.j with⟨e,-⟩|⟨j,e,N,G,O,-⟩
 ·rw[e];exact⟨he,w0,cz _⟩
 ·have X:=ix.next;have D:=mk.at_ j (by omega) G;have T:=mk.fw.wh _ D.1 D.2;rw[e];exact⟨ix.j j N G (Zs0 I L O),T.1,mk.fw.wmono D.1 D.2 (cz _)⟩
theorem Qf2 (K:Kf) (s:Int):∀(l:List Mrk) (c:Cv),c.aK<=(Ep K s l c).2.aK/\(Ep K s l c).2.aK<=c.aK+l.length
 |[],c=>by simp[Ep]
 |m::l,c=>by
  unfold Ep;split
  ·simp only[bp];omega
  ·split
   ·have:=Qf2 K s l {c with outs:=swI c.outs (itK K m.aU),aK:=c.aK+1};simp only[bp]at this⊢;omega
   ·have:=Qf2 K s l {c with aK:=c.aK+1};simp only[bp]at this⊢;omega
theorem Zlq {c:Cv} (s:Int) (h:0<=c.aK/\c.aK<=K.p.aD.length):0<=(Jf K c s).2.aK/\(Jf K c s).2.aK<=K.p.aD.length:=by
 unfold Jf;split
 ·have hb:=Qf2 K s (K.p.aD.drop c.aK.toNat) c;rw[co]at hb;unfold Cl;omega
 ·exact h
theorem Zn6 (p:Pt):E0 p p:=by unfold E0;omega
theorem Zwr (m:MvF K) (mk:MarksOK K) {d:Cv} (g:Gd K 100 d) (ix:Ix A0 K d) (o:d.o0=100/\d.o1=100/\d.o2=false/\d.o3=false/\d.o4=false) (he:B2 K d<=256*A4 K.t K.len) (D:BL d=true)
  (I: ¬(BL d=true/\d.m0=V ((AS K d).1*256))):1<=nxV K d (AS K d).1:=by
 obtain⟨o0,o1,o2,o3,o4⟩:=o;obtain⟨w0,N,L⟩:=whl mk;obtain⟨O,T,U⟩:=Qz8 m mk g ix o3 o4 he;have ge:=PX m.k d;have X:=ix.m0;have Y:=m.small;have G:V ((AS K d).1*256)=(AS K d).1*256:=Ad;have M:d.m0≠(AS K d).1*256:=λq=>I ⟨D,q.trans G.symm⟩;refine Ztn m.k ?_ D o0 o1 o2 (by omega) ?_ (by rw[G];omega)
 ·intro q;have hlen:K.len=0:=by rw[m.len,q];rfl
  have:A4 K.t K.len<=0:=by
   apply dk;intro c;have h1:=(mk.fw.wh K.len L (cz _)).2.2.2 0 (cz _) (by omega);have h2:=(mk.fw.rg 0).1;omega
  omega
 ·show E0 (CR K.p K.x K.t (d.m0/256)) (CR K.p K.x K.t ((d.m0+1)/256));by_cases q:(d.m0+1)/256=d.m0/256
  ·rw[q];exact Zn6 _
  ·have e:(d.m0+1)/256=d.m0/256+1:=by omega
   rw[e];exact m.close _ (by omega) (by omega)
theorem Zxb {c d:Cv} (s:Rs c d):CH d=CH c:=by
 unfold CH;rw[s.still,s.m1]
theorem Qmz (m:MvF K) (mk:MarksOK K) {c:Cv} (r:Fm K c):
  ((stA K c []).1=7/\(stA K c []).2.1=K/\(stA K c []).2.2.m0=V (A4 K.t K.len*256)/\(stA K c []).2.2.g1=0)\/
  (Jl (stA K c []).1=false/\∃e,Eh K c []=(K,e)/\Fm K e/\mu K e+1<=mu K c):=by
 obtain⟨w0,w1,w2⟩:=whl mk;have sm:=m.small;obtain⟨d,⟨b1,s,b3⟩,d0,d1,d2,d3,d4,d5,-⟩:=Qt5 (K:=K) r.t r.g0;have L:Gd K 100 d:=r.g.same s.way d4 s.on d5 s.m0 s.m1 s.m2;have ee:B2 K d=B2 K c:=Qt7 s.m0 s.m1 s.m2;have M:B2 K d<=256*A4 K.t K.len:=by rw[ee];exact r.e
 have D:Ix A0 K d:=⟨by rw[s.m0];exact r.ix.m0,by rw[s.next];exact r.ix.next,r.ix.j.sub ee (by rw[s.next];omega),λq=>by rw[s.on,r.on]at q;cases q⟩;have a3:d.aM=BL d:=b3.trans s.still.symm;have X:d.o0=100/\d.o1=100/\d.o2=false/\d.o3=false/\d.o4=false:=⟨d0.trans r.o.1,d1.trans r.o.2.1,d2.trans r.o.2.2.1,s.o3.trans r.o.2.2.2.1,s.o4.trans r.o.2.2.2.2⟩;have hr:JN K d=(0,K,d):=by
  unfold JN PI;rw[aa (show¬d.g0=2 by rw[s.g0,r.g0];decide),aa (show¬d.aI≠0 from λq=>q (s.aI.trans r.en)),aa (show¬(d.aH=true/\d.aM=true)from λq=>by rw[s.aH,r.t]at q;cases q.1),aa (show¬d.on=true by rw[s.on,r.on];decide)];rw[aa (by simp),aa (show¬d.way≠0 from λq=>q (s.way.trans r.g.way))]
 have hA:stA K c []=((BP K d).1,K,(BP K d).2):=by
  unfold stA;rw[b1];dsimp only;rw[hr,ab rfl]
 have G:=Q66 m mk L D X.2.2.2.1 (s.y0.trans r.y0) (s.g0.trans r.g0) a3 (s.on.trans r.on);have a4:(BP K d).2.aK=c.aK:=by
  rcases G with⟨-,i,-,-,e⟩|⟨-,-,-,-,-,q,-⟩|⟨-,e⟩
  ·rw[e];exact d4
  ·exact q.trans d4
  ·rw[e];exact d4
 obtain⟨p,q,h6⟩:=Znb (stA K c []).2.1 (stA K c []).2.2 (Bu (stA K c []).2.1 (stA K c []).2.2);have hb:=Zlq (K:=K) (c:=(BP K d).2) (Bu (stA K c []).2.1 (stA K c []).2.2) (by rw[a4];exact r.g.pass);have h7:=h6;rw[hA]at h7 hb;dsimp only at h7 hb;rw[h7]at hb;have e1:Eh K c []=(K,{(BP K d).2 with aK:=p,outs:=q}):=by
  unfold Eh;rw[h6,hA]
 have O:∀e:Cv,Ix A0 K e->Mo K e->e.next<=K.p.aD.length->e.way=0->e.on=false->e.aI=0->e.aH=false->e.g0=0->e.g1=0->(e.o0=100/\e.o1=100/\e.o2=false/\e.o3=false/\e.o4=false)->e.y0= -1->B2 K e<=256*A4 K.t K.len->e.m3=e.m0-e.m1->Fm K {e with aK:=p,outs:=q}:=by
  intro e I mo h1 h2 h3 h4 h5 h7 h8 h9 a5 a6 a7;have ge:=PX m.k e;have i0:=I.m0;exact⟨⟨h2,hb,λq=>(by have q:e.on=true:=q;rw[h3]at q;cases q),mo,show _/\_ by constructor<;>(dsimp only;omega)⟩,⟨I.m0,I.next,I.j,I.task⟩,h1,h3,h4,h5,h7,h8,h9,a5,a6,a7⟩
 rw[hA];dsimp only;rcases G with⟨q1,i,i1,i2,e⟩|⟨q1,q2,q3,q4,-⟩|⟨q1,e⟩
 ·refine .inr ⟨by rw[e];rfl,_,e1,?_,?_⟩
  ·refine O _ ?_ ?_ ?_ ?_ ?_ ?_ ?_ ?_ ?_ ?_ ?_ ?_ ?_;all_goals rw[e]
   ·exact⟨D.m0,by have:=D.next;show 0<=i+1;omega,D.j.sub rfl (by show d.next<=i+1;omega),λq=>by cases q⟩
   ·exact L.mo
   ·show i+1<=_;omega
   ·exact s.way.trans r.g.way
   ·rfl
   ·exact s.aI.trans r.en
   ·exact s.aH.trans r.t
   ·exact s.g0.trans r.g0
   ·exact d3.trans r.g1
   ·exact X
   ·exact s.y0.trans r.y0
   ·exact M
   ·show d.m3=d.m0-d.m1;rw[s.m3,s.m0,s.m1];exact r.l
  ·have ei:CH (dnC d i)=CH c:=(show CH (dnC d i)=CH d from rfl).trans (Zxb s);rw[e];unfold mu;show 3*(256*A4 K.t K.len-d.m0)+(2-CH (dnC d i))+((K.p.aD.length:Int)-(i+1))+1<=_;rw[ei,s.m0];rw[s.next]at i1;omega
 ·exact .inl ⟨q1,rfl,q3.trans q2,q4.trans (d3.trans r.g1)⟩
 ·obtain⟨v,hv⟩:∃v,v=nxV K d (AS K d).1:=⟨_,rfl⟩;have vb:=E5 m.k.plan (HT.1 (Qsa m.k L.mo (Qiz m.k L (AS K d).1).2)).1;rw[<-hv]at vb;have h0:=r.ix.m0;have b6:=PX m.k c;have b7:=r.e;have a8:V (d.m0+v)=c.m0+v:=by rw[s.m0];exact Ad
  have N:(Ej K d (AS K d).1).m0=c.m0+v:=by show V (d.m0+nxV K d (AS K d).1)=_;rw[<-hv];exact a8
  have T:(Ej K d (AS K d).1).m1=v:=hv.symm;have a9:(Ej K d (AS K d).1).m2=v-c.m1:=by
   show V (nxV K d (AS K d).1-d.m1)=_;have b8:=E5 m.k.plan (r.g.mo.ready);rw[<-hv,s.m1];exact Ad
  have a0:(Ej K d (AS K d).1).m3=c.m0:=s.m0;have b0:(Ej K d (AS K d).1).m4=c.m3:=s.m3;have Y:=Zda m.k L (by omega) (AS K d).1;obtain⟨l1,l2,l3⟩:=Qz8 m mk L D X.2.2.2.1 X.2.2.2.2 M;have a1:B2 K (Ej K d (AS K d).1)<=256*A4 K.t K.len:=by
   rcases Y with Y|Y
   ·rw[Ad]at Y;omega
   ·rw[Y];exact M
  refine .inr ⟨by rw[e];rfl,_,e1,?_,?_⟩
  ·refine O _ ?_ ?_ ?_ ?_ ?_ ?_ ?_ ?_ ?_ ?_ ?_ ?_ ?_;all_goals rw[e]
   ·exact⟨by show 0<=(Ej K d (AS K d).1).m0;omega,D.next,Jm.bC m.k mk L (by omega) (λk ha=>Qfp (c:=d) k ha) D.m0 D.next D.j Y rfl,λq=>by have q:d.on=true:=q;rw[s.on,r.on]at q;cases q⟩
   ·exact(Qus m.k L (by omega) _).mo
   ·show d.next<=_;rw[s.next];exact r.nx
   ·exact s.way.trans r.g.way
   ·exact s.on.trans r.on
   ·exact s.aI.trans r.en
   ·exact s.aH.trans r.t
   ·exact s.g0.trans r.g0
   ·exact d3.trans r.g1
   ·exact X
   ·exact s.y0.trans r.y0
   ·exact a1
   ·dsimp only;rw[a0,N,T];omega
  ·rw[e];have en:(Ej K d (AS K d).1).next=c.next:=s.next
   generalize hE:Ej K d (AS K d).1=E at*;have hi:CH ({E with aK:=p,outs:=q}:Cv)=CH E:=rfl;have ib:=Vk E;have ic:=Vk c;show 3*(256*A4 K.t K.len-E.m0)+(2-CH ({E with aK:=p,outs:=q}:Cv))+((K.p.aD.length:Int)-E.next)+1<=mu K c;unfold mu;rw[hi,N,en];by_cases U:1<=v
   ·omega
   ·have U:v=0:=by omega
    have b2:BL c≠true:=λb4=>by
     have:=Zwr m mk L D X M (s.still.trans b4) q1;omega
    have e2:CH c=if c.m1=0 then 1 else 0:=by unfold CH;rw[aa b2]
    by_cases a2:c.m1=0
    ·have b5:BL E=true:=Q24.2 ⟨T.trans U,by rw[a9];omega,by rw[a0,N];omega,by rw[b0,N,r.l];omega⟩;have e3:CH E=2:=by unfold CH;rw[ab b5]
     rw[ab a2]at e2;omega
    ·have e3:1<=CH E:=by
      unfold CH;split
      ·omega
      ·rw[ab (T.trans U)];omega
     rw[aa a2]at e2;omega
structure FinT (K : Kf) (t : List AC) : Prop where
 mode:gA t 2=7
 s:gA t 3=K.len
 x:gA t 4=(CR K.p K.x K.t (A4 K.t K.len)).x
 y:gA t 5=(CR K.p K.x K.t (A4 K.t K.len)).y
 z:gA t 6=(CR K.p K.x K.t (A4 K.t K.len)).z
 f:gA t 8=0
theorem Qv2 {K:Kf} (m:MvF K) (mk:MarksOK K) {E:List Evn} (M:∀k:Nat,atE E k=[]):∀(n k:Nat) (c:Cv),Fm K c->mu K c+1<=n->∃l t,Hg E n k K c=l++[t]/\FinT K t
 |0,k,c,r,h=>by have:=Q42 m.k r;omega
 |n+1,k,c,r,h=>by
  obtain⟨w0,Y,T⟩:=whl mk;have sm:=m.small;unfold Hg;rw[M k];rcases Qmz m mk r with⟨D,G,I,N⟩|⟨D,e,G,I,N⟩
  ·have he:Jl (stA K c []).1=true:=by rw[D];rfl
   rw[ab he];refine⟨[],tkA K c [],rfl,?_⟩;have O:Bk (stA K c []).2.2=A4 K.t K.len:=by
    show V ((stA K c []).2.2.m0.tdiv 256)=_;rw[I,Ad (x:=A4 K.t K.len*256),bm (by omega),Int.mul_ediv_cancel _ (by decide),Ad]
   have L:H_ (stA K c []).2.1 (stA K c []).2.2=CR K.p K.x K.t (A4 K.t K.len):=by
    rw[G];show CR K.p K.x K.t (Bk (stA K c []).2.2)=_;rw[O]
   refine⟨D,?_,?_,?_,?_,N⟩
   ·show Bu (stA K c []).2.1 (stA K c []).2.2=K.len;rw[G];show AV K.t (Bk (stA K c []).2.2)=K.len;rw[O];exact(mk.fw.wh _ T (cz _)).2.2.1
   ·show(H_ (stA K c []).2.1 (stA K c []).2.2).x=_;rw[L]
   ·show(H_ (stA K c []).2.1 (stA K c []).2.2).y=_;rw[L]
   ·show(H_ (stA K c []).2.1 (stA K c []).2.2).z=_;rw[L]
  ·rw[D,aa (by simp),G];obtain⟨l,t,U,X⟩:=Qv2 m mk M n (k+1) e I (by omega);exact⟨tkA K c []::l,t,by rw[U];rfl,X⟩
theorem fm0 (m:MvF K) (mk:MarksOK K):Fm K BT:=by
 obtain⟨w0,D,G⟩:=whl mk;have e0:B2 K BT=0:=Zl8 m.k rfl rfl rfl;have g:Gd K 100 BT:=⟨rfl,⟨cz _,by show(0:Int)<=_;omega⟩,λq=>(by cases q),(gdK m.k).mo,by constructor<;>decide⟩;exact⟨g,ix0 m.k mk,by show(0:Int)<=_;omega,rfl,rfl,rfl,rfl,rfl,⟨rfl,rfl,rfl,rfl,rfl⟩,rfl,by rw[e0];omega,rfl⟩
theorem Zkz (m:MvF K) (mk:MarksOK K) {n:Nat} (D:768*K.t.length+K.p.aD.length+1<=n):∃l t,Hg [] n 0 K BT=l++[t]/\FinT K t:=by
 obtain⟨w0,G,I⟩:=whl mk;refine Qv2 m mk (λk=>rfl) n 0 BT (fm0 m mk) ?_;have e:CH BT=2:=by unfold CH;rw[ab (show BL BT=true from rfl)]
 unfold mu;rw[e];show 3*(256*A4 K.t K.len-0)+(2-2)+((K.p.aD.length:Int)-0)+1<=_;omega
theorem Z2c (l:List Pce) (c:Pce):AZ (l++[c])=c:=by unfold AZ;simp
theorem Ztm {l:List Pce} (h:l≠[]) (c:Pce):AZ (l.set (l.length-1) c)=c:=by
 have D:0<l.length:=fv.2 h;unfold AZ;rw[List.length_set,List.getD,List.getElem?_set_self (by omega)];rfl
def NU (mv:Int) (t:Trk):Prop:=t.aE≠[]->(AZ t.aE).bC=mv
theorem Zj0 (t:Trk) (c:Pce):(DF t c).aE≠[]/\(AZ (DF t c).aE).bC=c.bC:=by
 unfold DF;by_cases g:t.aE≠[]/\c.bC≠0/\(AZ t.aE).bC=c.bC/\(AZ t.aE).aT=c.aT
 ·rw[ab g];refine⟨λq=>g.1 ?_,?_⟩
  ·have q:t.aE.set _ _=[]:=q;have:=iz List.length q;rw[List.length_set]at this;exact jl.1 this
  ·show(AZ (t.aE.set _ _)).bC=_;rw[Ztm g.1];exact g.2.2.1
 ·rw[aa g];refine⟨by simp,?_⟩;show(AZ (t.aE++_)).bC=_;rw[Z2c]
theorem Zb7 {x:Ax3} {s:Trk×Pt} (h:NU a s.1):NU a (Fu p x a k u i s).1:=by
 unfold Fu;split
 ·intro _;unfold Ch;exact(Zj0 _ _).2
 ·exact h
theorem Q8z {p:Pth} {x:Ax3} {mv lo D:Int} {s:Trk×Pt} (h:NU mv s.1):∀j,NU mv (BS p x mv lo D s j).1
 |0=>h
 |j+1=>Zb7 (Q8z h j)
theorem Zts {x:Ax3} (D:GoodPath p) (M:0<=m/\m<=As p.aF):NU 1 (Bz p x d 0 m):=by
 have G:Bb 0 (As p.aF)=0:=by have:=Md D;unfold Bb;omega
 have I:Bb m (As p.aF)=m:=by unfold Bb;omega
 have L:NU 1 (⟨[],0,Bb 0 (As p.aF),d⟩:Trk):=λq=>absurd rfl q;unfold Bz;simp only;rw[aa (by rw[G,I];omega)];exact Q8z (s:=(⟨[],0,Bb 0 (As p.aF),d⟩,d)) L p.aF.length
theorem Zv4 {x:Ax3} {a s:Int} {l:List Pce} (h:chain x k Q a s d l) (D:l≠[]):plL l a=s:=by
 obtain⟨c,l,rfl⟩:=List.exists_cons_of_ne_nil D;obtain⟨g1,g2,G,-⟩:=h;unfold plL;rw[ab,g1,g2];simp
theorem Z61 (c:Pce) {l:List Pce} (h:l≠[]):AZ (c::l)=AZ l:=by
 have D:0<l.length:=fv.2 h;unfold AZ;rw[bp,show l.length+1-1=(l.length-1)+1 by omega];rfl
theorem Qsn {x:Ax3} {Q:Int->Pt->Prop}:∀{a s:Int} {d:Pt} {l:List Pce},chain x 1 Q a s d l->l≠[]->(AZ l).bC=1->plL l (BJ a l-1)=CK s l-1
 |_,_,_,[],_,h,_=>absurd rfl h
 |a,s,d,c::l,h,_,D=>by
  obtain⟨g1,g2,N,O,I⟩:=h;by_cases G:l=[]
  ·subst G;have D:c.bC=1:=D;unfold plL;rw[ab (by show a+c.aR-1<=_;omega)];show c.s+c.bC*(a+c.aR-1-c.at_)=s+c.bC*c.aR-1;rw[D,g2];omega
  ·rw[Z61 c G]at D;have L:=Qsn I G D;have gt:=YP I;have T:0<l.length:=fv.2 G;show plL (c::l) (BJ (a+c.aR) l-1)=CK (s+c.bC*c.aR) l-1;have M:∀u:Int,plL (c::l) u=if u<=c.at_+c.aR then c.s+c.bC*(u-c.at_)else plL l u:=λu=>by rw[plL]
   rw[<-L,M];by_cases q:BJ (a+c.aR) l-1<=c.at_+c.aR
   ·rw[ab q];have e:BJ (a+c.aR) l-1=a+c.aR:=by omega
    rw[e,Zv4 I G,g1,g2];congr 2;omega
   ·rw[aa q]
theorem Z0k {x:Ax3} (I:Ax3OK x) (G:GoodPath p):A4 (Bz p x d 0 (As p.aF)) (As p.aF)=(Bz p x d 0 (As p.aF)).length:=by
 have N:=Md G;have fw:=Q43 (d:=d) I G;obtain⟨d',O,V,-⟩:=QR (d:=d) (a:=0) (b:=As p.aF) (Q:=λ_ _=>True) I G (λ_ _ _ _ _ _ _ _=>trivial);have X:=WK d 0 (As p.aF) I G;have Y:=Zts (x:=x) (d:=d) G ⟨N.1,cz _⟩;have T:Bb 0 (As p.aF)=0:=by unfold Bb;omega
 have U:Bb (As p.aF) (As p.aF)=As p.aF:=by unfold Bb;omega
 have L:mvP p 0 (As p.aF)=1:=by unfold mvP;rw[T,U,aa]
 rw[L,U]at O;rw[T]at V;have hw:=fw.wh _ N.1 (cz _);generalize Bz p x d 0 (As p.aF)=t at*;obtain⟨ch,M,hs,-⟩:=O;by_cases D:t.aE=[]
 ·have a0:t.length=0:=by rw[D]at M;exact M.symm
  omega
 ·have pr:=Qsn ch D (Y D);rw[hs,M]at pr;have gt:=YP ch;have G:0<t.aE.length:=fv.2 D;have e1:AV t (t.length-1)=As p.aF-1:=by
   rw[KN X _ D,<-pr];congr 1;unfold clT Bb;omega
  apply dk;intro q;have:=fw.up (A4 t (As p.aF)) (t.length-1) (by omega);omega
abbrev BK:Itm:={it0 with aP:=10}
theorem U5:Oth BK:=⟨by decide,λh=>(by cases h),λh=>(by cases h),λ_=>by decide⟩
theorem Q6r {aA:List Itm} (h:∀it∈aA,¬syI it):∀i:Nat,i<=aA.length->∀g∈(At aA i).aF,g.aX=0
 |0,_,g,D=>by cases D
 |i+1,L,g,D=>by
  obtain⟨l,e,G⟩:=Zla aA i;rw[e]at D;rcases be.1 D with q|q
  ·exact Q6r h i (by omega) g q
  ·rw[(G g q).2.1];have I:=h (vE aA i) (by unfold vE;rw[List.getD,ag (by omega)];exact ca _);unfold HO;rw[aa I]
theorem Xx {l:List Itm} (h:Motions 40004 d l):Items 40004 d (l++[BK,Bx]):=by
 have e:l++[BK,Bx]=(l++[BK])++[Bx]:=by simp
 rw[e];exact Qtj (Qtj (Zih h) (λq=>absurd q (H9 U5)) (.inr U5)) (λq=>absurd q (H9 R_)) (.inr R_)
theorem Zxt {x:Ax3} (D:GoodPath p) (G:Ax3M x) {a b:Int}:∀u,0<=u->u<(Bz p x ⟨1,1,1⟩ a b).length->E0 (CR p x (Bz p x ⟨1,1,1⟩ a b) u) (CR p x (Bz p x ⟨1,1,1⟩ a b) (u+1)):=by
 have M:okD (⟨1,1,1⟩:Pt):=⟨.inl rfl, .inl rfl, .inl rfl⟩;have N:=Qvu ⟨1,1,1⟩ a b G.ok D;obtain⟨U,O,-,I⟩:=QR (d:=⟨1,1,1⟩) (a:=a) (b:=b) (Q:=λ_ _=>True) G.ok D (λ_ _ _ _ _ _ _ _=>trivial);have T:=Z4n (p:=p) (x:=x) (a:=a) (b:=b) (d:=⟨1,1,1⟩) M;have L:okD (Bz p x ⟨1,1,1⟩ a b).aT:=by rw[I];exact M
 exact λu g1 g2=>Zl2 D G (Q7o p a b) O N.q L T ⟨g1,g2⟩
theorem Zy8 {x:Ax3} (T:MachOK x a k u b v) {p:Pt} {l:List Itm} (hl:l.length<=3) (hm:Motions 40004 p l) (hk:∀it∈l,it.aP<=3)
  (hs:(Bz (AF (l++[BK,Bx])) x ⟨1,1,1⟩ 0 (As (AF (l++[BK,Bx])).aF)).length<=2000000):
  MvF (kfP x a k u b v (l++[BK,Bx]) true)/\MarksOK (kfP x a k u b v (l++[BK,Bx]) true)/\
   IT (AG x++[I a,I k,I u,I b,I v]++[.vC Ai ((l++[BK,Bx]).map Af),B true])=some (I 0::Ae (kfP x a k u b v (l++[BK,Bx]) true) BT):=by
 have L:=Xx hm;have a2:(l++[BK,Bx]).length=l.length+2:=by simp
 have M:∀it∈l++[BK,Bx],it.aP<=3\/it=BK\/it=Bx:=λit D=>by
  simp only[be,av,kh,or_false]at D;rcases D with D|D|D
  ·exact .inl (hk it D)
  ·exact .inr (.inl D)
  ·exact .inr (.inr D)
 have U:vE (l++[BK,Bx]) l.length=BK:=by unfold vE;simp[List.getD]
 have V:vE (l++[BK,Bx]) (l.length+1)=Bx:=by
  unfold vE;rw[List.getD,gw (by omega),show l.length+1-l.length=1 by omega];rfl
 have X:∀{j:Nat},j<l.length->AA (vE (l++[BK,Bx]) j):=fun{j} G=>by
  have e:vE (l++[BK,Bx]) j=l[j]:=by
   unfold vE;rw[List.getD,ij G,ag G];rfl
  rw[e];have:=hm.made _ (ca G);exact⟨by have:=this.1.aP;omega,by have:=this.2.2.1;omega⟩
 generalize hI:l++[BK,Bx]=aA at*;have Y:=T0 (by omega) L (show aA.length<=20000 by omega);have hr:=(JF Y).2;have hg:=M0 (by omega) Y;have N:∀{j:Nat},j<aA.length->vE aA j∈aA:=fun{j} G=>by
  unfold vE;rw[List.getD,ag G];exact ca _
 have hn := Q8o T (aA := aA) (by omega) Y (λj G a0 q hq => by
  rcases L.made _ (N G)with this|this
  ·exact AR (Z6c this.2.1 this.2.2.2.1 this.2.2.2.2 q hq) (by unfold B24;omega)
  ·exact absurd a0 (H9 this)) (λit D q=>by
  rcases M it D with h|h|h
  ·omega
  ·rw[h]at q;cases q
  ·rw[h]at q;cases q) true
 have mk:=Q89 (pa:=a) (pb:=k) (pc:=u) (bF:=b) (lag:=v) T.x.ok hg hr;refine⟨⟨hn.2,rfl,rfl,?_,?_,Zxt hg T.x,hs⟩,mk,hn.1⟩
 ·refine λg gm=>Q6r (λit D q=> ?_) aA.length (cm _) g gm;rcases M it D with h|h|h
  ·unfold syI at q;omega
  ·rw[h]at q;rcases q with q|q<;>cases q
  ·rw[h]at q;rcases q with q|q<;>cases q
 ·intro i i0 i1;have i1:i<aA.length:=by
   have e:=Qnq aA;have i1:i<((AF aA).aD.length:Int):=i1;omega
  rw[SN (K:=kfP x a k u b v aA true) (aA:=aA) rfl i0 i1];by_cases c1:i.toNat<l.length
  ·have O:=X c1;have ks:=Zii aA i.toNat;have e:(mkA aA i.toNat).aP=Iw aA i.toNat:=by unfold mkA;dsimp only;rw[ab O]
   rw[e];exact⟨by omega,λq=>by omega⟩
  ·by_cases c2:i.toNat=l.length
   ·have e:(mkA aA i.toNat).aP=5:=by
     unfold mkA;dsimp only;rw[c2,U,aa (H9 U5)];rfl
    rw[e];exact⟨by decide,λq=>by cases q⟩
   ·have c3:i.toNat=l.length+1:=by omega
    have e:(mkA aA i.toNat).aP=3:=by
     unfold mkA;dsimp only;rw[c3,V,aa (H9 R_)];rfl
    rw[e];refine⟨by decide,λ_=>⟨?_,?_⟩⟩
    ·have a1:aA[l.length+1]? =some Bx:=by
      rw[<-hI,gw (by omega),show l.length+1-l.length=1 by omega];rfl
     show(aA.getD ((i.toNat:Nat):Int).toNat Qvx).aP=14;rw[af,c3,List.getD,a1];rfl
    ·have hb:=Qb (Ia hr aA.length (cm _));show(At aA (i.toNat+1)).len=As (AF aA).aF;rw[Oq];dsimp only;rw[<-hb,c3,show l.length+1+1=aA.length by omega]
theorem Qz9 (t:Trk) (c:Pce):(DF t c).length=t.length+c.aR:=by
 unfold DF;split<;>rfl
theorem Zz8 {x:Ax3} {B:Int} (h:0<=B/\x.a.bB<=B/\x.b.bB<=B/\x.c.bB<=B) (a b:Pt):Cg x a b<=B:=by
 obtain⟨D,G,I,L⟩:=h;unfold Cg slk
 (repeat' split)<;>omega
theorem Ziy {x:Ax3} {B:Int} (h:0<=B/\x.a.bB<=B/\x.b.bB<=B/\x.c.bB<=B) {mv:Int} {a b:Pt} {s aR:Int} {st:Trk×Pt}:(Ch x mv a b s aR st).1.length<=st.1.length+B+aR:=by
 have:=Zz8 h st.2 (Du st.2 a b mv);unfold Ch;dsimp only;rw[Qz9];split
 ·rw[Qz9];dsimp only;omega
 ·dsimp only;omega
theorem Qsv {p:Pth} {x:Ax3} {B:Int} (h:0<=B/\x.a.bB<=B/\x.b.bB<=B/\x.c.bB<=B) (D:SegOK p.aF) {s:Trk×Pt}:∀j:Nat,j<=p.aF.length->(BS p x 1 0 (As p.aF) s j).1.length<=s.1.length+AD p.aF j+B*j
 |0,_=>by
  show s.1.length<=_;rw[QB];simp
 |j+1,I=>by
  have L:=Qsv (s:=s) h D j (by omega);have e:=NL (show j<p.aF.length by omega);have M:=D.seg _ (Gp (show j<p.aF.length by omega));have N:=Un D j (by omega);have e2:B*((j+1:Nat):Int)=B*j+B:=by
   have:((j+1:Nat):Int)=(j:Int)+1:=by omega
   rw[this,jo,Int.mul_one]
  have G:Dr p.aF.length 1 j=j:=by unfold Dr;rw[aa]
  rw[e2];show(Fu p x 1 0 (As p.aF) (Dr p.aF.length 1 j) (BS p x 1 0 (As p.aF) s j)).1.length<=_;rw[G];unfold Fu;split
  ·have v:=Ziy h (mv:=1) (a:=Ez p.aQ p.aF j) (b:=(sgA p.aF j).to) (s:=if(1:Int)<0 then min (AD p.aF (j+1)) (As p.aF)else max (AD p.aF j) 0) (aR:=min (AD p.aF (j+1)) (As p.aF)-max (AD p.aF j) 0) (st:=BS p x 1 0 (As p.aF) s j);omega
  ·omega
theorem Q3y {x:Ax3} {B:Int} (h:0<=B/\x.a.bB<=B/\x.b.bB<=B/\x.c.bB<=B) (D:GoodPath p):(Bz p x d 0 (As p.aF)).length<=As p.aF+B*p.aF.length:=by
 have L:=Md D;have G:Bb 0 (As p.aF)=0:=by unfold Bb;omega
 have I:Bb (As p.aF) (As p.aF)=As p.aF:=by unfold Bb;omega
 have:=Qsv h D.ok (s:=(⟨[],0,0,d⟩,d)) p.aF.length (cm _);rw[Qkg]at this;unfold Bz;simp only;rw[G,I,aa,show min 0 (As p.aF)=0 by omega,show max 0 (As p.aF)=As p.aF by omega];dsimp only at this;omega
def LV (aA:List Itm):Nat->Int
 |0=>0
 |i+1=>if AA (vE aA i)then LV aA i+1 else LV aA i
theorem Q3n {aA:List Itm} {p0:Pt} (G:ED p0 aA) (D:∀j<aA.length,AA (vE aA j)->MotL (vE aA j)):∀i,i<=aA.length->LInv aA p0 i (LV aA i) (At aA i)
 |0,_=>⟨λh=>(by cases h),λ_=>⟨rfl,rfl⟩,by show(0:Int)<=114108*0;omega,by show(0:Int)<=257*0;omega⟩
 |i+1,I=>Zhh G D (by omega) (Q3n G D i (by omega))
theorem Q39 {aA:List Itm} {m:Nat} (h:∀j,m<=j-> ¬AA (vE aA j)):∀i:Nat,LV aA i<=m/\LV aA i<=i
 |0=>by unfold LV;omega
 |i+1=>by
  have D:=Q39 h i;unfold LV;by_cases c:AA (vE aA i)
  ·rw[ab c];have:i<m:=by
    apply dk;intro q;exact h i (by omega) c
   omega
  ·rw[aa c];omega
theorem Z4e {it:Itm} (h:Made it) (D:bd 40004 it.fr) (G:bd 40004 it.to):MotL it:=
 ⟨Qlt h (AR D (by omega)) (AR G (by omega)),AR D (by omega),AR G (by omega),h.line,h.arc⟩
theorem Zss {x:Ax3} (I:Ax3M x) {p:Pt} {l:List Itm} (hl:l.length<=3) (V:Motions 40004 p l):(Bz (AF (l++[BK,Bx])) x ⟨1,1,1⟩ 0 (As (AF (l++[BK,Bx])).aF)).length<=346950:=by
 have D:=Xx V;have X:(l++[BK,Bx]).length=l.length+2:=by simp
 have L:∀j,l.length<=j-> ¬AA (vE (l++[BK,Bx]) j):=λj T=>by
  by_cases c:j=l.length
  ·rw[c];have:vE (l++[BK,Bx]) l.length=BK:=by unfold vE;simp[List.getD]
   rw[this];exact H9 U5
  ·by_cases Y:j=l.length+1
   ·rw[Y];have:vE (l++[BK,Bx]) (l.length+1)=Bx:=by
     unfold vE;rw[List.getD,gw (by omega),show l.length+1-l.length=1 by omega];rfl
    rw[this];exact H9 R_
   ·have:vE (l++[BK,Bx]) j=it0:=by
     unfold vE;rw[List.getD,List.getElem?_eq_none (by omega)];rfl
    rw[this];exact λq=>by have:=q.1;exact absurd this (by decide)
 generalize l++[BK,Bx]=aA at*;have U:=T0 (by omega) D (show aA.length<=20000 by omega);have hr:=(JF U).2;have hg:=M0 (by omega) U;have G:∀j<aA.length,AA (vE aA j)->MotL (vE aA j):=λj T M=>by
  rcases D.made _ (Qoq T)with q|q
  ·exact Z4e q.2.1 q.2.2.2.1 q.2.2.2.2
  ·exact absurd M (H9 q)
 have hb:=Q3n D.link G aA.length (cm _);have hn:=Q39 L aA.length;have h1:=hb.len;have h2:=hb.cnt;have hs:As (AF aA).aF=(At aA aA.length).len:=by
  have:=Qb (Ia hr aA.length (cm _));rw[Oq];exact this.symm
 have N:(AF aA).aF.length=(At aA aA.length).aF.length:=by rw[Oq]
 have O:=Q3y (x:=x) (d:=⟨1,1,1⟩) (B:=6) ⟨by omega,I.a.bB.2,I.b.bB.2,I.c.bB.2⟩ hg;rw[N]at O;omega
end Go.Bm
namespace Go.Bm
theorem Zl3 {c d:Cv} {b:Bool} (h:(vF K c).aX=0) (D:O (Ae K c)=some (AB (vF K c)++[B b])) (G:P (I a::Ae K c)=some (Ae K d)):Zt M Z W T P O (I a::Ae K c)=some (Ae K d):=by
 rw[Zf2];exact eB D (eT (show((vF K c).aX==0)=true from beT h) (eB G rfl))
theorem Z0d (h:∀g∈K.p.aF,g.aX=0) (c:Cv):(vF K c).aX=0:=by
 unfold vF;cases e:Ga K c with
 |none=>rfl
 |some g=>exact h g (VW e)
theorem Z8p {c:Cv} (h:c.on=false):LI (Ae K c)=some (I 0::B false::Ae K c):=by
 show Ql5 _ _=_;rw[Zqp];exact eT (by rw[h];rfl) rfl
theorem Z33 {O T D G L M MU MS U V X Y:Fn} {c:Cv} (frm:Int) (hU:MU (Ae K c)=some (I 0::B false::Ae K c)) (hO:M (Ae K c)=some (I 0::B false::Ae K c)) (hP:L (Ae K c)=some (I 0::B false::Ae K c))
  (hB:G (Ae K c)=some (I 0::B false::Ae K c)) (hG:D (Ae K c)=some (I 0::B false::Ae K c)):
  Am (Ka O T D G L M MU MS U V X Y N) (F0 K frm 0 c)=some (1,X_ K frm 0 c):=by
 have e:=λi=>Zzn O T D G L M MU MS U V X Y N frm 5 i [] [] 0 0 0 0 0 0 0 [] [] 0 0 0 0 0 0 0 K c;have s0:Ka O T D G L M MU MS U V X Y N (F0 K frm 0 c)=some (0,F0 K frm 1 c):=dp (e 0) (eT rfl (eT rfl (eB hU rfl)));have s1:Ka O T D G L M MU MS U V X Y N (F0 K frm 1 c)=some (0,F0 K frm 2 c):=dp (e 1) (eT rfl (eF rfl (eT rfl (eB hO rfl))));have s2:Ka O T D G L M MU MS U V X Y N (F0 K frm 2 c)=some (0,F0 K frm 3 c):=dp (e 2) (eT rfl (eF rfl (eF rfl (eT rfl (eB hP rfl)))));have s3:Ka O T D G L M MU MS U V X Y N (F0 K frm 3 c)=some (0,F0 K frm 4 c):=dp (e 3) (eT rfl (eF rfl (eF rfl (eF rfl (eT rfl (eB hB rfl))))));have s4:Ka O T D G L M MU MS U V X Y N (F0 K frm 4 c)=some (0,F0 K frm 5 c):=dp (e 4) (eT rfl (eF rfl (eF rfl (eF rfl (eF rfl (eT rfl (eB hG rfl)))))));rw[BB s0,BB s1,BB s2,BB s3,BB s4];exact Bn (dp (e 5) (eF rfl rfl)) (by simp)
theorem Z1y {d:Cv} {o:Nat×List AC} (G:∃e,o.2=Ht++Ae K e) (L:N (F0 K a 0 d)=some (1,X_ K a 0 d)) {w:Int×Cv} (T:M (Ae K d)=some (I w.1::Ae K w.2))
  {D outs:Rw} {pos sp O:Int} {mt:Pt} {q:Cv} (U:Z (I a::(Ae K w.2++[.vC kPt [], .vC Aa [],I w.1,I 0,I 0,I 0,I 0,I 0,I 0]))=some (Ae K q++La D outs w.1 pos mt sp O)):
  IG N o M Z (I a) (Ae K d)=some (La D outs w.1 pos mt sp O++Ae K q):=by
 obtain⟨o1,o2⟩:=o;obtain⟨e,G⟩:=G;dsimp only at G;subst G;exact eB L (eT rfl (eT rfl (eB T (eB U rfl))))
end Go.Bm
namespace Go.Bm
open Classical
theorem Z0b {c:Cv} (h:KOK K) (L:0<=c.idx) (N:c.idx<K.p.aD.length) (O:c.aN=false) (D:(mkK K c.idx).aP=3->(itK K (mkK K c.idx).aU).aP=14)
  (T:W (Ae K (MJ c))=some (I 3::Ae K (OV (MJ c)))):V0 M Z W (Ae K c)=some (I (Ir K c).1::Ae K (Ir K c).2):=by
 have G:=Rc h L N;have U:(MJ c).idx=c.idx:=rfl;rw[Zr5];unfold Ir Qak;rw[aa (show¬(MJ c).aN=true by rw[show(MJ c).aN=false from O];simp)];refine eF O (eT (inM (f:=Av) L N) ?_);rw[Nw L N,U];by_cases b:(mkK K c.idx).aP=3
 ·have D:=D b;rw[aa (λq=>q b)];refine eF (bnF (show gA (Av (mkK K c.idx)) 1=3 from b)) (eT (inM (f:=Af) (l:=K.aA) (i:=(mkK K c.idx).aU) G.1 G.2.1) ?_);have V:nth [] (K.aA.map Af) (gA (Av (mkK K c.idx)) 2).toNat=Af (itK K (mkK K c.idx).aU):=Rg G.1 G.2.1;rw[V];generalize itK K (mkK K c.idx).aU=it at*;rw[aa,aa,ab D];refine eF (beF (show gA (Af it) 0≠7 from λq=> ?_)) (eF (beF (show gA (Af it) 0≠8 from λq=> ?_)) (eT (beT (show gA (Af it) 0=14 from D)) rfl))
  ·have q:it.aP=7:=q;omega
  ·have q:it.aP=8:=q;omega
 ·rw[ab b];exact eT (bnT (show gA (Av (mkK K c.idx)) 1≠3 from b)) (eB T rfl)
theorem Z6l (m:MvF K) {d:Cv} (G:d.o3=false) {i:Int} (I:0<=i) (L:i<K.p.aD.length):Eg K d i=false:=by
 obtain⟨M,N⟩:=m.aP i I L;unfold Eg;by_cases q:(mkK K i).aP=1\/(mkK K i).aP=2\/(mkK K i).aP=6
 ·rw[ab q];exact G
 ·rw[aa q,aa M];by_cases D:(mkK K i).aP=3
  ·rw[ab D,(N D).1];rfl
  ·rw[aa D]
theorem Z25 (m:MvF K) {d:Cv} (L:d.o3=false) {i:Int} (D:0<=i) (G:i<K.p.aD.length):Pr (I i::Ae K d)=some (I (E7 K d i).1::Ae K (E7 K d i).2):=
 Zz6 m.k D G (Z0b m.k D G (Z6l m L D G) (λq=>((m.aP i D G).2 q).1) (dp (Ztb K _) rfl))
theorem Zuw (m:MvF K) {n:Int} {d:Cv} (g:Gd K n d) (l:Int):PD (I l::Ae K d)=some (Ae K (LA K d l)):=by
 have D:=Z0d m.aX d;have e:LA K d l=Ej K d l:=by unfold LA;rw[ab (.inl D)]
 rw[e];exact Zl3 D (Q72 m.k d) (Zty m.k g l)
theorem Zjz (m:MvF K) (mk:MarksOK K) {c:Cv} (r:Fm K c):JY (.vC kPt (([]:List Evn).map evR)::Ae K c)=some (tkA K c []++Ae (Eh K c []).1 (Eh K c []).2):=by
 obtain⟨d,⟨b1,s,b3⟩,d0,d1,d2,d3,d4,d5,T⟩:=Qt5 (K:=K) r.t r.g0;have D:Gd K 100 d:=r.g.same s.way d4 s.on d5 s.m0 s.m1 s.m2;have ee:B2 K d=B2 K c:=Qt7 s.m0 s.m1 s.m2;have U:Ix A0 K d:=⟨by rw[s.m0];exact r.ix.m0,by rw[s.next];exact r.ix.next,r.ix.j.sub ee (by rw[s.next];omega),λq=>by rw[s.on,r.on]at q;cases q⟩;have V:d.aM=BL d:=b3.trans s.still.symm;have M:d.o3=false:=s.o3.trans r.o.2.2.2.1;have hr:JN K d=(0,K,d):=by
  unfold JN PI;rw[aa (show¬d.g0=2 by rw[s.g0,r.g0];decide),aa (show¬d.aI≠0 from λq=>q (s.aI.trans r.en)),aa (show¬(d.aH=true/\d.aM=true)from λq=>by rw[s.aH,r.t]at q;cases q.1),aa (show¬d.on=true by rw[s.on,r.on];decide)];rw[aa (by simp),aa (show¬d.way≠0 from λq=>q (s.way.trans r.g.way))]
 have hA:stA K c []=((BP K d).1,K,(BP K d).2):=by
  unfold stA;rw[b1];dsimp only;rw[hr,ab rfl]
 have G:Gd K 101 (BP K d).2/\(BP K d).2.aL=false:=by
  rcases Q66 m mk D U M (s.y0.trans r.y0) (s.g0.trans r.g0) V (s.on.trans r.on)with⟨-,i,-,-,e⟩|⟨-,-,q0,-,q1,q2,q3,q4,q5,q6⟩|⟨-,e⟩
  ·rw[e];exact⟨⟨D.way,D.pass,λq=>(by cases q),D.mo,(D.up (by omega)).m0⟩,T⟩
  ·refine⟨⟨q1.trans D.way,by rw[q2];exact D.pass,q6,?_,by rw[q0];exact(D.up (by omega)).m0⟩,q3.trans T⟩;have:=D.mo;unfold Mo at*;rw[q4,q5];exact this
  ·rw[e];exact⟨Qus m.k D (by omega) _,T⟩
 have N:JS (Ae K d)=some (I (BP K d).1::Ae K (BP K d).2):=
  Yae m.k (Zf6 K d) (Zt3 m.k d) (λh0 X=>Z25 m M h0 X) (Zes K) λ_=>Zuw m D _
 have ep:ZN K c []=d:=iz Prod.snd b1;have hf: -300000000000<=Bk (DY c)/\Bk (DY c)<=300000000000:=Qte (r.g.clear) (by omega);have he:=Zks m.k G.1 (by omega) G.2 (frm:=Bk (DY c)) (mode:=(BP K d).1) hf;have et:tkA K c []=La (Mi K (Bk (DY c)) (Bk (BP K d).2)) ((Cl K (BP K d).2 (Bu K (BP K d).2)).1.map Aj) (BP K d).1 (Bu K (BP K d).2) (H_ K (BP K d).2) (BP K d).2.s3 (BP K d).2.g1:=by
  unfold tkA;rw[hA];dsimp only;unfold Qxt Jf;rw[G.2,aa (by simp),ab G.1.way];rfl
 have es:Eh K c []=(K,(Cl K (BP K d).2 (Bu K (BP K d).2)).2):=by
  unfold Eh;rw[hA];dsimp only;unfold Jf;rw[ab G.1.way]
 rw[et,es];have hU:=(Zr1 K d).trans (iz some (aa (by rw[s.g0,r.g0];decide)));have hO:J5 (Ae K d)=some (I 0::B false::Ae K d):=by
  refine(Zg0 K _).trans ?_;rw[s.aI,r.en];rfl
 have hP:=(Zoz K d).trans (iz some (aa (by rw[s.aH,r.t];simp)));have hB:=Z8p (K:=K) (c:=d) (s.on.trans r.on);have hG:=Zrw (K:=K) (c:=d) (s.way.trans r.g.way);generalize Cl K (BP K d).2 (Bu K (BP K d).2)=ps at*;generalize Mi K (Bk (DY c)) (Bk (BP K d).2)=pu at*;generalize Bu K (BP K d).2=po at*;generalize H_ K (BP K d).2=mt at*;generalize BP K d=w at*;have X:∀{O:Lp} {Y:Nat×List AC},(∃e,Y.2=Ht++Ae K e)->O (F0 K (Bk (DY c)) 0 d)=some (1,X_ K (Bk (DY c)) 0 d)->
   IG O Y JS KS (I (Bk (DY c))) (Ae K d)=some (La pu (ps.1.map Aj) w.1 po mt w.2.s3 w.2.g1++Ae K ps.2):=λL a0=>Z1y L a0 N he
 refine Z96 (E:=[]) (Bn (dp (Zoy _ _ _ _ _ _ _ _ _ _ _ _ [] 0 0 [] [] 0 0 0 0 0 0 0 K (DY c)) (eF rfl rfl)) (by simp)) (Zxu m.k) Zy6 (RV K) Zys λY L=> ?_;rw[ep];exact X L (Z33 _ hU hO hP hB hG)
theorem Zsc {MT MZ MD MR MG MN MB MQ MM MI MO MF MA:Fn} {Y x1 x2:Rw} {q:Bool} (hA:MA []=some [B true]) (hF:MF [.vC Aa Y, .vC Aa x1, .vC Aa x2, .vC Aa []]=some [B q])
  (w : q = true -> ∃ (x : Ax3) (p0 p1 p2 p3 p4 M N O U X r : Int) (D G : Rw) (p : Pth) (t : Trk) (n : Int) (T : Rw) (v : List AC) (m : Pt), D.length <= 1000 /\
   MO [I a,I 4]=some [I r]/\MI [.vC Aa Y,I r]=some [.vC Ai D]/\MM [.vC Aa x1, .vC Aa x2]=some (AG x++[I p0,I p1,I p2,I p3,I p4])/\
   MQ (.vC Ai (D++[Af BK,Af Bx])::(AG x++[I p0,I p1,I p2,I p3,I p4]))=some (.vC Ai G::(AG x++[I M,I N,I O,I U,I X]))/\
   MB [.vC Ai G]=some (Bl p++[I 0])/\MN (Bl p)=some [I (As p.aF)]/\MG (Bl p++AG x++[I 1,I 1,I 1,I 0,I (As p.aF)])=some (Bw t)/\
   V (V (768*t.length)+V (8*(G.length:Int)))=n/\MR (AG x++[I M,I N,I O,I U,I X]++[.vC Ai G, .vC kPt [],I n])=some [tV T,I 0]/\
   MD [tV T]=some [B true]/\(decide (0<=V ((T.length:Int)-1))&&decide (V ((T.length:Int)-1)<(T.length:Int)))=true/\nth [] T (V ((T.length:Int)-1)).toNat=v/\
   MZ (Bl p)=some [I (As p.aF)]/\gA v 3=As p.aF/\MT (pxt p x t [I t.length])=some (ptR m)/\(gA v 4=m.x/\gA v 5=m.y/\gA v 6=m.z)/\gA v 8=0):
  Qig MT MZ MD MR MG MN MB MQ MM MI MO MF MA [.vC Aa Y, .vC Aa x1, .vC Aa x2,I a]=some [B true]:=by
 rw[Z74];refine eB hA (eF rfl (eB hF ?_));cases q
 ·exact eT rfl rfl
 ·obtain⟨x,p0,p1,p2,p3,p4,M,N,O,U,X,r,D,G,p,t,n,T,v,m,hl,h1,h2,h3,h4,h5,h6,h7,h8,h9,a0,a1,L,a2,a3,a4,⟨a5,a6,a7⟩,a8⟩:=w rfl;refine eF rfl (eB h1 (eB h2 (eT (BF ?_) (eB h3 (eB h4 (eB h5 (eF rfl (eB h6 (eB h7 ?_)))))))))
  ·show(D++[_,_]).length*176<=_;rw[aq];show(D.length+2)*176<=_;omega
  ·have e8:V (V (768*gA (Bw t) 1)+V (8*(↑(wA (AC.vC Ai G::(AG x++[I M,I N,I O,I U,I X])) 0).length:Int)))=n:=h8;rw[e8];have L:nth [] (wA [tV T,I 0] 0) (V ((↑(wA [tV T,I 0] 0).length:Int)-1)).toNat=v:=L;refine eB h9 (eF rfl (eB a0 (eF rfl (eT a1 (eB a2 (eT ?_ (eB a4 (eT ?_ ?_))))))))
   ·rw[L];exact beT a3
   ·rw[L];show(gA v 4==m.x&&(gA v 5==m.y&&(gA v 6==m.z&&true)))=true;rw[a5,a6,a7];simp
   ·rw[L];show some [B (gA v 8==0)]=_;rw[a8];rfl
theorem Q96 (m:MvF K) (mk:MarksOK K) (n0:Nat):RunI JY [] n0 λ_ D c=>D=K/\Fm K c:=by
 refine⟨λk D c h _=> ?_,λk D c h _ G=> ?_⟩
 ·obtain⟨rfl,r⟩:=h;exact Zjz m mk r
 ·obtain⟨rfl,r⟩:=h;have G:Jl (stA D c []).1=false:=G;rcases Qmz m mk r with⟨I,-⟩|⟨-,e,L,M,-⟩
  ·rw[I]at G;cases G
  ·show(Eh D c []).1=D/\Fm D (Eh D c []).2;rw[L];exact⟨rfl,M⟩
theorem Z4f:QK []=some [B true]:=by
 have n0:=Z6z machX (aA:=[]) (by simp) Zt1 true;have M:=M0 (aA:=[]) (by simp) rfl;have X:(kX []).p.aF=[]:=by show(AF []).aF=[];rw[V8]
 have N:(kX []).p.aD=[]:=by show(AF []).aD=[];rw[V8]
 have hl:(kX []).t.length<=0:=by
  have:=Q3y (x:=P4) (d:=⟨1,1,1⟩) (B:=0) ⟨by omega,cz _,cz _,cz _⟩ M;have e:As (AF []).aF=0:=by rw[V8];rfl
  have e2:(kX []).t.length=(Bz (AF []) P4 ⟨1,1,1⟩ 0 (As (AF []).aF)).length:=rfl;rw[e2];omega
 have D:MvF (kX []):=⟨n0.2,rfl,rfl,λg h=>(by rw[X]at h;cases h),λi Y G=>(by rw[N]at G;simp at G;omega),λu Y G=>(by omega),by omega⟩;have mk:=Q89 (pa:=9) (pb:=3) (pc:=100) (bF:=1) (lag:=0) machX.x.ok M (JF (aA:=[]) rfl).2;have O:=fm0 D mk;have T:(stA (kX []) BT []).1=7:=by
  rcases Qmz D mk O with⟨h,-⟩|⟨-,e,-,h3,h4⟩
  ·exact h
  ·exfalso;have h5:=Q42 D.k h3;have w1:A4 (kX []).t (kX []).len<=(kX []).t.length:=(whl mk).2.1;have I:mu (kX []) BT=3*(256*A4 (kX []).t (kX []).len-0)+(2-CH BT)+(((kX []).p.aD.length:Int)-0):=rfl;have h8:CH BT=2:=by unfold CH;rw[ab (show BL BT=true from rfl)]
   rw[h8,N]at I;have I:mu (kX []) BT=3*(256*A4 (kX []).t (kX []).len-0)+(2-2)+(0-0):=I;omega
 have U:=Qvn (E:=[]) (by simp) trivial (n0:=5) (by omega) (Q96 D mk 5) n0.1 ⟨rfl,O⟩;have e:Hg [] 5 0 (kX []) BT=[tkA (kX []) BT []]:=by
  show tkA (kX []) BT []::(if Jl (stA (kX []) BT []).1=true then []else _)=_;rw[T];rfl
 rw[e]at U;have V:=Q7u [] (tkA (kX []) BT []) (by simp);have L:(gA (tkA (kX []) BT []) 2==7)=true:=by
  show((stA (kX []) BT []).1==7)=true;rw[T];rfl
 rw[L]at V;exact Z3w U V Zwp
theorem Zee {x0 x1 x2:Rw} (h0:Src x0) (h1:Src x1) (h2:Src x2) (h3:i64 k):
  Qxb [.vC Aa x0, .vC Aa x1, .vC Aa x2,I k]=some [B true]:=by
 obtain⟨q,hF,hq⟩:=Zz1 x0 x1 x2 [];refine Zsc Z4f hF λa0=> ?_;obtain⟨l0,l1,l2,-⟩:=hq a0;have m3:0<=k%4/\k%4<4:=⟨Int.emod_nonneg _ (by decide),j7 _ (by decide)⟩;obtain⟨x,a,b,c,bF,lag,hQ,X,p1,p2,p3⟩:=Z2j h1 h2 (by omega);obtain⟨p,l,hI,L,hlen⟩:=Z16 h0 (most:=k%4) (by omega);have hlen:l.length<=3:=by
  rcases hlen with rfl|q
  ·simp
  ·omega
 have D:=Z92 L;have a1:∀it∈l.map fqI,it.aP<=3:=λit Y=>(D.made it Y).2.2.1;have M:(l.map fqI).length<=3:=by rw[ac];exact hlen
 have ew:=Zss X.x M D;obtain⟨N,mk,hN⟩:=Zy8 X M D a1 (by omega);have eq:(l++[BK,Bx]).map qI=l.map fqI++[BK,Bx]:=by
  have e1:l.map qI=l.map fqI:=List.map_congr_left λit Y=>Zxf ⟨(L.made it Y).1.aP.1,(L.made it Y).2.2.1⟩;have e2:[BK,Bx].map qI=[BK,Bx]:=by
   rw[bj,bj,dx,Q9a (show(4:Int)<=10 by omega),Q9a (show(4:Int)<=14 by omega)]
  rw[bt,e1,e2]
 have O:=Z7s (aA:=l++[BK,Bx]) (by rw[aq];show l.length+2<=_;omega) x (p0:=a) (p1:=b) (p2:=c) bF lag (by omega) (by omega) (by omega);rw[eq,bt]at O;have a2:=Xx D;have a4:(l.map fqI++[BK,Bx]).length=l.length+2:=by rw[aq,ac];rfl
 generalize a5:l.map fqI++[BK,Bx]=aA at*;have hc:=T0 (by omega) a2 (show aA.length<=20000 by omega);have hg:=M0 (by omega) hc;have hB:H4 [.vC Ai (aA.map Af)]=some (Bl (AF aA)++[I 0]):=by rw[Qyr (by omega),ab hc]
 have hT:=Q6v (d:=⟨1,1,1⟩) (from_:=0) (to:=As (AF aA).aF) hg X.x.ok;have hD:=P7 N.k.f;have hw:=Z0k (d:=⟨1,1,1⟩) X.x.ok hg;have a3:(AF aA).aD.length=aA.length:=Qnq aA;obtain⟨n,hn⟩:∃n:Nat,(n:Int)=768*(Bz (AF aA) x ⟨1,1,1⟩ 0 (As (AF aA).aF)).length+8*aA.length:=by
  have:=N.k.f.t.q.len.1;have this:0<=(Bz (AF aA) x ⟨1,1,1⟩ 0 (As (AF aA).aF)).length:=this;exact⟨(768*(Bz (AF aA) x ⟨1,1,1⟩ 0 (As (AF aA).aF)).length+8*aA.length).toNat,by omega⟩
 have U := Zkz N mk (n := n) (by
  show 768*(Bz (AF aA) x ⟨1,1,1⟩ 0 (As (AF aA).aF)).length+((AF aA).aD.length:Int)+1<=n;rw[a3];omega)
 have hR:=Qvn (E:=[]) (by simp) trivial (n0:=n) (by omega) (Q96 N mk n) hN ⟨rfl,fm0 N mk⟩;have G:=Q5n [] n 0 (kfP x (a+50) (b+10) (c+2000) bF lag aA true) BT;obtain⟨T,v,eT,f⟩:=U;rw[eT]at hR G;have G:(T++[v]).length<=n:=G;rw[aq,dh]at G;have hZ:LD (Bl (AF aA))=some [I (As (AF aA).aF)]:=Zpa hg.ok;have el:(((T++[v]).length:Nat):Int)=T.length+1:=by rw[aq,dh];omega
 have ei:V (((T++[v]).length:Int)-1)=T.length:=by rw[el,Ad];omega
 have hm:=hD (Bz (AF aA) x ⟨1,1,1⟩ 0 (As (AF aA).aF)).length;refine⟨x,a,b,c,bF,lag,a+50,b+10,c+2000,bF,lag,k%4,l.map Af,aA.map Af,AF aA,_,n,T++[v],v,_,by rw[ac];omega,Q2n h3 (by omega),hI,hQ,O,hB,Qjz hg.ok,hT,?_,hR,?_,?_,?_,hZ,f.s,hm,?_,f.f⟩
 ·rw[ac,Ad (x:=768*_),Ad (x:=8*_),Ad];exact hn.symm
 ·rw[Q7u T v (by omega),beT f.mode]
 ·rw[ei,el,ai (by omega),ai (by omega)];rfl
 ·rw[ei,af,E1 [] _ T.length (by rw[aq,dh];omega),ke (cm _)];simp only[i8,List.getElem_singleton]
 ·have f4:=f.x;have f5:=f.y;have f6:=f.z;have ew:A4 (kfP x (a+50) (b+10) (c+2000) bF lag aA true).t (kfP x (a+50) (b+10) (c+2000) bF lag aA true).len=(Bz (AF aA) x ⟨1,1,1⟩ 0 (As (AF aA).aF)).length:=hw;rw[ew]at f4 f5 f6;exact⟨f4,f5,f6⟩
end Go.Bm
namespace Go.Bm
theorem Qsy {r:List AC} (h:okR Aa r):i64 (Ag (nth .vD r 0)):=by
 match r,h with
 |[],h=>exact h.elim
 |a::_,h=>exact Zow h.1
theorem Qkl {r:List AC} (h:okR [Kd.sl Aa] r):Src (BQ (nth .vD r 0)):=by
 match r,h with
 |[],h=>exact h.elim
 |a::_,h=>
  have D:=h.1;unfold okC at D;refine⟨?_,λc G=>Qsy (D.2 c G).1⟩;have I:=D.1;simp only[maxLen]at I;show(BQ a).length<=_;omega
end Go.Bm
