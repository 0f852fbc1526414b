/- laid together -/
import Derived.Test.YtommijghjlikkaaGreatPrYd
import Derived.Test.YtommijghjlikkaaGreatMx3
import Derived.Test.YtommijghjlikkaaGreatPrWa
import Derived.Test.YtommijghjlikkaaGreatMy1
import Derived.Test.YtommijghjlikkaaGreatPrTk
set_option linter.unusedVariables false
set_option linter.unusedSimpArgs false
set_option maxRecDepth 100000
variable {K:Go.Bm.Kf} {a k b v h:Int} {E:List Go.Bm.Evn} {g:Go.Bm.Pt}
noncomputable section
open Go.IntKind (wrap)
namespace Go.Bm
open Classical
theorem Zov {K G:Kf} {c e:Cv} (he:B4 K c E=(G,e)) (J:e.aH=false) (M:e.g0=0):∃d,BB K c E=(G,d)/\Rs e d/\d.aM=AR e:=by
 have I:BB K c E=(G,FC (Dq G (Bd (Du e)))):=by
  unfold BB;rw[he]
 have N:Du e=e:=by
  unfold Du;rw[aa λq=>by rcases q with q|q;rw[J]at q;cases q;exact q M]
 rw[N]at I;refine⟨_,I,?_,?_⟩
 ·unfold Dq;split<;>exact⟨rfl,rfl,rfl,rfl,rfl,rfl,rfl,rfl,rfl,rfl,rfl,rfl,rfl,rfl,rfl⟩
 ·unfold Dq;split<;>rfl
theorem Zd0 {K G:Kf} {n:Int} {c d:Cv} (M:EvE E) (T:0<=n/\n<=9999) (N:KOK K) (O:Ga K n c) (U:BB K c E=(G,d)) (b:Bk G n d h):
  ∃t e mode,EL K c E=(sT G t,e)/\(Bk (sT G t) (n+1) e h\/Mz (sT G t) (n+1) e h)/\(stA K c E).1=mode/\(mode=4\/mode=5)/\(d.way=1->mode=4)/\At (stA K c E).2.1 (stA K c E).2.2<=h:=by
 obtain⟨t,e,V,X,Y⟩:=Zhd T b;have J:Ff d≠0/\(Ff d=4\/Ff d=5)/\(d.way=1->Ff d=4):=by
  unfold Ff;split
  ·exact⟨by decide, .inr rfl,λq=>by omega⟩
  ·exact⟨by decide, .inl rfl,λ_=>rfl⟩
 have I:stA K c E=(Ff d,sT G t,e):=by
  unfold stA;rw[U];dsimp only;rw[Zhs b,aa J.1,V]
 have S:=Qhq N O (by omega) M;have go:=Q1p N O (by omega) M;obtain⟨p,q,h6⟩:=Qbs (stA K c E).2.1 (stA K c E).2.2 (At (stA K c E).2.1 (stA K c E).2.2);have e1:EL K c E=(sT G t,{e with aK:=p,outs:=q}):=by
  unfold EL;rw[h6,I]
 rw[e1]at go;rw[I]at S;refine⟨t,_,_,e1,?_,by rw[I],J.2.1,J.2.2,by rw[I];exact Y⟩;rcases X S with k|k
 ·exact .inl ⟨k.b.pas go,k.way,k.home,k.leg⟩
 ·exact .inr ⟨k.b.pas go,k.way,k.o2,k.z,k.leg⟩
theorem IK:EvE []:=⟨by decide,λe h=>by cases h⟩
theorem Zs8 {n:Int} {c:Cv} (E:0<=n/\n<=9999) (b:Bk K n c h):
  ∃t e mode,EL K c []=(sT K t,e)/\(Bk (sT K t) (n+1) e h\/Mz (sT K t) (n+1) e h)/\(stA K c []).1=mode/\(mode=4\/mode=5)/\At (stA K c []).2.1 (stA K c []).2.2<=h:=by
 obtain⟨d,hb,-⟩:=S8 (K:=K) b.b.t b.b.g0;have G:=Jf b.b.m.k E.1 b.b.g IK;rw[hb.1]at G;obtain⟨t,e,mode,I,J,M,N,-,O⟩:=Zd0 IK E b.b.m.k b.b.g hb.1 (b.same G hb.2.1);exact⟨t,e,mode,I,J,M,N,O⟩
theorem Z6t {n:Int} {c:Cv} (hn:0<=n/\n<=9999) (b:Mz K n c h):
  ∃e,EL K c []=(K,e)/\e.o2=true/\(stA K c []).1=1/\At (stA K c []).2.1 (stA K c []).2.2=h/\BR (stA K c []).2.1 (stA K c []).2.2=CO K.p K.x K.t 0:=by
 obtain⟨d,hb,ho⟩:=S8 (K:=K) b.b.t b.b.g0;have s:=hb.2.1;have E:=b.b.m.k;have O:=Jf E hn.1 b.b.g IK;rw[hb.1]at O;have bd:=b.b.same O s;have gd:Gd K n d:=O.gd (s.way.trans b.way);obtain⟨z0,z1,z2,z3,z4⟩:=b.z;have S:=s.m0.trans z0;have d1:=s.m1.trans z1;have d2:=s.m2.trans z2;have a3:d.aM=true:=hb.2.2.trans (I1.2 ⟨z1,z2,by omega,by omega⟩);have G:d.o2=true:=ho.trans b.o2;have hr:B2 K d=(0,K,d):=by
  unfold B2 Bx;rw[aa (show¬d.g0=2 by rw[bd.g0];decide),aa (show¬d.aI≠0 from λq=>q bd.en),aa (show¬(d.aH=true/\d.aM=true)from λq=>by rw[bd.t]at q;cases q.1),aa (show¬d.on=true by rw[bd.on];decide)];rw[aa (by simp),aa (show¬d.way≠0 from λq=>q gd.way)]
 obtain⟨f,hf,ht⟩:=b.leg;have hlen:=b.b.m.len;have T:=b.b.h0;have I:=Qya (d:=f) (a:=h) (b:=K.len) E.f.x.ok E.f.p ⟨T.1,by rw[<-hlen];omega⟩;rw[<-ht]at I;have fw:FwS K.t h K.len:=by
  have:=Zgc (d:=f) (m:=h) E.f.x.ok E.f.p ⟨T.1,by rw[<-hlen];omega⟩;rw[<-hlen,<-ht]at this;exact this
 have J:d.m0≠V ((AG K d).1*256):=by
  have M:endC K d=0:=Qy3 E S d1 d2;have U:EZ K=K.len:=by unfold EZ;rw[ab b.b.m.closed]
  have X:DU 0=0:=by decide
  have Y:AU K.t h=0:=by unfold AU;rw[ab I.2.symm]
  have a0:G7 K 0=h:=by
   unfold G7;rw[X,I.1,Y,aa (by simp)]
  have act:∀k,BS k d=true->A0 k=true:=λk E=>by
   unfold BS at E;unfold A0;rw[bd.o.1,bd.o.2]at E;simpa using E
  have hz:∃z,(AG K d).1=AU K.t z/\h<z/\z<=K.len:=by
   unfold AG;rw[U9 E gd (by omega),M,U,a0];dsimp only;rcases Z8j (K:=K) (c:=d) (known:=K.len) (frm:=h) bd.nx with⟨e,-⟩|⟨j,e,j1,j2,j3,-⟩
   ·rw[e];exact⟨_,rfl,T.2,bz _⟩
   ·rw[e];exact⟨_,rfl,bd.ah j j1 j2 (act _ j3.1),j3.2.2⟩
  obtain⟨z,ez,a4,a1⟩:=hz;have hw:=fw.wh z (by omega) a1;have hl:=fw.len;have a5:AU K.t z≠0:=λq=>by
   have:=hw.2.2.1;rw[q,I.1]at this;omega
  rw[ez,S,Ae];omega
 have a2:CQ K d=(1,BO K d (AG K d).1):=by
  unfold CQ;rw[aa (λq=>J q.2),aa (λq=>q.1 bd.g0)];unfold Fd;rw[ab (.inl (Qy5 b.b.m.aX d))]
 have N:stA K c []=(1,K,BO K d (AG K d).1):=by
  unfold stA;rw[hb.1];dsimp only;rw[hr,ab rfl];dsimp only;rw[a2]
 obtain⟨q0,-,-⟩:=Qur E gd (by omega) (AG K d).1 G d1;obtain⟨p,q,h6⟩:=Qbs (stA K c []).2.1 (stA K c []).2.2 (At (stA K c []).2.1 (stA K c []).2.2);have e1:EL K c []=(K,{BO K d (AG K d).1 with aK:=p,outs:=q}):=by
  unfold EL;rw[h6,N]
 have hu:AE (BO K d (AG K d).1)=0:=by
  show V ((BO K d (AG K d).1).m0.tdiv 256)=0;rw[q0,S];rfl
 refine⟨_,e1,G,by rw[N],?_,?_⟩
 ·rw[N];show Az K.t (AE (BO K d (AG K d).1))=h;rw[hu];exact I.1
 ·rw[N];show CO K.p K.x K.t (AE (BO K d (AG K d).1))=_;rw[hu]
theorem Z5g (c:Cv) (n:Int):evC c 7 n=c:=by
 unfold evC LH;simp
theorem Z01 (m:MvK K) (mk:MarksOK K) (hl:UU K) {n:Int} (V:0<=n/\n<=9999) {c:Cv} (r:Rm K n c) (h:Sq K c) (x:Int) {N:Int} (hN:1<=N/\N<=200):
  (∃ d, Beg K c [⟨x, 7, N⟩] d /\ d.o2 = c.o2) \/ (∃ t d f, BB K c [⟨x, 7, N⟩] = (sT K t, d) /\ Bk (sT K t) n d (At K c) /\ d.way = 1 /\ okD f /\
   BR K c=⟨(CX K.p K.x (At K c)).x+AP K.x.a f.x,(CX K.p K.x (At K c)).y+AP K.x.b f.y,(CX K.p K.x (At K c)).z+AP K.x.c f.z⟩):=by
 have I:=m.k;have E:B4 K c [⟨x,7,N⟩]=DI K (B5 c) N:=by
  show evA (K,B5 c) 7 N=_;unfold evA;rw[aa (by decide),aa (by decide),ab rfl];show DI K (evC (B5 c) 7 N) N=_;rw[Z5g]
 have S:EvE [⟨x,7,N⟩]:=⟨by simp,λe he=>by
  rw[dw]at he;subst he;show N<=_;omega⟩
 by_cases hb:Gq K (B5 c) N=true
 ·right;have G:DI K (B5 c) N=(sT K (E9 K (B5 c) (Jt K (B5 c) N)),{zM (B5 c)with o2:=false,way:=1,home:=At K (B5 c)}):=by
   unfold DI;rw[ab hb]
  rw[G]at E;obtain⟨d,X,Y,d3⟩:=Zov E r.r.t r.r.g0;have O:=hb;unfold Gq at O;simp only[al,da]at O;obtain⟨⟨⟨⟨⟨⟨⟨-,-⟩,-⟩,-⟩,he⟩,-⟩,-⟩,T⟩:=O;have he:c.aI=0:=he;have ah:=Zh0 m mk (by omega) r h he;obtain⟨f,a,b,hf,J⟩:=hl;have U: ¬GV K.t (AE c):=by
   have T:E6 K c=true:=T;unfold E6 at T;rw[al,iw]at T;exact j9 T.2
  have M:=U;rw[J]at M;obtain⟨m1,m2⟩:=Qs0 I.f.x I.f.p hf M;rw[<-J]at m1 m2;have gp:=Jf I V.1 r.g.ga S;have ge:=Yb I V.1 r.g.ga S;rw[X]at gp;rw[E]at ge;have hz:0<=Jt K (B5 c) N/\Jt K (B5 c) N<=At K c:=by
   unfold Jt;rw[Z38 I m.aX];have e:At K (B5 c)=At K c:=rfl;have hi:i64 K.len:=I.len;unfold i64 at hi;rw[e,Ae];unfold mx
   (repeat' split)<;>omega
  refine⟨_,d,Fl K.t (AE c),X,?_,Y.way,m2,m1⟩;refine Bk.same (c:={zM (B5 c)with o2:=false,way:=1,home:=At K (B5 c)}) ⟨⟨m.sT (I.sT (Vu I _ _)),ge,bz _,r.r.on,he,r.r.t,r.r.g0,r.r.o,ah.1,r.r.ix.next,ah.2⟩, .inl rfl,rfl,⟨_,At K c,Jt K (B5 c) N,m2,rfl,⟨ah.1.1,bz _⟩,hz,λq=> ?_⟩⟩ gp Y;have q:(1:Int)=2:=q;omega
 ·left;have G:DI K (B5 c) N=(K,B5 c):=by
   unfold DI;rw[aa hb]
  rw[G]at E;obtain⟨d,q1,q2⟩:=Qq9 (e:=B5 c) r.r.t r.r.g0 E (Qyc c);exact⟨d,q1,q2⟩
theorem Z12 {n:Int} (M:0<=n/\n<=9999) {c d e:Cv} {mode:Int} (m:MvK K) (r:Rm K n c) (h:Sq K c) (gd:Gd K n d) (s:Rs c d) (G:d.o2=true) (st:Qt K c d e mode):e.m0=c.m0/\mode≠4:=by
 rcases st with⟨-,-,-,e0,-,-,-,q⟩|⟨E,-,-,-,-,-,-,-,e2,-⟩|⟨E,-,-,-,-,-,-,-,e2,-⟩|⟨E,-,-,q,-,e0,e1,-,-,-⟩
 ·exact⟨e0,by omega⟩
 ·rcases h.2 with q|q
  ·exact absurd E q
  ·exact absurd e2 q
 ·rcases h.2 with q|q
  ·exact absurd E q
  ·exact absurd e2 q
 ·have I:=I1.1 h.1;have k:=Qur m.k gd (by omega) (AG K d).1 G (s.m1.trans I.1);have b:=r.g.m0;have J:e.m1=0:=e1.trans k.2.1;rw[e0,J,Ae];exact⟨by omega,by omega⟩
theorem Z5y {a:Axs} (hb:0<=a.bB/\a.bB<=1000) {u w:Int} (v:Int):v+AP a u-(v+AP a w)=0\/v+AP a u-(v+AP a w)=a.bB\/v+AP a u-(v+AP a w)= -a.bB:=by
 unfold AP;split<;>split<;>omega
theorem Qwk {aU aZ aX:Int}:∀(E:List Pt) (s:List Sgm×Int×Pt),∃l,(E.foldl (A9 aU aZ aX) s).1=s.1++l/\∀g∈l,g.aU=aU/\g.aX=aX
 |[],s=>⟨[],by simp,by simp⟩
 |q::E,s=>by
  obtain⟨l,G,J⟩:=Qwk (aU:=aU) (aZ:=aZ) (aX:=aX) E (A9 aU aZ aX s q);by_cases c:q=s.2.2
  ·have e:A9 aU aZ aX s q=s:=by unfold A9;rw[ab c]
   rw[e]at G;exact⟨l,by rw[fj,e];exact G,J⟩
  ·have e:(A9 aU aZ aX s q).1=s.1++[⟨q,AJ s.2.2 q,aU,aZ,aX⟩]:=by unfold A9;rw[aa c]
   refine⟨⟨q,AJ s.2.2 q,aU,aZ,aX⟩::l,?_,?_⟩
   ·rw[fj,G,e,fq];rfl
   ·intro g I;rcases av.1 I with rfl|I
    ·exact⟨rfl,rfl⟩
    ·exact J g I
theorem Znk (aA:List Itm) (i:Nat):∃l,(Au aA (i+1)).aF=(Au aA i).aF++l/\∀g∈l,g.aU=i/\g.aX=JV (itA aA i)/\AK (itA aA i):=by
 show∃l,(DO aA i (Au aA i)).aF=_/\_;unfold DO;by_cases c:AK (itA aA i)
 ·rw[ab c];obtain⟨l,I,E⟩:=Qwk (aU:=i) (aZ:=HB (itA aA i) (Au aA i).aS) (aX:=JV (itA aA i)) (C3 aA i (Au aA i).frm) ((Au aA i).aF,(Au aA i).len,if(Au aA i).begun=true then(Au aA i).at_ else AF (itA aA i).fr);exact⟨l,I,λg G=>⟨(E g G).1,(E g G).2,c⟩⟩
 ·rw[aa c];exact⟨[],by simp,by simp⟩
def fqI (it:Itm):Itm:=if it.aP=1 then it else{it with aZ:=2000000}
theorem Zv1 (it:Itm):(fqI it).aP=it.aP:=by unfold fqI;split<;>rfl
theorem Qxe (it:Itm):(fqI it).fr=it.fr:=by unfold fqI;split<;>rfl
theorem Qxd (it:Itm):(fqI it).to=it.to:=by unfold fqI;split<;>rfl
theorem Z2l {it:Itm} (h:Made it) (E:it.aP<=3):Made (fqI it):=by
 unfold fqI;split
 ·exact h
 ·refine⟨h.aP,h.line,λq=> ?_,λ_=>(show(1:Int)<=2000000/\(2000000:Int)<=60000000 from⟨by decide,by decide⟩),h.blend,λq=> ?_,h.free,h.full⟩
  ·have a:=h.arc q;exact⟨a.aP,a.aG,a.dir,a.ends⟩
  ·rcases q with q|q
   ·have q:it.aP=5:=q;omega
   ·have q:it.aP=6:=q;omega
theorem Q4f:∀{l:List Itm} {p:Pt},Mh p l->Mh p (l.map fqI)
 |[],_,h=>h
 |it::l,p,h=>⟨(Qxe it).trans h.1,by rw[Qxd];exact Q4f h.2⟩
theorem Yag {l:List Itm} (h:Motions 40004 g l):Motions 40004 g (l.map fqI):=by
 refine⟨Q4f h.chain,λit hi=> ?_⟩;obtain⟨a,G,rfl⟩:=ba.1 hi;obtain⟨I,J,E,M,N⟩:=h.made a G;refine⟨Z2l I E,?_,by rw[Zv1];exact E,by rw[Qxe];exact M,by rw[Qxd];exact N⟩;unfold fqI;split<;>exact J
theorem Qv1 {aA:List Itm} (h:∀it∈aA,it.aP<=3):∀i:Nat,i<=aA.length->∀g∈(Au aA i).aF,g.aX=0
 |0,_,g,E=>by cases E
 |i+1,hi,g,E=>by
  obtain⟨l,e,G⟩:=Znk aA i;rw[e]at E;rcases bq.1 E with q|q
  ·exact Qv1 h i (by omega) g q
  ·rw[(G g q).2.1];have I:=h (itA aA i) (by unfold itA;rw[List.getD,ai (by omega)];exact bn _);unfold JV;rw[aa (λq=>by unfold syI at q;omega)]
theorem Z3c {l m:Rw} (N:Src l) (E:Src m) (O:m.length<=100000):∃(x:Ax3) (a b c ramp lag:Int),IM [.vC Aa l, .vC Aa m]=some (AI x++[I a,I b,I c,I ramp,I lag])/\MachOK x (a+50) (b+10) (c+2000) ramp lag/\(1<=a/\a<=900)/\(2<=b/\b<=201)/\(1<=c/\c<=16000):=by
 obtain⟨x,S,T⟩:=Zzp N;obtain⟨a,b,c,U,G,J,M⟩:=Zmp (MF:=Es) (Kc E) (TX m);obtain⟨ramp,lag,g1,g2⟩:=Zj8 (MP:=Si) (MF:=Es) (Kc E) (TX m) S T U G J M O;exact⟨x,a,b,c,ramp,lag,g1,⟨g2.x,⟨by omega,by omega,by omega⟩,g2.ramp,g2.lag⟩,G,J,M⟩
structure RetK (K : Kf) : Prop where
 m:MvK K
 ok:MarksOK K
 leg:UU K
 few:K.p.aD.length<=4
 a:51<=K.pa
 b:12<=K.pb/\K.pb<=211
theorem Zr1 {V X M:Rw} (h0:Src V) (h1:Src X) (h2:Src M) (hl:M.length<=100000):
  ∃(K:Kf) (aA:List Itm) (a b c:Int),RetK K/\K.aA=aA.map fqI/\K.pa=a+50/\K.pb=b+10/\K.pc=c+2000/\((1<=a/\a<=900)/\(2<=b/\b<=201)/\(1<=c/\c<=16000))/\aA.length<=4/\
   IM [.vC Aa X, .vC Aa M]=some (AI K.x++[I a,I b,I c,I K.ramp,I K.lag])/\Iy [.vC Aa V,I 4]=some [.vC Aj (aA.map Af)]/\
   F6 (AI K.x++[I K.pa,I K.pb,I K.pc,I K.ramp,I K.lag]++[.vC Aj (K.aA.map Af),B true])=some (I 0::Ab K Cy):=by
 obtain⟨x,a,b,c,ramp,lag,hQ,Y,p1,p2,p3⟩:=Z3c h1 h2 hl;obtain⟨p,l,hI,N,hlen⟩:=Z20 h0 (most:=4) (by omega);have hlen:l.length<=4:=by
  rcases hlen with rfl|q
  ·simp
  ·omega
 have E:=Yag N;have O:=Zkv E;generalize hL:l.map fqI=aA at*;have S:aA.length<=4:=by rw[<-hL,af];exact hlen
 have T:=Q6x (by omega) O (show aA.length<=20000 by omega);have hr:=(NA T).2;have hg:=WC (by omega) T;have G:∀{j:Nat},j<aA.length->itA aA j∈aA:=fun{j} U=>by
  unfold itA;rw[List.getD,ai U];exact bn _
 have hn := Zbh Y (aA := aA) (by omega) T (λj U _ q hq => by
  have:=E.made _ (G U);exact A3 (Z65 this.1 this.2.2.2.1 this.2.2.2.2 q hq) (by unfold B24;omega)) (λit hi q=>by
  have:=(E.made it hi).2.2.1;omega) true
 have mk:=Z7l (pa:=a+50) (pb:=b+10) (pc:=c+2000) (ramp:=ramp) (lag:=lag) Y.x.ok hg hr;refine⟨kfP x (a+50) (b+10) (c+2000) ramp lag aA true,l,a,b,c,⟨⟨hn.2,rfl,rfl,?_,?_⟩,mk,⟨⟨1,1,1⟩,0,_,⟨.inl rfl, .inl rfl, .inl rfl⟩,rfl⟩,?_,by show 51<=a+50;omega,by show 12<=b+10/\b+10<=211;omega⟩,hL.symm,rfl,rfl,rfl,⟨p1,p2,p3⟩,hlen,hQ,hI,hn.1⟩
 ·intro g gm;exact Qv1 (λit hi=>(E.made it hi).2.2.1) aA.length (db _) g gm
 ·intro i i0 i1;have i1:i<aA.length:=by
   have e:=Qq1 aA;have i1:i<((AZ aA).aD.length:Int):=i1;omega
  rw[TR (K:=kfP x (a+50) (b+10) (c+2000) ramp lag aA true) (aA:=aA) rfl i0 i1];have hk:=E.made _ (G (show i.toNat<aA.length by omega));have J:AK (itA aA i.toNat):=⟨by have:=hk.1.aP;omega,by have:=hk.2.2.1;omega⟩;have:=Zkw aA i.toNat;show(if AK (itA aA i.toNat)then HH aA i.toNat else _)=1\/(if AK (itA aA i.toNat)then HH aA i.toNat else _)=2\/(if AK (itA aA i.toNat)then HH aA i.toNat else _)=6;rw[ab J];omega
 ·show(AZ aA).aD.length<=4;rw[Qq1];exact S
theorem rm0 (r:RetK K):Rm K 0 Cy:=by
 have e0:endC K Cy=0:=Qy3 r.m.k rfl rfl rfl;have E:0<=K.len:=iy (r.ok.fw.rg 0).1 (r.ok.fw.rg 0).2;have G:=r.ok.fw.wh _ E (bz _);exact⟨gdK r.m.k,⟨ix0 r.m.k r.ok,by show(0:Int)<=_;omega,rfl, .inl rfl,rfl,rfl,⟨rfl,rfl⟩,rfl,by rw[e0];omega⟩⟩
theorem up0 (A k:Int) (E:0<=A):Up A k 0 0 0:=⟨bz _,E,by simp⟩
end Go.Bm
namespace Go.Bm
theorem Zdz (K:Kf) (c:Cv):Jy (Ab K c)=some (I c.o0::I c.o1::B c.o2::B c.o3::B c.o4::Ab K c):=Z8t K c
end Go.Bm
namespace Go.Bm
open Classical
abbrev pl5 (a b c d e:Int):List AC:=[I a,I b,I c,I d,I e]
theorem Ze5 {M0 MS MD MN MI MQ MF MV:Fn} {aA:List Itm} (V:aA.length<=1000) {x:Ax3} {p0 p1 p2 p3 p4 cy bk:Int}:
  Out (λo=>o=(1, .vC Aj ((aA.map fqI).map Af)::I cy::I bk::(AI x++pl5 p0 p1 p2 p3 p4)))
   (Ak (HK M0 MS MD MN MI MQ MF MV) (.vC Aj (((aA.take 0).map fqI++aA.drop 0).map Af)::I cy::I bk::I ((aA.map Af).length:Int)::I ((0:Nat):Int)::(AI x++pl5 p0 p1 p2 p3 p4))):=by
 refine Co (λk:Nat=> .vC Aj (((aA.take k).map fqI++aA.drop k).map Af)::I cy::I bk::I ((aA.map Af).length:Int)::I (k:Int)::(AI x++pl5 p0 p1 p2 p3 p4))
  (λk=>k<=aA.length) (λk=>aA.length-k) _ ?_ 0 (i6 _)
 intro k X;refine Out.eqv (Zmm M0 MS MD MN MI MQ MF MV (((aA.take k).map fqI++aA.drop k).map Af) cy bk ((aA.map Af).length:Int) k x.a.step x.a.aS x.a.accel x.a.jerk x.a.low x.a.aY x.a.bB x.a.aV x.a.aO (x.a.aW.map Ao) x.b.step x.b.aS x.b.accel x.b.jerk x.b.low x.b.aY x.b.bB x.b.aV x.b.aO (x.b.aW.map Ao) x.c.step x.c.aS x.c.accel x.c.jerk x.c.low x.c.aY x.c.bB x.c.aV x.c.aO (x.c.aW.map Ao) p0 p1 p2 p3 p4) ?_;have Y:((aA.map Af).length:Int)=aA.length:=by rw[af]
 have M:(((aA.take k).map fqI++aA.drop k).map Af).length=aA.length:=by
  rw[af,ay,af,ic,co];omega
 rw[Ae (x:=(k:Int)+1)];refine .cond (λJ=> ?_) λJ=> ?_
 ·have J:=Bi J;have G:k<aA.length:=by omega
  have N:aA.drop k=aA[k]::aA.drop (k+1):=il G;have O:((aA.take k).map fqI).length=k:=by rw[af,ic];omega
  have T:nth [] (((aA.take k).map fqI++aA.drop k).map Af) (k:Int).toNat=Af aA[k]:=by
   rw[ak,Gm [] _ k (by rw[M];exact G),gj,List.getElem_append_right (by rw[O];exact db _)];simp only[O,jt,N,List.getElem_cons_zero]
  have en:(aA.take (k+1)).map fqI++aA.drop (k+1)=(aA.take k).map fqI++fqI aA[k]::aA.drop (k+1):=by
   rw[jc,ai G,de,fq];rfl
  refine .cond (λ_=> ?_) λe=>(inB (by omega) (by rw[M];omega) e).elim;rw[T];refine .cond (λE=> ?_) λE=> ?_
  ·have E:(aA[k].aP !=1)=true:=E;have E:aA[k].aP≠1:=by simpa using E
   refine .cond (λ_=> ?_) λe=>(inB (by omega) (by rw[M];omega) e).elim;refine .some (.inl ⟨rfl,k+1,?_,by omega,by omega⟩);have S:fqI aA[k]={aA[k]with aZ:=2000000}:=by unfold fqI;rw[aa E]
   have U:(((aA.take k).map fqI++aA.drop k).map Af).set (k:Int).toNat (Af (fqI aA[k]))=((aA.take (k+1)).map fqI++aA.drop (k+1)).map Af:=by
    rw[en,N,de,bt,de,bt,ak];have:=Za6 (((aA.take k).map fqI).map Af) (Af aA[k]) (Af (fqI aA[k])) ((aA.drop (k+1)).map Af);rw[af,O]at this;exact this
   rw[<-U,S];rfl
  ·have E:(aA[k].aP !=1)=false:=E;have E:aA[k].aP=1:=by simpa using E
   refine .some (.inl ⟨rfl,k+1,?_,by omega,by omega⟩);have S:fqI aA[k]=aA[k]:=by unfold fqI;rw[ab E]
   dsimp only;rw[en,S,<-N];rfl
 ·have J:=Bp J;have e:k=aA.length:=by omega
  refine .some (.inr ⟨by simp,?_⟩);rw[e,jx,List.drop_length,List.append_nil];rfl
def T5 (G:Fn):Prop:=∀(K:Kf) (_:KOK K) (c:Cv) (n:Int) (E:List Evn),Ga K n c->0<=n/\n<=10000->EvE E->G (.vC kPt (E.map evR)::Ab K c)=some (tkA K c E++Ab (EL K c E).1 (EL K c E).2)
theorem QR (K:Kf) (c:Cv) (E:List Evn):∃a b s f,tkA K c E=B8 a b (stA K c E).1 (At (stA K c E).2.1 (stA K c E).2.2) (BR (stA K c E).2.1 (stA K c E).2.2) s f:=⟨_,_,_,_,rfl⟩
theorem Zgp {M0 J MD MN MI MQ MF MV:Fn} {N8:Lp} (r:RetK K) {A:Int} {q:Nat} (M:Aq A K.pb q) (S:A=min K.pa (59*K.pb)) (T:T5 J) {bk:Int} {j:Nat} (hj:j<=59):
  Out (λo=>∃(c:Cv) (n:Nat),o=(1,I bk::(AI K.x++(pl5 K.pa K.pb K.pc K.ramp K.lag++Ab K c)))/\n<=59/\Rm K n c/\Up A K.pb n c.m1 c.m2)
   (Ak (Iw M0 J MD MN MI MQ MF MV N8) (I bk::I ((j-0:Nat):Int)::(AI K.x++(pl5 K.pa K.pb K.pc K.ramp K.lag++Ab K Cy)))):=by
 have h5:=M.five;have U:=M.k0;refine Co (λs:Nat×Cv=>I bk::I ((j-s.1:Nat):Int)::(AI K.x++(pl5 K.pa K.pb K.pc K.ramp K.lag++Ab K s.2)))
  (λs=>s.1<=j/\Rm K s.1 s.2/\Up A K.pb s.1 s.2.m1 s.2.m2) (λs=>j-s.1) _ ?_ (0,Cy) ⟨i6 _,rm0 r,up0 A K.pb (by omega)⟩
 rintro⟨n,c⟩ ⟨X,E,N⟩;dsimp only at X E N;refine Out.eqv (Z9n M0 J MD MN MI MQ MF MV N8 bk ((j-n:Nat):Int) K.x.a.step K.x.a.aS K.x.a.accel K.x.a.jerk K.x.a.low K.x.a.aY K.x.a.bB K.x.a.aV K.x.a.aO (K.x.a.aW.map Ao) K.x.b.step K.x.b.aS K.x.b.accel K.x.b.jerk K.x.b.low K.x.b.aY K.x.b.bB K.x.b.aV K.x.b.aO (K.x.b.aW.map Ao) K.x.c.step K.x.c.aS K.x.c.accel K.x.c.jerk K.x.c.low K.x.c.aY K.x.c.bB K.x.c.aV K.x.c.aO (K.x.c.aW.map Ao) K.pa K.pb K.pc K.ramp K.lag K c) ?_;refine .cond (λO=> ?_) λO=> ?_
 ·have O:((j-n:Nat):Int)>0:=Bi O;refine .bind (p:=λo=>o=_) ⟨_,T K r.m.k c n [] E.g.ga (by omega) IK,rfl⟩ λo e=> ?_;subst e;obtain⟨d,hb,-⟩:=S8 (K:=K) E.r.t E.r.g0;obtain⟨e,mode,s1,s2,s3,-⟩:=Tc r.m r.ok E (by omega) IK hb;have G:=Jf r.m.k (by omega) E.g.ga IK;rw[hb.1]at G;have gd:Gd K n d:=G.gd (hb.2.1.way.trans E.g.way);have up:=Z8d r.m M S (by omega) gd hb.2.1 s3 N;obtain⟨a,b,s,f,Y⟩:=QR K c [];rw[Y,s1];generalize(stA K c []).1=md;generalize At (stA K c []).2.1 (stA K c []).2.2=ps;generalize BR (stA K c []).2.1 (stA K c []).2.2=mo;have ek:V (((j-n:Nat):Int)-1)=((j-(n+1):Nat):Int):=by rw[Ae];omega
  rw[ek];refine .some (.inl ⟨rfl,(n+1,e),rfl,⟨by dsimp only;omega,?_,up⟩,by dsimp only;omega⟩);have:(n:Int)+1=((n+1:Nat):Int):=by omega
  rw[<-this];exact s2
 ·exact .some (.inr ⟨by simp,c,n,rfl,by omega,E,N⟩)
theorem Zh9 {M0 S MD MN MI MQ MF MV:Fn} {N8 N17:Lp} (r:RetK K) {A:Int} {q:Nat} (aq:Aq A K.pb q) (hj:A<=K.pa) (hS:T5 S) {bk:Int} {J:Nat} (a0:J<=59) {G:Cv} (rc:Rm K (J+1:Nat) G) (o2:G.o2=true) (pz:Pz A q K 1 G) {pul outs:Rw} {mode sp ft:Int}:
  Out (λo=>∃(c:Cv) (n:Nat) (pul outs:Rw) (mode sp ft:Int),o=(1,I bk::(AI K.x++(pl5 K.pa K.pb K.pc K.ramp K.lag++(B8 pul outs mode (At K c) (BR K c) sp ft++Ab K c))))/\n<=300/\Rm K n c/\c.o2=true/\Sq K c)
   (Ak (Ok M0 S MD MN MI MQ MF MV N8 N17) (I bk::I ((0:Nat):Int)::(AI K.x++(pl5 K.pa K.pb K.pc K.ramp K.lag++(B8 pul outs mode (At K G) (BR K G) sp ft++Ab K G))))):=by
 refine Co (λs:Nat×Cv×Rw×Rw×Int×Int×Int=>I bk::I (s.1:Int)::(AI K.x++(pl5 K.pa K.pb K.pc K.ramp K.lag++(B8 s.2.2.1 s.2.2.2.1 s.2.2.2.2.1 (At K s.2.1) (BR K s.2.1) s.2.2.2.2.2.1 s.2.2.2.2.2.2++Ab K s.2.1))))
  (λs=>s.1<=200/\Rm K (J+1+s.1:Nat) s.2.1/\s.2.1.o2=true/\Pz A q K (s.1+1) s.2.1) (λs=>200-s.1) _ ?_ (0,G,pul,outs,mode,sp,ft) ⟨i6 _,rc,o2,pz⟩
 rintro⟨k,c,pul,outs,mode,sp,ft⟩ ⟨h1,E,O,T⟩;dsimp only at h1 E O T;refine Out.eqv (Zs2 M0 S MD MN MI MQ MF MV N8 N17 bk k K.x.a.step K.x.a.aS K.x.a.accel K.x.a.jerk K.x.a.low K.x.a.aY K.x.a.bB K.x.a.aV K.x.a.aO (K.x.a.aW.map Ao) K.x.b.step K.x.b.aS K.x.b.accel K.x.b.jerk K.x.b.low K.x.b.aY K.x.b.bB K.x.b.aV K.x.b.aO (K.x.b.aW.map Ao) K.x.c.step K.x.c.aS K.x.c.accel K.x.c.jerk K.x.c.low K.x.c.aY K.x.c.bB K.x.c.aV K.x.c.aO (K.x.c.aW.map Ao) K.pa K.pb K.pc K.ramp K.lag pul outs mode (At K c) (BR K c).x (BR K c).y (BR K c).z sp ft K c) ?_;refine .cond (λM=> ?_) λM=> ?_
 ·have M:(k:Int)<200:=Bi M;refine .bind (p:=λo=>o=_) ⟨_,hS K r.m.k c _ [] E.g.ga (by omega) IK,rfl⟩ λo e=> ?_;subst e;obtain⟨d,hb,Y⟩:=S8 (K:=K) E.r.t E.r.g0;obtain⟨e,U,s1,s2,s3,s4,s5,s6,s7⟩:=Tc r.m r.ok E (by omega) IK hb;have N:=Jf r.m.k (by omega) E.g.ga IK;rw[hb.1]at N;have gd:Gd K (J+1+k:Nat) d:=N.gd (hb.2.1.way.trans E.g.way);have X:=Q0n r.m aq hj (by omega) E s2 gd hb.2.1 (Y.trans O) s3 T;obtain⟨a,b,s,f,et⟩:=QR K c [];rw[et,s1,s6,Qd (K:=K) s7,VS (K:=K) s7];generalize(stA K c []).1=md;have ek:V ((k:Int)+1)=((k+1:Nat):Int):=by rw[Ae];omega
  rw[ek];refine .some (.inl ⟨rfl,(k+1,e,a,b,md,s,f),rfl,⟨by dsimp only;omega,?_,s4.trans (Y.trans O),X⟩,by dsimp only;omega⟩);have:((J+1+k:Nat):Int)+1=((J+1+(k+1):Nat):Int):=by omega
  rw[<-this];exact s2
 ·have M: ¬(k:Int)<200:=Bp M;have e:k=200:=by omega
  subst e;refine .some (.inr ⟨by simp,c,_,pul,outs,mode,sp,ft,rfl,by omega,E,O,?_⟩);rcases T.f (by omega)with w|w
  ·exact w
  ·have:=E.r.nx;have:=r.few;omega
def I9 (K:Kf) (h:Int) (G:Kf) (c':Cv) (n:Nat) (E s:Int) (mo:Pt):Prop:=
 ((E=4\/E=5)/\s<=h/\(Bk G n c' h\/Mz G n c' h))\/(E=1/\s=h/\c'.o2=true/\∃f,okD f/\mo=⟨(CX K.p K.x h).x+AP K.x.a f.x,(CX K.p K.x h).y+AP K.x.b f.y,(CX K.p K.x h).z+AP K.x.c f.z⟩)
theorem Zeo (O:KOK K) {h:Int} {t:Trk} {c':Cv} {n:Nat} (X:n<=9000) {S s:Int} {mo:Pt} (b:I9 K h (sT K t) c' n S s mo) (T:S≠1):
  Ga (sT K t) n c'/\KOK (sT K t)/\∃E e,EL (sT K t) c' []=(sT K E,e)/\I9 K h (sT K E) e (n+1) (stA (sT K t) c' []).1 (At (stA (sT K t) c' []).2.1 (stA (sT K t) c' []).2.2) (BR (stA (sT K t) c' []).2.1 (stA (sT K t) c' []).2.2):=by
 rcases b with⟨-,-,b⟩|⟨b,-⟩
 ·rcases b with b|b
  ·refine⟨b.b.g,b.b.m.k,?_⟩;obtain⟨E,e,mode,G,I,J,M,N⟩:=Zs8 (by omega) b;exact⟨E,e,G, .inl ⟨by rw[J];exact M,N,I⟩⟩
  ·refine⟨b.b.g,b.b.m.k,?_⟩;obtain⟨e,G,I,J,M,N⟩:=Z6t (by omega) b;refine⟨t,e,G, .inr ⟨J,M,I,?_⟩⟩;obtain⟨f,hf,U⟩:=b.leg;refine⟨f,hf,?_⟩;rw[N,U];have V:=b.b.h0;exact Zgf O.f.x O.f.p hf ⟨V.1,by
    have G:(sT K t).len=Ay (sT K t).p.aF:=b.b.m.len;omega⟩
 ·exact absurd b T
theorem Zw1 {M0 O MD MN MI MQ MF MV:Fn} {N8 N17 N22:Lp} (hk:KOK K) (hS:T5 O) {h:Int} {rp ro:Rw} {rm rs rf:Int} {rmo:Pt} {n0:Nat} (a5:n0<=400) {U:Trk} {X:Cv} {a0 b0:Rw} {J s0 sp0 ft0:Int} {M:Pt} (q0:I9 K h (sT K U) X n0 J s0 M):
  Out (λo=>∃(t:Trk) (c:Cv) (n:Nat) (a b:Rw) (G s sp ft:Int) (mo:Pt),o=(2,AI K.x++(pl5 K.pa K.pb K.pc K.ramp K.lag++(B8 rp ro rm h rmo rs rf++(B8 a b G s mo sp ft++Ab (sT K t) c))))/\I9 K h (sT K t) c n G s mo)
   (Ak (Va M0 O MD MN MI MQ MF MV N8 N17 N22) (I ((0:Nat):Int)::(AI K.x++(pl5 K.pa K.pb K.pc K.ramp K.lag++(B8 rp ro rm h rmo rs rf++(B8 a0 b0 J s0 M sp0 ft0++Ab (sT K U) X)))))):=by
 refine Co (λs:Nat×Trk×Cv×Rw×Rw×Int×Int×Int×Int×Pt=>I (s.1:Int)::(AI K.x++(pl5 K.pa K.pb K.pc K.ramp K.lag++(B8 rp ro rm h rmo rs rf++(B8 s.2.2.2.1 s.2.2.2.2.1 s.2.2.2.2.2.1 s.2.2.2.2.2.2.1 s.2.2.2.2.2.2.2.2.2 s.2.2.2.2.2.2.2.1 s.2.2.2.2.2.2.2.2.1++Ab (sT K s.2.1) s.2.2.1)))))
  (λs=>s.1<=900/\I9 K h (sT K s.2.1) s.2.2.1 (n0+s.1) s.2.2.2.2.2.1 s.2.2.2.2.2.2.1 s.2.2.2.2.2.2.2.2.2) (λs=>900-s.1) _ ?_ (0,U,X,a0,b0,J,s0,sp0,ft0,M) ⟨i6 _,q0⟩
 rintro⟨k,t,c,a,b,G,s,sp,ft,mo⟩ ⟨h1,S⟩;dsimp only at h1 S;refine Out.eqv (Zhx M0 O MD MN MI MQ MF MV N8 N17 N22 k K.x.a.step K.x.a.aS K.x.a.accel K.x.a.jerk K.x.a.low K.x.a.aY K.x.a.bB K.x.a.aV K.x.a.aO (K.x.a.aW.map Ao) K.x.b.step K.x.b.aS K.x.b.accel K.x.b.jerk K.x.b.low K.x.b.aY K.x.b.bB K.x.b.aV K.x.b.aO (K.x.b.aW.map Ao) K.x.c.step K.x.c.aS K.x.c.accel K.x.c.jerk K.x.c.low K.x.c.aY K.x.c.bB K.x.c.aV K.x.c.aO (K.x.c.aW.map Ao) K.pa K.pb K.pc K.ramp K.lag rp ro rm h rmo.x rmo.y rmo.z rs rf a b G s mo.x mo.y mo.z sp ft (sT K t) c) ?_;have stop : Out (λo : Nat × List AC => (o.1 = 0 /\ ∃ E : Nat × Trk × Cv × Rw × Rw × Int × Int × Int × Int × Pt, o.2 = I (E.1 : Int) :: (AI K.x ++ (pl5 K.pa K.pb K.pc K.ramp K.lag ++ (B8 rp ro rm h rmo rs rf ++ (B8 E.2.2.2.1 E.2.2.2.2.1 E.2.2.2.2.2.1 E.2.2.2.2.2.2.1 E.2.2.2.2.2.2.2.2.2 E.2.2.2.2.2.2.2.1 E.2.2.2.2.2.2.2.2.1 ++ Ab (sT K E.2.1) E.2.2.1)))) /\ (E.1 <= 900 /\ I9 K h (sT K E.2.1) E.2.2.1 (n0 + E.1) E.2.2.2.2.2.1 E.2.2.2.2.2.2.1 E.2.2.2.2.2.2.2.2.2) /\ 900 - E.1 < 900 - k) \/
   (o.1≠0/\∃(t:Trk) (c:Cv) (n:Nat) (a b:Rw) (G s sp ft:Int) (mo:Pt),o=(2,AI K.x++(pl5 K.pa K.pb K.pc K.ramp K.lag++(B8 rp ro rm h rmo rs rf++(B8 a b G s mo sp ft++Ab (sT K t) c))))/\I9 K h (sT K t) c n G s mo))
   (some (2,AI K.x++(pl5 K.pa K.pb K.pc K.ramp K.lag++(B8 rp ro rm h rmo rs rf++(B8 a b G s mo sp ft++Ab (sT K t) c))))):= .some (.inr ⟨by simp,t,c,_,a,b,G,s,sp,ft,mo,rfl,S⟩)
 refine .cond (λc1=> .cond (λT=> ?_) λ_=>stop) λ_=>stop;have c1:(k:Int)<900:=Bi c1;have T:G≠1:=by simpa using T
 obtain⟨g,Y,t',e,s1,s2⟩:=Zeo hk (by omega) S T;have a6:(G=4\/G=5)/\s<=h:=by
  rcases S with w|w
  ·exact⟨w.1,w.2.1⟩
  ·exact absurd w.1 T
 have go : Out (λo : Nat × List AC => (o.1 = 0 /\ ∃ E : Nat × Trk × Cv × Rw × Rw × Int × Int × Int × Int × Pt, o.2 = I (E.1 : Int) :: (AI K.x ++ (pl5 K.pa K.pb K.pc K.ramp K.lag ++ (B8 rp ro rm h rmo rs rf ++ (B8 E.2.2.2.1 E.2.2.2.2.1 E.2.2.2.2.2.1 E.2.2.2.2.2.2.1 E.2.2.2.2.2.2.2.2.2 E.2.2.2.2.2.2.2.1 E.2.2.2.2.2.2.2.2.1 ++ Ab (sT K E.2.1) E.2.2.1)))) /\ (E.1 <= 900 /\ I9 K h (sT K E.2.1) E.2.2.1 (n0 + E.1) E.2.2.2.2.2.1 E.2.2.2.2.2.2.1 E.2.2.2.2.2.2.2.2.2) /\ 900 - E.1 < 900 - k) \/
   (o.1≠0/\∃(t:Trk) (c:Cv) (n:Nat) (a b:Rw) (G s sp ft:Int) (mo:Pt),o=(2,AI K.x++(pl5 K.pa K.pb K.pc K.ramp K.lag++(B8 rp ro rm h rmo rs rf++(B8 a b G s mo sp ft++Ab (sT K t) c))))/\I9 K h (sT K t) c n G s mo))
   ((O (.vC kPt []::Ab (sT K t) c)).bind λo=>some (0,I (V ((k:Int)+1))::(AI K.x++(pl5 K.pa K.pb K.pc K.ramp K.lag++(B8 rp ro rm h rmo rs rf++(.vC kPt (wA o 0):: .vC Aa (wA o 1)::jA o 2::jA o 3::jA o 4::jA o 5::jA o 6::jA o 7::jA o 8::cR 9 o)))))):=by
  refine .bind (p:=λo=>o=_) ⟨_,hS (sT K t) Y c _ [] g (by omega) IK,rfl⟩ λo e=> ?_;subst e;obtain⟨a',b',a1,f',et⟩:=QR (sT K t) c [];rw[et,s1];generalize(stA (sT K t) c []).1=a2 at*;generalize At (stA (sT K t) c []).2.1 (stA (sT K t) c []).2.2=a3 at*;generalize BR (stA (sT K t) c []).2.1 (stA (sT K t) c []).2.2=a4 at*;have ek:V ((k:Int)+1)=((k+1:Nat):Int):=by rw[Ae];omega
  rw[ek];exact .some (.inl ⟨rfl,(k+1,t',e,a',b',a2,a3,a1,f',a4),rfl,⟨by dsimp only;omega,s2⟩,by dsimp only;omega⟩)
 refine .cond (λc3=> .cond (λc4=> ?_) λ_=> .cond (λN=> ?_) λ_=>go) λ_=> .cond (λN=> ?_) λ_=>go
 ·have c3:G≠4:=by simpa using c3
  have c4:G≠5:=by simpa using c4
  omega
 ·have N:s>h:=Bi N;omega
 ·have N:s>h:=Bi N;omega
theorem Zgu (E:KOK K) {f g:Pt} {v w u:Int} {X Y Z:Int} (G:X=v+AP K.x.a f.x) (I:Y=w+AP K.x.b f.y) (J:Z=u+AP K.x.c f.z) (bd:(v.natAbs<=3000002000/\w.natAbs<=3000002000/\u.natAbs<=3000002000)):
  (V (v+AP K.x.a g.x-X)=0\/V (v+AP K.x.a g.x-X)=K.x.a.bB\/V (v+AP K.x.a g.x-X)=V (0-K.x.a.bB))/\
  (V (w+AP K.x.b g.y-Y)=0\/V (w+AP K.x.b g.y-Y)=K.x.b.bB\/V (w+AP K.x.b g.y-Y)=V (0-K.x.b.bB))/\
  (V (u+AP K.x.c g.z-Z)=0\/V (u+AP K.x.c g.z-Z)=K.x.c.bB\/V (u+AP K.x.c g.z-Z)=V (0-K.x.c.bB)):=by
 have ok:=E.f.x.ok;have one:∀(a:Axs) (h:0<=a.bB/\a.bB<=1000) (v p q X:Int),v.natAbs<=3000002000->X=v+AP a q->V (v+AP a p-X)=0\/V (v+AP a p-X)=a.bB\/V (v+AP a p-X)=V (0-a.bB):=λa h v p q X N M=>by
  subst M;have:=Z5y h (u:=p) (w:=q) v;rw[Ae (x:=0-a.bB),Ae];omega
 exact⟨one K.x.a ok.a v g.x f.x X bd.1 G,one K.x.b ok.b w g.y f.y Y bd.2.1 I,one K.x.c ok.c u g.z f.z Z bd.2.2 J⟩
theorem YK {Y:Option (List AC)} (h:a=0\/a=b\/a=k):(bif a !=0 then(bif a !=b then(bif a !=k then some [B false]else Y)else Y)else Y)=Y:=by
 cases e0:a !=0
 ·rfl
 ·cases e1:a !=b
  ·rfl
  ·cases e2:a !=k
   ·rfl
   ·have e0:a≠0:=by simpa using e0
    have e1:a≠b:=by simpa using e1
    have e2:a≠k:=by simpa using e2
    omega
theorem Qz2 {G MS M O S T U MV:Fn} {aA:List Itm} {a b c x3 x4 j m:Int} {x0 x1 x2:Rw}
  (hV:MV []=some [B true]) {q:Bool} (hF:U [.vC Aa x0, .vC Aa x1, .vC Aa x2, .vC Aa []]=some [B q])
  (hyp : q = true -> RetK K /\ K.aA = aA.map fqI /\ K.pa = a + 50 /\ K.pb = b + 10 /\ K.pc = c + 2000 /\ ((1 <= a /\ a <= 900) /\ (2 <= b /\ b <= 201) /\ (1 <= c /\ c <= 16000)) /\ aA.length <= 4 /\
   T [.vC Aa x1, .vC Aa x2]=some (AI K.x++[I a,I b,I c,I K.ramp,I K.lag])/\S [.vC Aa x0,I 4]=some [.vC Aj (aA.map Af)]/\
   O (AI K.x++[I K.pa,I K.pb,I K.pc,I K.ramp,I K.lag]++[.vC Aj (K.aA.map Af),B true])=some (I 0::Ab K Cy))
  (b6:M [I x3,I 60]=some [I j]) (hj:0<=j/\j<60) (b7:M [I x4,I 200]=some [I m]) (hm:0<=m/\m<200)
  (hP:∀(K:Kf) (c:Cv),G (Ab K c)=some (I c.o0::I c.o1::B c.o2::B c.o3::B c.o4::Ab K c)) (hS:T5 MS):
  Qc4 G MS M O S T U MV (Ak (HK G MS M O S T U MV)) (Ak (Iw G MS M O S T U MV (Ak (HK G MS M O S T U MV))))
   (Ak (Ok G MS M O S T U MV (Ak (HK G MS M O S T U MV)) (Ak (Iw G MS M O S T U MV (Ak (HK G MS M O S T U MV))))))
   (Ak (Va G MS M O S T U MV (Ak (HK G MS M O S T U MV)) (Ak (Iw G MS M O S T U MV (Ak (HK G MS M O S T U MV))))
    (Ak (Ok G MS M O S T U MV (Ak (HK G MS M O S T U MV)) (Ak (Iw G MS M O S T U MV (Ak (HK G MS M O S T U MV))))))))
   [.vC Aa x0, .vC Aa x1, .vC Aa x2,I x3,I x4]=some [B true]:=by
 rw[Zwm];refine eB hV (eF rfl (eB hF ?_));cases q
 ·rfl
 obtain⟨r,hI,ea,eb,ec,⟨ha,hb,hc⟩,hlen,hQ,hM,hN⟩:=hyp rfl;refine eF rfl (eB hQ (eB hM ?_));generalize b8:Ak (HK G MS M O S T U MV)=N8 at*;have e8:N8 (.vC Aj (aA.map Af)::I x3::I x4::I ((aA.map Af).length:Int)::I 0::(AI K.x++pl5 (V (a+50)) (V (b+10)) (V (c+2000)) K.ramp K.lag))=some (1, .vC Aj (K.aA.map Af)::I x3::I x4::(AI K.x++pl5 K.pa K.pb K.pc K.ramp K.lag)):=by
  obtain⟨o,h1,rfl⟩:=Ze5 (M0:=G) (MS:=MS) (MD:=M) (MN:=O) (MI:=S) (MQ:=T) (MF:=U) (MV:=MV) (aA:=aA) (by omega) (x:=K.x) (p0:=V (a+50)) (p1:=V (b+10)) (p2:=V (c+2000)) (p3:=K.ramp) (p4:=K.lag) (cy:=x3) (bk:=x4);rw[b8]at h1;rw[hI,ea,eb,ec];refine cx h1 ?_;rw[Ae (x:=a+50),Ae (x:=b+10),Ae (x:=c+2000)]
 refine eB e8 (eT rfl (eB hN (eF rfl (eB b6 ?_))));obtain⟨A,p,hA,aq⟩:=Z7f (j:=K.pa) (k:=K.pb) (by omega) (by have:=r.a;have:=r.b;omega);obtain⟨J,rfl⟩:∃J:Nat,j=J:=⟨j.toNat,by omega⟩;obtain⟨o,b9,a8,n,rfl,n1,rm,up⟩:=Zgp (M0:=G) (MD:=M) (MN:=O) (MI:=S) (MQ:=T) (MF:=U) (MV:=MV) (N8:=N8) r aq hA hS (bk:=x4) (j:=J) (by omega);refine eB b9 (eT rfl ?_)
 have b1:EvE [⟨0,3,0⟩]:=⟨by simp,λe he=>by
  rw[dw]at he;subst he;show(0:Int)<=_;omega⟩
 obtain⟨d,a9,ho⟩:=Zo8 (K:=K) rm.r.t rm.r.g0;obtain⟨e,md,s1,s2,s3,s4,s5,s6,s7⟩:=Tc r.m r.ok rm (by omega) b1 a9;have a6:=Jf r.m.k (by omega) rm.g.ga b1;rw[a9.1]at a6;have gd:Gd K n d:=a6.gd (a9.2.1.way.trans rm.g.way);have b2:A<=K.pa:=by omega
 have c0:Pz A p K 0 a8:=⟨λ_=>Zuv aq (by omega) up,λq=>by omega,λq=>by omega,λq=>by omega,λq=>by omega⟩;have pz:=Q0n r.m aq b2 (by omega) rm s2 gd a9.2.1 ho s3 c0;have a7:=hS K r.m.k a8 n [⟨0,3,0⟩] rm.g.ga (by omega) b1;obtain⟨ta,tb,ts,tf,et⟩:=QR K a8 [⟨0,3,0⟩];rw[et,s1,s6,Qd (K:=K) s7,VS (K:=K) s7]at a7;generalize(stA K a8 [⟨0,3,0⟩]).1=tm at a7;have c1:Rm K (n+1:Nat) e:=by
  have:(n:Int)+1=((n+1:Nat):Int):=by omega
  rw[<-this];exact s2
 refine eB a7 ?_;obtain⟨o,c2,E,n2,u1,u2,u3,u4,u5,rfl,n3,a1,c4,rest⟩:=Zh9 (M0:=G) (MD:=M) (MN:=O) (MI:=S) (MQ:=T) (MF:=U) (MV:=MV) (N8:=N8) (N17:=Ak (Iw G MS M O S T U MV N8)) r aq b2 hS (bk:=x4) n1 c1 (s4.trans ho) pz (pul:=ta) (outs:=tb) (mode:=tm) (sp:=ts) (ft:=tf);refine eB c2 (eT rfl (eB b7 ?_));have ew:V (1+m)=1+m:=Ae;have a2:EvE [⟨0,7,1+m⟩]:=⟨by simp,λe he=>by
  rw[dw]at he;subst he;show 1+m<=_;omega⟩
 have a7:=hS K r.m.k E n2 [⟨0,7,1+m⟩] a1.g.ga (by omega) a2;have a3:MS (.vC kPt [[I 0,I 7,I (V (1+m))]]::Ab K E)=some (tkA K E [⟨0,7,1+m⟩]++Ab (EL K E [⟨0,7,1+m⟩]).1 (EL K E [⟨0,7,1+m⟩]).2):=by rw[ew];exact a7
 obtain⟨va,vb,vs,vf,et⟩:=QR K E [⟨0,7,1+m⟩];rcases Z01 r.m r.ok r.leg (by omega) a1 rest 0 (N:=1+m) (by omega)with⟨d,a5,c5⟩|⟨t,d,f,a5,bk,w1,hf,a4⟩
 ·obtain⟨e,b3,z1,z2,z3,z4,z5,z6,z7⟩:=Tc r.m r.ok a1 (by omega) a2 a5;have a6:=Jf r.m.k (by omega) a1.g.ga a2;rw[a5.1]at a6;have gd:Gd K n2 d:=a6.gd (a5.2.1.way.trans a1.g.way);have rr:=Z12 (by omega) r.m a1 rest gd a5.2.1 (c5.trans c4) z3;rw[et,z1,z5,z6,Qd (K:=K) z7,VS (K:=K) z7,VS (K:=K) rr.1]at a3;refine eB a3 (eT (bnT rr.2) ?_);show some [B ((BR K E).x==(BR K E).x&&((BR K E).y==(BR K E).y&&((BR K E).z==(BR K E).z&&true)))]=_;rw[beq_self_eq_true,beq_self_eq_true,beq_self_eq_true];rfl
 ·obtain⟨t2,e,b3,z1,z2,z3,z4,z5,z6⟩:=Zd0 a2 (by omega) r.m.k a1.g.ga a5 bk;have c6:b3=4:=z5 w1;rw[et,z1,z3,c6]at a3;refine eB a3 (eF (bnF rfl) ?_);have q0:I9 K (At K E) (sT K t2) e (n2+1) 4 (At (stA K E [⟨0,7,1+m⟩]).2.1 (stA K E [⟨0,7,1+m⟩]).2.2) (BR (stA K E [⟨0,7,1+m⟩]).2.1 (stA K E [⟨0,7,1+m⟩]).2.2):= .inl ⟨.inl rfl,z6,z2⟩;generalize At (stA K E [⟨0,7,1+m⟩]).2.1 (stA K E [⟨0,7,1+m⟩]).2.2=ps at*;generalize BR (stA K E [⟨0,7,1+m⟩]).2.1 (stA K E [⟨0,7,1+m⟩]).2.2=mo at*;obtain⟨o,b4,t3,c3,n4,y1,y2,c7,b5,y5,y6,d0,rfl,qf⟩:=Zw1 (M0:=G) (MD:=M) (MN:=O) (MI:=S) (MQ:=T) (MF:=U) (MV:=MV) (N8:=N8) (N17:=Ak (Iw G MS M O S T U MV N8)) (N22:=Ak (Ok G MS M O S T U MV N8 (Ak (Iw G MS M O S T U MV N8)))) r.m.k hS (h:=At K E) (rp:=u1) (ro:=u2) (rm:=u3) (rs:=u4) (rf:=u5) (rmo:=BR K E) (n0:=n2+1) (by omega) (a0:=va) (b0:=vb) (sp0:=vs) (ft0:=vf) q0;refine eB b4 (eF rfl (eT rfl ?_));rcases qf with⟨g1,g2,-⟩|⟨g1,g2,g3,g,hg,g4⟩
  ·refine eT (bnT (show c7≠1 by omega)) ?_;show some [B (decide (b5<=At K E))]=_;rw[am g2]
  ·refine eF (bnF g1) ?_;have c8:(CX K.p K.x (At K E)).x.natAbs<=3000002000/\(CX K.p K.x (At K E)).y.natAbs<=3000002000/\(CX K.p K.x (At K E)).z.natAbs<=3000002000:=by
    have mb:(BR K E).x.natAbs<=3000000000/\(BR K E).y.natAbs<=3000000000/\(BR K E).z.natAbs<=3000000000:=Z30 r.m.k.f.p r.m.k.f.x r.m.k.f.t _;rw[a4]at mb;have ok:=r.m.k.f.x.ok;have d1:∀(a:Axs) (u:Int),0<=a.bB/\a.bB<=1000-> -1000<=AP a u/\AP a u<=0:=λa u h=>by unfold AP;split<;>omega
    have e1:=d1 K.x.a f.x ok.a;have e2:=d1 K.x.b f.y ok.b;have e3:=d1 K.x.c f.z ok.c;dsimp only at mb;omega
   have dc:=Zgu r.m.k (f:=f) (g:=g) (X:=(BR K E).x) (Y:=(BR K E).y) (Z:=(BR K E).z) (by rw[a4]) (by rw[a4]) (by rw[a4]) c8;have last:(bif b5==At K E then(G (Ab (sT K t3) c3)).bind λc9=>some [B (bA c9 2)]else some [B false])=some [B true]:=by
    refine eT (beT g2) (eB (hP (sT K t3) c3) ?_);show some [B c3.o2]=_;rw[g3]
   rw[g4];rw[g4]at b4;refine(YK dc.1).trans ((YK dc.2.1).trans ((YK dc.2.2).trans last))
theorem Zj6 {G J M:Rw} (h0:Src G) (V:Src J) (X:Src M) (S:i64 k) (T:i64 v):
  Qw8 [.vC Aa G, .vC Aa J, .vC Aa M,I k,I v]=some [B true]:=by
 obtain⟨q,U,Y⟩:=Ze1 G J M [];have m3:0<=k%60/\k%60<60:=⟨Int.emod_nonneg _ (by decide),kh _ (by decide)⟩;have m4:0<=v%200/\v%200<200:=⟨Int.emod_nonneg _ (by decide),kh _ (by decide)⟩;cases q
 ·exact Qz2 (K:=kX []) (aA:=[]) (a:=0) (b:=0) (c:=0) Qt1 U (λh=>by cases h) (RC S (by omega)) m3 (RC T (by omega)) m4 Zdz (λK h c n E g N O=>Qt3 h g N O)
 ·obtain⟨l0,l1,l2,-⟩:=Y rfl;obtain⟨K,aA,a,b,c,w⟩:=Zr1 h0 V X (by omega);exact Qz2 (K:=K) (aA:=aA) (a:=a) (b:=b) (c:=c) Qt1 U (λ_=>w) (RC S (by omega)) m3 (RC T (by omega)) m4 Zdz (λK h c n E g N O=>Qt3 h g N O)
end Go.Bm
namespace Go.Bm
theorem Yx {r:List AC} (h:okR Aa r):i64 (Ah (nth .dead r 0)):=by
 match r,h with
 |[],h=>exact h.elim
 |a::_,h=>exact Zqy h.1
theorem Qnn {r:List AC} (h:okR [Kd.sl Aa] r):Src (CI (nth .dead r 0)):=by
 match r,h with
 |[],h=>exact h.elim
 |a::_,h=>
  have E:=h.1;unfold okC at E;refine⟨?_,λc G=>Yx (E.2 c G).1⟩;have I:=E.1;simp only[maxLen]at I;show(CI a).length<=_;omega
end Go.Bm
