/- laid together -/
import Derived.Test.YtnnpdlgenmnekaaGreatDoorPrQa
import Derived.Test.YtnnpdlgenmnekaaGreatDoorPrCw
import Derived.Test.YtnnpdlgenmnekaaGreatDoorPrTk4
import Derived.Test.YtnnpdlgenmnekaaGreatDoorMy1
import Derived.Test.YtnnpdlgenmnekaaGreatDoorPrV
import Derived.Test.YtnnpdlgenmnekaaGreatDoorMx3
set_option linter.unusedVariables false
set_option linter.unusedSimpArgs false
set_option maxRecDepth 100000
variable {i R:Nat} {K:Go.Bm.Kf} {M Z W V T S:Go.Bm.Fn} {a b q:Go.Bm.Pt} {p:Go.Bm.Pth} {t:Go.Bm.Trk} {u d:Int} {l:Go.Bm.Rw} {E:List Go.Bm.Evn} {N:Go.Bm.Lp} {z:List Go.Bm.Itm}
noncomputable section
open Go.IntKind (wrap)
namespace Go.Bm
theorem Zty {a b c d:Int} (hb:2<=b/\b<=65536) (h:d<=b):GW [I a,I b,I c,I d]=some [I 0]:=by
 by_cases D:d<=0
 ·exact Z0s a b c D
 show UY _=_;rw[Qfx];refine eF (al D) (eF (al (by omega)) (eF (al (by omega)) ?_));have e:(O (d-1)).tdiv b=0:=by rw[Ad];exact Int.tdiv_eq_zero_of_lt (by omega) (by omega)
 have z:O 0=0:=Ad;rw[e];simp only[z,jk,Int.mul_zero,Int.zero_tdiv,Int.sub_self]
theorem Yb5 {a b c:Int} (L:Plan3 a b c) (hV:Z [I a,I b,I c]=some [B true]) (T:∀d:Int,d<=b->M [I a,I b,I c,I d]=some [I 0]):
  TA M Z (Al (PJ M Z)) [I a,I b,I c,I 0,I 0]=some [I 0]:=by
 have ha:=L.a;have hb:=L.b
 have key:∀lo D:Int,-65536<=lo->lo<=0->0<=D->D<=b->Out (λo=>o=(1,[I 0])) (Al (PJ M Z) [I 0,I lo,I D,I a,I b,I c]):=by
  intro lo D G U V X;refine DD (λs:Int×Int=>[I 0,I s.1,I s.2,I a,I b,I c]) (λs=> -65536<=s.1/\s.1<=0/\0<=s.2/\s.2<=b) (λs=>(s.2-s.1).toNat) _ ?_ (lo,D) ⟨G,U,V,X⟩;rintro⟨u,v⟩ ⟨g1,g2,N,S⟩;dsimp only at g1 g2 N S;dsimp only;rw[Qzc];refine .cond (λk=> ?_) λk=> ?_
  ·have k:u<v:=Cs k;have e2:(v-u).tdiv 2=(v-u)/2:=co (by omega);rw[Ad (x:=v-u),e2,Ad (x:=(v-u)/2),Ad (x:=v-(v-u)/2)];obtain⟨w,Y⟩:∃w,w=v-(v-u)/2:=⟨_,rfl⟩;rw[<-Y];refine .bind (p:=λo=>o=[I 0]) ⟨_,T w (by omega),rfl⟩ λo e=> ?_;subst e;rw[Ad (x:=0-w)];refine .cond (λq=> ?_) λq=> ?_
   ·have q:0-w>=0:=Cs q;exact .some (.inl ⟨rfl,(w,v),rfl,⟨by dsimp only;omega,by dsimp only;omega,N,S⟩,by dsimp only;omega⟩)
   ·have q: ¬(0-w>=0):=B3 q;rw[Ad (x:=w-1)];exact .some (.inl ⟨rfl,(u,w-1),rfl,⟨g1,g2,by dsimp only;omega,by dsimp only;omega⟩,by dsimp only;omega⟩)
  ·have k: ¬u<v:=B3 k;have e:u=0:=by omega
   subst e;exact .some (.inr ⟨by simp,rfl⟩)
 rw[Zgp];refine eB hV (eF rfl (eF rfl (eF rfl ?_)));rw[Ad (x:=0-0),Ad (x:=0-0-b),Ad (x:=b-0)];obtain⟨o,G,rfl⟩:=key (0-0-b) (mn (b-0) a) (by omega) (by omega) (by unfold mn;split<;>omega) (by unfold mn;split<;>omega);refine eB G (eT rfl ?_);rw[show O (0-gA [I 0] 0)=0 from rfl]
theorem Z1c {a b c:Int} (D:Plan3 a b c):HP [I a,I b,I c,I 0,I 0]=some [I 0]:=
 Yb5 D (by rw[TU,ah];exact⟨D.a.1,D.a.2,D.b.1,D.b.2,D.c.1,D.c.2⟩) λd G=>Zty ⟨D.b.1,D.b.2⟩ G
theorem Zx8 (h:KOK K) {c:Cv} (D:c.m1=0) (G:c.m2=0) (I:c.o2=true) (l:Int):I4 (nxL K c l)=some (K_ c.m0 c.m1 c.m3 c.m4 0):=by
 have L:Out (Q4f c.m0 c.m1 c.m3 c.m4 (λv=>v=0) λr=>r=0) (I4 (nxL K c l)):=by
  unfold nxL;rw[I];exact Ztf (F:=λv=>v<=0) (by have:=h.plan.b;omega) ⟨_,by rw[D,G];exact Z1c h.plan,0,rfl,rfl⟩ (λv O hf _=>⟨_,Z40 (Ztq h.f ..),λ_=>by omega⟩) (λv=>Zkk h.f ..) Ye3 Zgl (λ_ M=>Zpi M)
 obtain⟨o,e,v,rfl,N⟩:=L;have:v=0:=by
  rcases N with q|⟨r,q,rfl⟩
  ·exact q
  ·rw[q,D];rfl
 rw[e,this]
theorem Zve {c d:Cv} {b:Bool} (h:(vF K c).aX=0) (D:S (Aj K c)=some (Az (vF K c)++[B b])) (G:T (I u::Aj K c)=some (Aj K d)):Qb1 M Z W V T S (I u::Aj K c)=some (Aj K d):=by
 rw[Zou];exact eB D (eT (show((vF K c).aX==0)=true from beT h) (eB G rfl))
theorem Yas (h:∀g∈K.p.aF,g.aX=0) (c:Cv):(vF K c).aX=0:=by
 unfold vF;cases e:HW K c with
 |none=>rfl
 |some g=>exact h g (Qwg e)
theorem Zvh (h:KOK K) (D:∀g∈K.p.aF,g.aX=0) {c:Cv} (G:c.m1=0) (L:c.m2=0) (M:c.o2=true) (l:Int):Qe (I l::Aj K c)=some (Aj K (O2 c 0)):=
 Zve (Yas D c) (Zfw h c) (Zkf (Zx8 h G L M l))
structure Zh (K : Kf) (c : Cv) : Prop where
 way:c.way=0
 pass:0<=c.aK/\c.aK<=K.p.aD.length
 m:c.m0=0/\c.m1=0/\c.m2=0/\c.m3=0/\c.m4=0
 t:c.aH=false
 g0:c.g0=0
 y0:c.y0= -1
 on:c.on=false
 o3:c.o3=false
 e:c.aI=0
structure Hk (K : Kf) : Prop where
 k:KOK K
 closed:K.closed=true
 aX:∀g∈K.p.aF,g.aX=0
 fw:Fw K.t K.len
 len:K.p.aF≠[]->0<K.len
 aP:∀i:Int,0<=i->i<K.p.aD.length->(mkK K i).aP=1\/(mkK K i).aP=2\/(mkK K i).aP=6
def HoE (E:List Evn):Prop:=E=[]\/E=[⟨0,3,0⟩]
theorem Zep {c:Cv} (z:Zh K c) {E:List Evn} (h:HoE E):Zh K (Ii c E)/\(Ii c E).aL=false/\(Ii c E).o2=(if E=[]then c.o2 else true):=by
 rcases h with rfl|rfl
 ·exact⟨⟨z.way,z.pass,z.m,z.t,z.g0,z.y0,z.on,z.o3,z.e⟩,rfl,by rw[aa rfl];rfl⟩
 ·exact⟨⟨z.way,z.pass,z.m,z.t,z.g0,z.y0,z.on,z.o3,z.e⟩,rfl,by rw[ab (by simp)];rfl⟩
theorem Yjp {c:Cv} (z:Zh K c) {E:List Evn} (h:HoE E):Zh K (FM K c E)/\(FM K c E).aL=false/\(FM K c E).o2=(if E=[]then c.o2 else true)/\(FM K c E).aM=true:=by
 obtain⟨D,G,I⟩:=Zep z h;unfold FM;generalize Ii c E=d at*;have e:Ms d=d:=by
  unfold Ms;rw[ab λq=>by rcases q with q|q;rw[D.t]at q;cases q;exact q D.g0]
 rw[e];have L:∀d:Cv,d.m0=0/\d.m1=0/\d.m2=0/\d.m3=0/\d.m4=0->FA d=true:=λd ⟨M,a1,a2,a3,a4⟩=>by
  unfold FA;rw[M,a1,a2,a3,a4];rfl
 unfold Ok;split
 ·exact⟨⟨D.way,D.pass,D.m,D.t,D.g0,D.y0,D.on,D.o3,D.e⟩,G,I,L (C_ d) D.m⟩
 ·exact⟨⟨D.way,D.pass,D.m,D.t,D.g0,D.y0,D.on,D.o3,D.e⟩,G,I,L (spS (C_ d) K.bF) D.m⟩
theorem Yjd {c:Cv} {x n:Int} (D:T [I c.o0,I c.o1,B c.o2,B c.o3,B c.o4,I x,I 3,I n]=some [I c.o0,I c.o1,B true,B c.o3,B c.o4]) (G:V [I c.g0,I c.g1,I c.g2,I x,I 3,I n]=some [I c.g0,I c.g1,I c.g2]):
  YU M Z W V T (I x::I 3::I n::Aj K c)=some (Aj K (evC c 3 n)):=
 cy (Ztv M Z W V T x 3 n K c) (eB D (eB G (eF rfl (eF rfl (eF rfl (eF rfl (eF rfl (by kernel_rfl))))))))
theorem Zz2 (c:Cv) (x n:Int):LK (I x::I 3::I n::Aj K c)=some (Aj K (evC c 3 n)):=
 Yjd (by show XK _ _=_;rw[Z2p];rfl) (by show Qi4 _ _ _=_;rw[Zpg];rfl)
theorem Yb4 {L M D N O S MU MS T U V G:Fn} {c:Cv} (X:HoE E) (hV:∀(c:Cv) (x n:Int),G (I x::I 3::I n::Aj K c)=some (Aj K (evC c 3 n))):
  Al (Sh L M D N O S MU MS T U V G) (.vC kPt (E.map evR)::I (E.map evR).length::I 0::(FD++Aj K (Ir c)))=some (1,FD++Aj K (Ii c E)):=by
 rcases X with rfl|rfl
 ·exact AJ (cy (Qdj L M D N O S MU MS T U V G [] 0 0 [] [] 0 0 0 0 0 0 0 K (Ir c)) (eF rfl rfl)) (by simp)
 ·have Y:Sh L M D N O S MU MS T U V G (.vC kPt [evR ⟨0,3,0⟩]::I 1::I 0::(FD++Aj K (Ir c)))=some (0, .vC kPt [evR ⟨0,3,0⟩]::I 1::I 1::(FD++Aj K (evC (Ir c) 3 0))):=by
   refine cy (Qdj L M D N O S MU MS T U V G [evR ⟨0,3,0⟩] 1 0 [] [] 0 0 0 0 0 0 0 K (Ir c)) (eT rfl (eT rfl (eB (hV (Ir c) 0 0) ?_)));rw[Ad (x:=(0:Int)+1)];generalize evC (Ir c) 3 0=d;rfl
  refine cy (AS Y) (AJ (cy (Qdj L M D N O S MU MS T U V G [evR ⟨0,3,0⟩] 1 1 [] [] 0 0 0 0 0 0 0 K (evC (Ir c) 3 0)) (eF rfl rfl)) (by simp))
theorem Yi1 {c:Cv} (h:c.on=false):LQ (Aj K c)=some (I 0::B false::Aj K c):=by
 show Qr4 _ _=_;rw[Z0o];exact eT (by rw[h];rfl) rfl
theorem Zng {c:Cv} (L:c.aN=false) (D:0<=c.idx) (G:c.idx<K.p.aD.length) (N:(mkK K c.idx).aP≠3) (O:W (Aj K (Nc c))=some (I 3::Aj K (U6 (Nc c)))):
  WI M Z W (Aj K c)=some (I 3::Aj K (U6 (Nc c))):=by
 rw[Z16];refine eF L (eT (inM (f:=Aq) D G) (eT ?_ (eB O rfl)));rw[show nth [] (K.p.aD.map Aq) c.idx.toNat=Aq (mkK K c.idx)from NI D G];exact bnT N
theorem Zli {c:Cv} (D:c.aN=false) (G:0<=c.idx) (L:c.idx<K.p.aD.length) (M:(mkK K c.idx).aP≠3):Ks (Aj K c)=some (I 3::Aj K (U6 (Nc c))):=
 Zng D G L M (cy (Z3c K (Nc c)) rfl)
theorem Zuh {c:Cv} (G:0<=u) (L:u<K.p.aD.length) (N:(mkK K u).aP=1\/(mkK K u).aP=2\/(mkK K u).aP=6) {d:Cv} (D:M (Aj K {c with on:=true,idx:=u,aN:=c.o3,cnt:=0})=some (I 3::Aj K d)):
  Qjz M (I u::Aj K c)=some (I 3::Aj K d):=by
 have e:gA (nth [] (K.p.aD.map Aq) u.toNat) 1=(mkK K u).aP:=by rw[show nth [] (K.p.aD.map Aq) u.toNat=Aq (mkK K u)from NI G L];rfl
 rw[Yi3,e];refine eT (inM (f:=Aq) G L) ?_;rcases N with q|q|q<;>rw[q]
 ·exact eT rfl (eB D rfl)
 ·exact eF rfl (eT rfl (eB D rfl))
 ·exact eF rfl (eF rfl (eT rfl (eB D rfl)))
abbrev Zib (d:Cv) (i:Int):Cv:=U6 (Nc {d with on:=true,idx:=i,aN:=d.o3,cnt:=0})
theorem Q1o {c:Cv} {known frm:Int}:∀{l:List Mrk} {i:Nat},(Fq c known frm l i).2<0->(Fq c known frm l i).1=known
 |[],_,_=>rfl
 |m::l,i,h=>by
  unfold Fq at h⊢;split
  ·rename_i q;rw[aa q]at h;simp only at h;omega
  ·rename_i q;rw[ab q]at h;exact Q1o h
def E1 (K:Kf) (d:Cv):Int×Cv:=
 if d.m0=O ((BS K d).1*256)then(if 0<=(BS K d).2 then(3,Zib d (BS K d).2)else(7,{d with aI:=7}))else(1,O2 d 0)
theorem Zyb {c:Cv} (L:c.aM=true) (N:K.closed=true) (S:c.g0=0) (T:V (Aj K c)=some (I (BS K c).1::I (BS K c).2::Aj K c)) (U:0<=(BS K c).2->(BS K c).2<K.p.aD.length/\(mkK K (BS K c).2).aU≠c.y0)
  (hB:0<=(BS K c).2->W (I (BS K c).2::Aj K c)=some (I 3::Aj K (Zib c (BS K c).2))) (X:c.m0≠O ((BS K c).1*256)->M (I (BS K c).1::Aj K c)=some (Aj K (O2 c 0))):
  YE M Z W V (Aj K c)=some (I (E1 K c).1::Aj K (E1 K c).2):=by
 rw[Z8s];unfold E1;generalize BS K c=D at*;refine eB T (eT L (eC (λe=> ?_) λe=> ?_))
 ·rw[aa (show c.m0=O (D.1*256)from eq_of_beq e)];refine eC (λk=> ?_) λk=> ?_
  ·have k:0<=D.2:=Cs k;rw[aa k];obtain⟨G,Y⟩:=U k;refine eB (hB k) (eT (inM (f:=Aq) k G) (eF ?_ rfl));show(gA (nth [] (K.p.aD.map Aq) D.2.toNat) 2==c.y0)=false;rw[show nth [] (K.p.aD.map Aq) D.2.toNat=Aq (mkK K D.2)from NI k G];exact beF Y
  ·rw[ab (show¬0<=D.2 from B3 k)];exact eT N rfl
 ·have e:c.m0≠O (D.1*256):=λe'=>by
   have:(c.m0==O (D.1*256))=false:=e;rw[beT e']at this;cases this
  rw[ab e];exact eF (bnF S) (eB (X e) rfl)
theorem Zym (k:Hk K) {d:Cv} (z:Zh K d) (U:d.aM=true) (T:d.o2=true\/(K.len=0/\K.p.aD=[])):
  Lf (Aj K d)=some (I (E1 K d).1::Aj K (E1 K d).2)/\((Zh K (E1 K d).2/\((E1 K d).1=3\/(E1 K d).1=1))\/((E1 K d).1=7/\K.p.aF=[]/\(E1 K d).2={d with aI:=7}))/\(E1 K d).2.aL=d.aL/\(E1 K d).2.o2=d.o2/\(K.len=0/\K.p.aD=[]->(E1 K d).1=7):=by
 obtain⟨m0,m1,m2,m3,m4⟩:=z.m;have M:=Zox K d;have hle:(BS K d).2<0->(BS K d).1=Cr K.t K.len:=λq=>by
  have e:=Q1o (c:=d) (known:=D_ K) (frm:=Ie K (Qy K d)) (l:=K.p.aD.drop (max d.next 0).toNat) (i:=(max d.next 0).toNat) q;show Cr K.t (BJ K d (D_ K) (Ie K (Qy K d))).1=_;rw[show(BJ K d (D_ K) (Ie K (Qy K d))).1=D_ K from e];unfold D_;rw[aa k.closed]
 have V:0<=K.len:=by
  have:=(k.fw.rg 0).1;have:=(k.fw.rg 0).2;omega
 have hw:=k.fw.wh K.len V (f6 _);have a1:=k.fw.len;have X:K.p.aF≠[]-> ¬(Cr K.t K.len*256=0):=λN q=>by
  have l0:=k.len N;have q0:Cr K.t K.len=0:=by omega
  have h1:=hw.2.2.1;rw[q0,k.fw.zero]at h1;omega
 have Y:O (Cr K.t K.len*256)=Cr K.t K.len*256:=Ad;have G:K.len=0/\K.p.aD=[]->(BS K d).2<0/\d.m0=O ((BS K d).1*256):=λN=>by
  obtain⟨e1,e2⟩:=N;have T:(BS K d).2<0:=by
   rcases M with M|M
   ·omega
   ·rw[e2]at M;simp at M;omega
  rw[hle T,e1,m0];have:Cr K.t 0=0:=by
   have h2:=(k.fw.wh 0 (by omega) (by omega)).2.2.2;have h3:=(k.fw.wh 0 (by omega) (by omega)).1;by_cases q:Cr K.t 0=0
   ·exact q
   ·have:=h2 0 (by omega) (by omega);rw[k.fw.zero]at this;omega
  rw[this];exact⟨by rw[<-e1]at*;exact T,rfl⟩
 have a0:d.m0≠O ((BS K d).1*256)->d.o2=true:=λq=>T.resolve_right λN=>q (G N).2;have L:0<=(BS K d).2->(BS K d).2<K.p.aD.length:=λD=>by
  rcases M with M|M
  ·omega
  ·exact M.2.2
 refine ⟨Zyb U k.closed z.g0 (Z34 k.k d) (λD => ⟨L D, by have := (Zet k.k D (L D)).1; rw [z.y0]; omega⟩) (λD => by
  have hk:=k.aP _ D (L D);exact Zuh D (L D) hk (Zli z.o3 D (L D) (by show(mkK K (BS K d).2).aP≠3;omega))) λq=>Zvh k.k k.aX m1 m2 (a0 q) _,?_⟩
 unfold E1;by_cases S:d.m0=O ((BS K d).1*256)
 ·rw[aa S];by_cases D:0<=(BS K d).2
  ·rw[aa D];exact⟨.inl ⟨⟨z.way,z.pass,z.m,z.t,z.g0,z.y0,rfl,z.o3,z.e⟩, .inl rfl⟩,rfl,rfl,λq=>by have:=(G q).1;omega⟩
  ·rw[ab D];refine⟨.inr ⟨rfl,?_,rfl⟩,rfl,rfl,λ_=>rfl⟩;by_cases N:K.p.aF=[]
   ·exact N
   ·exfalso;rw[hle (by omega),Y,m0]at S;exact X N S.symm
 ·rw[ab S];have q1:(O2 d 0).m0=0:=by show O (d.m0+0)=0;rw[m0];rfl
  have q2:(O2 d 0).m2=0:=by show O (0-d.m1)=0;rw[m1];rfl
  exact⟨.inl ⟨⟨z.way,z.pass,⟨q1,rfl,q2,m0,m3⟩,z.t,z.g0,z.y0,z.on,z.o3,z.e⟩, .inr rfl⟩,rfl,rfl,λq=>absurd (G q).2 S⟩
end Go.Bm
namespace Go.Bm
open Classical
end Go.Bm
namespace Go.Bm
end Go.Bm
namespace Go.Bm
open Classical
end Go.Bm
namespace Go.Bm
end Go.Bm
namespace Go.Bm
open Classical
end Go.Bm
namespace Go.Bm
abbrev atE (E:List Evn) (k:Int):List Evn:=E.filter λe=>e.cycle==k
structure Os (c d : Cv) : Prop where
 on:d.on=c.on
 aI:d.aI=c.aI
 aH:d.aH=c.aH
 gu:(d.g0=c.g0/\d.g1=c.g1/\d.g2=c.g2)\/(c.g0=0/\d.g0=1/\d.g1=18)
end Go.Bm
namespace Go.Bm
open Classical
structure okW (R : Nat) (s : Spk) : Prop where
 ok:okS s
 u:s.u.natAbs<=R
 w:s.w.natAbs<=R
 r:s.r<=R
theorem Z13 {a b:Spk} (G:okW R a) (hb:okW R b) {dir:Int} (I:dir=1\/dir= -1) (bG:Bool):okW R (B9 a b dir bG):=by
 have D:=KD G.ok hb.ok I bG;have L:=TM G.ok.2.2.1 hb.ok.2.2.1;have M:hf a.r b.r<=R:=by have:=G.r;have:=hb.r;unfold hf;omega
 refine⟨Tn G.ok hb.ok I bG,?_,?_,?_⟩;all_goals
  unfold B9 ED;split
  ·simp
  ·rename_i h;obtain⟨N,O⟩:=Qkp D.1 D.2 L h;simp only;omega
theorem Qn0 {R:Nat} {dir:Int} (G:dir=1\/dir= -1):∀(k:Nat) (bG:Bool) {a b:Spk},okW R a->okW R b->∀s∈BM dir k bG a b,okW R s
 |0,_,a,b,_,hb,s,D=>by simp[BM]at D;subst D;exact hb
 |k+1,bG,a,b,I,hb,s,D=>by
  unfold BM at D;have L:=Z13 I hb G bG;split at D
  ·simp at D;subst D;exact hb
  ·rcases bq.1 D with D|D
   ·exact Qn0 G k false I L s D
   ·exact Qn0 G k false L hb s D
theorem Qyy {it:Itm} {c:Nat} (D:bd 1048576 it.ce) (G:bd 1048576 a) (S:(dU it a).natAbs<=c) (T:(dW it a).natAbs<=c):okW (32*c+1) (Bv it a):=by
 obtain⟨g1,g2,M,N⟩:=LS D G;refine⟨L7 D G,?_,?_,?_⟩
 ·show(dU it a*16).natAbs<=_;omega
 ·show(dW it a*16).natAbs<=_;omega
 ·show EG _<=_;obtain⟨n,I⟩:=bc M;have hle:n<=(32*c)*(32*c):=by
   have U:=B7 (x:=dU it a*16) (A:=16*c) (by omega);have V:=B7 (x:=dW it a*16) (A:=16*c) (by omega);have e:(32*c)*(32*c)=4*(16*c*(16*c)):=by grind
   unfold sq2 at I;generalize 16*c*(16*c)=m at*;omega
  rw[I]at N⊢;obtain⟨r,L,O⟩:=Mu n;rw[NZ (On L O)];have:r<=32*c:=Nat.mul_self_le_mul_self_iff.1 (bj L hle);split<;>omega
theorem Ygs {it:Itm} (h:Made it) (O:bd 40004 it.fr) (T:bd 40004 it.to):∀p∈Bs it,bd 1000000 p:=by
 have U:=Zft h (AI O (by omega)) (AI T (by omega));intro p I;unfold Bs at I;by_cases S:it.aP=3
 ·rw[aa S]at I;obtain⟨G,hd,Y,-⟩:=U.2.2.2 S;have L:=h.arc S;obtain⟨-,V⟩:=UU L (by omega) O;obtain⟨r,k,t,g,x,e1,e2,e3,e4,e5,e6,e7,e8,e9,a0,a3,M,X⟩:=L.ends;obtain⟨⟨r1,r2⟩,r3,r4⟩:=K3 (r:=r) (k:=k) (by omega);obtain⟨⟨r5,r6⟩,r7,r8⟩:=K3 (r:=r+g) (k:=k+t) (by omega);have a1:(dU it it.fr).natAbs<=20/\(dW it it.fr).natAbs<=20:=by unfold dU dW;rw[M,(G9 G).1,(G9 G).2.1];omega
  have a2:(dU it it.to).natAbs<=20/\(dW it it.to).natAbs<=20:=by unfold dU dW;rw[M,X,(G9 G).1,(G9 G).1,(G9 G).2.1,(G9 G).2.1];omega
  have k1:=Qyy Y U.2.1 a1.1 a1.2;have k2:=Qyy Y U.2.2.1 a2.1 a2.2;simp only[ba]at I;obtain⟨s,D,rfl⟩:=I
  have hh:∀s∈B0 it,s.h.natAbs<=640064:=by
   have key:∀(k:Nat) (bG:Bool) (a b:Spk),a.h.natAbs<=640064->b.h.natAbs<=640064->∀s∈BM it.dir k bG a b,s.h.natAbs<=640064:=by
    intro k;induction k with
    |zero=>intro bG a b L hb s D;simp[BM]at D;subst D;exact hb
    |succ k ih=>
     intro bG a b L hb s D;have hm:(B9 a b it.dir bG).h.natAbs<=640064:=by
      unfold B9 ED;split
      ·simp
      ·show(hf a.h b.h).natAbs<=_;unfold hf;omega
     unfold BM at D;split at D
     ·simp at D;subst D;exact hb
     ·rcases bq.1 D with D|D
      ·exact ih false _ _ L hm s D
      ·exact ih false _ _ hm hb s D
   have f1:=(D8 (pl:=it.aG) O).2.2;have f2:=(D8 (pl:=it.aG) T).2.2;have b1:(Bv it it.fr).h.natAbs<=640064:=by show(plH it.aG it.fr*16).natAbs<=_;omega
   have b2:(Bv it it.to).h.natAbs<=640064:=by show(plH it.aG it.to*16).natAbs<=_;omega
   intro s D;rcases av.1 D with rfl|D
   ·exact b1
   ·exact key 16 _ _ _ b1 b2 s D
  have N:okW (32*20+1) s:=by
   rcases av.1 D with rfl|D
   ·exact k1
   ·exact Qn0 hd 16 _ k1 k2 s D
  have a4:=hh s D;obtain⟨c1,c2,-⟩:=D8 (pl:=it.aG) (DA V);have u1:=N.u;have u2:=N.w;have:(8:Int).toNat=8:=rfl;unfold II;exact Qop (by omega) (by omega) (by omega)
 ·rw[ab S]at I;simp at I;rcases I with rfl|rfl
  ·exact AI (DA O) (by decide)
  ·exact AI (DA T) (by decide)
theorem Zao:∀{l:List Itm} {p:Pt},(∀it∈l,AB it)->LR p l->Ld p l
 |[],_,_,_=>trivial
 |it::l,p,h,D=>by
  unfold Ld;rw[aa (h it (by simp))];exact⟨D.1,Zao (λi G=>h i (by simp[G])) D.2⟩
theorem Zq7 (h:Motions 40004 a z):Items 40004 a z:=by
 have G:∀it∈z,AB it:=λit D=>by have:=h.made it D;exact⟨by have:=this.1.aP;omega,by have:=this.2.2.1;omega⟩
 exact⟨Zao G h.chain,λit D=> .inl ⟨G it D,(h.made it D).1,(h.made it D).2.1,(h.made it D).2.2.2⟩⟩
theorem Q9k (aA:List Itm):AM aA=⟨(As aA aA.length).aQ,(As aA aA.length).aF,(As aA aA.length).aD⟩:=rfl
noncomputable def mkA (aA:List Itm) (i:Nat):Mrk:=⟨(As aA (i+1)).len,if AB (vE aA i)then E5 aA i else Kl (vE aA i),i⟩
theorem Up (aA:List Itm):∀n,(As aA n).aD=(List.range n).map (mkA aA)
 |0=>rfl
 |n+1=>by
  rw[List.range_succ,bp,<-Up aA n];show(Dz aA n (As aA n)).aD=_;unfold mkA;show _=_++[(⟨(Dz aA n (As aA n)).len,_,_⟩:Mrk)];unfold Dz;by_cases c:AB (vE aA n)
  ·simp only[aa c]
  ·simp only[ab c]
theorem Zh6:∀l:List Itm,EE l=1\/EE l=2
 |[]=> .inr rfl
 |it::l=>by
  unfold EE
  repeat' split
  all_goals first|exact .inl rfl|exact .inr rfl|exact Zh6 l
theorem Zra (aA:List Itm) (i:Nat):E5 aA i=6\/E5 aA i=1\/E5 aA i=2:=by
 unfold E5;have:=Zh6 (aA.drop (i+1))
 repeat' split
 all_goals omega
end Go.Bm
namespace Go.Bm
def KL (m:Int):Bool:=m==7||m==8
abbrev tV (l:Rw):AC:= .vC [Kd.sl kPt,Kd.sl Aa,kI,kI,kI,kI,kI,kI,kI] l
theorem Zw2 (D:E.length<=1000000) (k:Int):PE [.vC kPt (E.map evR),I k]=some [.vC kPt ((atE E k).map evR)]:=by
 have G:Al U9 [.vC kPt [],I k, .vC kPt (E.map evR),I E.length,I ((0:Nat):Int)]=some (1,[.vC kPt ((E.filter λe=>e.cycle==k).map evR)]):=by
  refine Zuu (P:=λe=>e.cycle==k) D (enc:=λl i=>[.vC kPt l,I k, .vC kPt (E.map evR),I E.length,I (i:Int)]) λl i M L=> ?_;rw[Zqw];by_cases h:i<E.length
  ·rw[jb h,BO (by simp;omega),BO (by simp;omega),Q8y E h,Ad (x:=(i:Int)+1)];by_cases c:(E[i].cycle==k)=true
   ·rw[BO (show(gA (evR E[i]) 0==k)=true from c),Dp (by simp;omega),aa c];rfl
   ·rw[BZ (show(gA (evR E[i]) 0==k)=false from Bool.eq_false_iff.2 c),ab c,gr];rfl
  ·rw[dif_neg h,BZ (by simp;omega)]
 show Qvf (Al U9) [.vC kPt (E.map evR),I k]=_;rw[Yif,ac];rw[show(0:Int)=((0:Nat):Int)from rfl,G];rfl
def VE:Int->List Evn->Prop
 |_,[]=>True
 |p,e::l=>(p<=e.cycle/\e.cycle<=1073741824/\1<=e.aP/\e.aP<=13/\ -1073741824<=e.n/\e.n<=1073741824)/\VE e.cycle l
theorem Qwu {E:List Evn} (L:E.length<=2000):∀(m i:Nat) (p:Int),i+m=E.length->VE p (E.drop i)->Al Nj [I p, .vC kPt (E.map evR),I E.length,I (i:Int)]=some (2,[])
 |0,i,p,h,_=>by
  have e:Nj [I p, .vC kPt (E.map evR),I E.length,I (i:Int)]=some (2,[]):=by
   rw[Zhz];exact eF (al (by omega)) rfl
  exact AJ e (by simp)
 |m+1,i,p,h,D=>by
  have G:i<E.length:=by omega
  rw[gp G]at D;obtain⟨⟨M,N,O,S,T,U⟩,D⟩:=D;have e:Nj [I p, .vC kPt (E.map evR),I E.length,I (i:Int)]=some (0,[I E[i].cycle, .vC kPt (E.map evR),I E.length,I ((i+1:Nat):Int)]):=by
   rw[Zhz];refine eT (ah (by omega)) (eT (by rw[ac];simp;omega) ?_);rw[Q8y E G,Ad (x:=(i:Int)+1)];exact eF (al (show¬E[i].cycle<p by omega)) (eF (al (show¬E[i].cycle>1073741824 by omega)) (eF (al (show¬E[i].aP<1 by omega)) (eF (al (show¬E[i].aP>13 by omega)) (eF (al (show¬E[i].n< -1073741824 by omega)) (eF (al (show¬E[i].n>1073741824 by omega)) rfl)))))
  rw[AS e];exact Qwu L m (i+1) _ (by omega) D
theorem Zzv (D:E.length<=2000) (h:VE 0 E):Pp [.vC kPt (E.map evR)]=some [B true]:=by
 show Qqb (Al Nj) [.vC kPt (E.map evR)]=_;rw[Z6k,ac];exact eF (al (by omega)) (eB (Qwu D E.length 0 0 (by omega) h) rfl)
def De:Rw->Rw
 |[]=>[]
 |t::l=>wA t 0++De l
theorem Q7l {c:Cv} (h:c.m0=0):Cw c=0:=by
 show O (c.m0.tdiv 256)=0;rw[h];rfl
theorem Qxy {x:Ax3} (L:0<=t.length) (D:M (pxt p x t [I 0])=some (ptR q)):Yw M (Al (Vb M)) (pxt p x t [I 0,I 0])=some [.vC kPt []]:=by
 have e:mx 0 (mn 0 t.length)=0:=by
  unfold mn mx
  (repeat' split)<;>omega
 rw[Z00,e];refine eB D ?_;have G:Vb M (.vC kPt []::I 0::I 0::pxt p x t [I q.x,I q.y,I q.z])=some (1,[.vC kPt []]):=by
  rw[Yjb];exact eF rfl rfl
 exact eB (AJ G (by decide)) rfl
theorem Q8t (k:Hk K):U_ K 0 0=[]:=by
 have e:Lg (pxt K.p K.x K.t [I 0,I 0])=some [.vC kPt []]:=Qxy k.fw.len.1 (S4 k.k.f 0);unfold U_;rw[e];rfl
theorem Yen {O S D G L M MU MS T U V X:Fn} {c:Cv} (frm:Int) (Y:MU (Aj K c)=some (I 0::B false::Aj K c)) (hO:M (Aj K c)=some (I 0::B false::Aj K c)) (hP:L (Aj K c)=some (I 0::B false::Aj K c))
  (hB:G (Aj K c)=some (I 0::B false::Aj K c)) (hG:D (Aj K c)=some (I 0::B false::Aj K c)):
  Al (Ke O S D G L M MU MS T U V X N) (GN K frm 0 c)=some (1,Q0n K frm 0 c):=by
 have e:=λi=>Z94 O S D G L M MU MS T U V X N frm 5 i [] [] 0 0 0 0 0 0 0 [] [] 0 0 0 0 0 0 0 K c;have s0:Ke O S D G L M MU MS T U V X N (GN K frm 0 c)=some (0,GN K frm 1 c):=cy (e 0) (eT rfl (eT rfl (eB Y rfl)));have s1:Ke O S D G L M MU MS T U V X N (GN K frm 1 c)=some (0,GN K frm 2 c):=cy (e 1) (eT rfl (eF rfl (eT rfl (eB hO rfl))));have s2:Ke O S D G L M MU MS T U V X N (GN K frm 2 c)=some (0,GN K frm 3 c):=cy (e 2) (eT rfl (eF rfl (eF rfl (eT rfl (eB hP rfl)))));have s3:Ke O S D G L M MU MS T U V X N (GN K frm 3 c)=some (0,GN K frm 4 c):=cy (e 3) (eT rfl (eF rfl (eF rfl (eF rfl (eT rfl (eB hB rfl))))));have s4:Ke O S D G L M MU MS T U V X N (GN K frm 4 c)=some (0,GN K frm 5 c):=cy (e 4) (eT rfl (eF rfl (eF rfl (eF rfl (eF rfl (eT rfl (eB hG rfl)))))));rw[AS s0,AS s1,AS s2,AS s3,AS s4];exact AJ (cy (e 5) (eF rfl rfl)) (by simp)
theorem Ycc {d:Cv} {o:Nat×List AC} (G:∃e,o.2=FD++Aj K e) (L:N (GN K u 0 d)=some (1,Q0n K u 0 d)) {w:Int×Cv} (T:M (Aj K d)=some (I w.1::Aj K w.2))
  {D outs:Rw} {pos O S:Int} {mt:Pt} {q:Cv} (U:Z (I u::(Aj K w.2++[.vC kPt [], .vC Aa [],I w.1,I 0,I 0,I 0,I 0,I 0,I 0]))=some (Aj K q++ST D outs w.1 pos mt O S)):
  JN N o M Z (I u) (Aj K d)=some (ST D outs w.1 pos mt O S++Aj K q):=by
 obtain⟨o1,o2⟩:=o;obtain⟨e,G⟩:=G;dsimp only at G;subst G;exact eB L (eT rfl (eT rfl (eB T (eB U rfl))))
def stH (K:Kf) (c:Cv) (E:List Evn):Int×Cv:=E1 K (FM K c E)
def tkH (K:Kf) (c:Cv) (E:List Evn):List AC:=ST [] ((Cl K (stH K c E).2 0).1.map At) (stH K c E).1 0 (Th K (stH K c E).2) (stH K c E).2.s3 (stH K c E).2.g1
def H1 (K:Kf) (c:Cv) (E:List Evn):Cv:=(Cl K (stH K c E).2 0).2
theorem XW (K:Kf) (s:Int):∀(l:List Mrk) (c:Cv),c.aK<=(El K s l c).2.aK/\(El K s l c).2.aK<=c.aK+l.length
 |[],c=>by simp[El]
 |m::l,c=>by
  unfold El;split
  ·simp only[bf];omega
  ·split
   ·have:=XW K s l {c with outs:=swI c.outs (itK K m.aU),aK:=c.aK+1};simp only[bf]at this⊢;omega
   ·have:=XW K s l {c with aK:=c.aK+1};simp only[bf]at this⊢;omega
theorem Qt (k:Hk K) {c:Cv} (z:Zh K c) {E:List Evn} (G:HoE E) (hm:(if E=[]then c.o2 else true)=true\/(K.len=0/\K.p.aD=[])):
  I5 (.vC kPt (E.map evR)::Aj K c)=some (tkH K c E++Aj K (H1 K c E))/\wA (tkH K c E) 0=[]/\gA (tkH K c E) 3=0/\gA (tkH K c E) 2=(stH K c E).1/\
   ((Zh K (H1 K c E)/\((stH K c E).1=3\/(stH K c E).1=1))\/((stH K c E).1=7/\K.p.aF=[]))/\(H1 K c E).o2=(if E=[]then c.o2 else true)/\(K.len=0/\K.p.aD=[]->(stH K c E).1=7):=by
 obtain⟨D,hc,U,L⟩:=Yjp z G;have M:=Zep z G;obtain⟨V,N,X,Y,r5⟩:=Zym k D L (by rw[U];exact hm);have hs:stH K c E=E1 K (FM K c E):=rfl;rw[<-hs]at V N X Y r5;have O:(stH K c E).2.way=0/\(0<=(stH K c E).2.aK/\(stH K c E).2.aK<=K.p.aD.length)/\(stH K c E).2.m0=0:=by
  rcases N with⟨q,-⟩|⟨-,-,q⟩
  ·exact⟨q.way,q.pass,q.m.1⟩
  ·rw[q];exact⟨D.way,D.pass,D.m.1⟩
 have u1:=Q7l (c:=Ii c E) M.1.m.1;have u2:=Q7l O.2.2;have hp:Do K (stH K c E).2=0:=by
  show A7 K.t (Cw (stH K c E).2)=0;rw[u2,k.fw.zero]
 refine⟨?_,rfl,rfl,rfl,?_,?_,r5⟩
 ·have hU:=(Z12 K (FM K c E)).trans (ie some (ab (by rw[D.g0];decide)));have hO:J_ (Aj K (FM K c E))=some (I 0::B false::Aj K (FM K c E)):=by
   refine(Zpq K _).trans ?_;rw[D.e];rfl
  have hP:=(Zyk K (FM K c E)).trans (ie some (ab (by rw[D.t];simp)));have hB:=Yi1 (K:=K) D.on;have hG:=Z1u (K:=K) D.way;have S:=X.trans hc;unfold tkH H1;generalize stH K c E=w at*;have he:=Yjm (MM:=E7) (MP:=Nm) (MB:=Lg) (MO:=GY) (MU:=DK) (frm:=0) (mode:=w.1) O.1 S (SG K _) (Zfl k.k _) ⟨_,by rw[u2];exact Qxy k.fw.len.1 (S4 k.k.f 0),by rw[u2,Q8t k];show wA [AC.vC kPt []] 0=[];rfl⟩ (λs=>Zuz k.k O.2.1 s) (Qpv K _) (S4 k.k.f);rw[u2,Q8t k,hp]at he;generalize Cl K w.2 0=ps at*;generalize Th K w.2=mt at*;refine Ykj (Yb4 G Zz2) (Z75 k.k) Z9h (SG K) Z83 λoo T=> ?_;rw[u1];generalize FM K c E=d at*;exact Ycc T (Yen _ hU hO hP hB hG) V he
 ·rcases N with⟨q,qm⟩|⟨q,qs,-⟩
  ·refine .inl ⟨?_,qm⟩;unfold H1;generalize(stH K c E).2=d at*;obtain⟨n',q',e⟩:=Qpv K d 0;have hb:=XW K 0 (K.p.aD.drop d.aK.toNat) d;rw[dc]at hb;have hb:d.aK<=(Cl K d 0).2.aK/\(Cl K d 0).2.aK<=d.aK+((K.p.aD.length-d.aK.toNat:Nat):Int):=hb;rw[e]at hb⊢;have a0:=q.pass;exact⟨q.way,by dsimp only at hb⊢;omega,q.m,q.t,q.g0,q.y0,q.on,q.o3,q.e⟩
  ·exact .inr ⟨q,qs⟩
 ·unfold H1;obtain⟨n',q',e⟩:=Qpv K (stH K c E).2 0;rw[e];exact Y.trans U
def Fc (K:Kf) (E:List Evn):Nat->Nat->Cv->Rw
 |0,_,_=>[]
 |n+1,k,c=>tkH K c (atE E k)::if KL (stH K c (atE E k)).1=true then []else Fc K E n (k+1) (H1 K c (atE E k))
theorem Q83 (K:Kf) (E:List Evn):∀(n k:Nat) (c:Cv),(Fc K E n k c).length<=n
 |0,_,_=>bt _
 |n+1,k,c=>by
  have:=Q83 K E n (k+1) (H1 K c (atE E k));unfold Fc;split
  ·simp
  ·simpa using this
structure RunH (MS : Fn) (K : Kf) (E : List Evn) (n0 : Nat) (J : Nat -> Cv -> Prop) : Prop where
 step:∀(k:Nat) (c:Cv),J k c->k<n0->MS (.vC kPt ((atE E k).map evR)::Aj K c)=some (tkH K c (atE E k)++Aj K (H1 K c (atE E k)))/\gA (tkH K c (atE E k)) 2=(stH K c (atE E k)).1
 next:∀(k:Nat) (c:Cv),J k c->k<n0->KL (stH K c (atE E k)).1=false->J (k+1) (H1 K c (atE E k))
theorem Q6r {MS G MN MV:Fn} {K:Kf} {E:List Evn} {n0:Nat} (S:n0<=1073741824) {J:Nat->Cv->Prop} (L:RunH MS K E n0 J) (M:∀k:Nat,G [.vC kPt (E.map evR),I k]=some [.vC kPt ((atE E k).map evR)]):
  ∀(n k:Nat) (acc:Rw) (c:Cv),k+n=n0->acc.length<=k->J k c->
   Al (O3 MS G MN MV) (tV acc:: .vC kPt (E.map evR)::I n0::I k::Aj K c)=some (1,[tV (acc++Fc K E n k c)])
 |0,k,acc,c,h,_,_=>by
  have e:O3 MS G MN MV (tV acc:: .vC kPt (E.map evR)::I n0::I k::Aj K c)=some (1,[tV acc]):=by
   rw[Zdo];exact eF (al (by omega)) rfl
  rw[AJ e (by simp),Fc,gr]
 |n+1,k,acc,c,h,V,N=>by
  have T:=(L.step k c N (by omega)).1;have hb:Nat.ble ((acc++[tkH K c (atE E k)]).length*104) 140737488355328=true:=Dp (by rw[ap,fa];omega);have key:∀{r:Option (Nat×List AC)},(bif(stH K c (atE E k)).1==7 then some (1,[tV (acc++[tkH K c (atE E k)])])else bif(stH K c (atE E k)).1==8 then some (1,[tV (acc++[tkH K c (atE E k)])])else some (0,tV (acc++[tkH K c (atE E k)]):: .vC kPt (E.map evR)::I n0::I ((k+1:Nat):Int)::Aj K (H1 K c (atE E k))))=r->
    O3 MS G MN MV (tV acc:: .vC kPt (E.map evR)::I n0::I k::Aj K c)=r:=by
   rintro r rfl;rw[Zdo];refine eT (ah (by omega)) (eB (M k) (eB T (eT hb ?_)));rw[Ad (x:=(k:Int)+1)];rfl
  rw[Fc];cases D:KL (stH K c (atE E k)).1
  ·have O:((stH K c (atE E k)).1==7)=false/\((stH K c (atE E k)).1==8)=false:=by unfold KL at D;simpa using D
   rw[AS (key (by rw[O.1,O.2];rfl)),ab (by simp),Q6r S L M n (k+1) _ _ (by omega) (by rw[ap,fa];omega) (L.next k c N (by omega) D),d9];rfl
  ·rw[aa rfl];refine AJ (key ?_) (by simp);unfold KL at D;cases U:(stH K c (atE E k)).1==7
   ·rw[U]at D;have D:((stH K c (atE E k)).1==8)=true:=D;rw[D];rfl
   ·rfl
theorem Zp3 (T:i<=1073741824) {K:Kf} {J:Nat->Cv->Prop} (U:RunH M K E i J) (X:∀k:Nat,Z [.vC kPt (E.map evR),I k]=some [.vC kPt ((atE E k).map evR)])
  (hV:V [.vC kPt (E.map evR)]=some [B true]) {x:Ax3} {G L N O S:Int} {D:Rw} {c:Cv} (Y:W (AK x++[I G,I L,I N,I O,I S]++[.vC Ae D,B true])=some (I 0::Aj K c)) (h0:J 0 c):
  Qmp M Z W V (Al (O3 M Z W V)) (AK x++[I G,I L,I N,I O,I S]++[.vC Ae D, .vC kPt (E.map evR),I (i:Int)])=some [tV (Fc K E i 0 c),I 0]:=by
 refine cy (Zxv M Z W V _ x.a.step x.a.aS x.a.bD x.a.bE x.a.low x.a.aY x.a.bB x.a.aV x.a.aO (x.a.aW.map At) x.b.step x.b.aS x.b.bD x.b.bE x.b.low x.b.aY x.b.bB x.b.aV x.b.aO (x.b.aW.map At) x.c.step x.c.aS x.c.bD x.c.bE x.c.low x.c.aY x.c.bB x.c.aV x.c.aO (x.c.aW.map At) G L N O S D (E.map evR) i) ?_;have hl:=Q6r (MN:=W) (MV:=V) T U X i 0 [] c (by omega) (bt _) h0;exact eB hV (eF rfl (eF (al (by omega)) (eB Y (eF rfl (eB hl (eT rfl rfl))))))
theorem Q3q (S:E.length<=2000) (T:VE 0 E) {n0:Nat} (U:n0<=1073741824) {K:Kf} {J:Nat->Cv->Prop} (V:RunH I5 K E n0 J)
  {x:Ax3} {G L M N O:Int} {D:Rw} {c:Cv} (X:I2 (AK x++[I G,I L,I M,I N,I O]++[.vC Ae D,B true])=some (I 0::Aj K c)) (Y:J 0 c):
  KX (AK x++[I G,I L,I M,I N,I O]++[.vC Ae D, .vC kPt (E.map evR),I (n0:Int)])=some [tV (Fc K E n0 0 c),I 0]:=
 Zp3 U V (λk=>Zw2 (by omega) k) (Zzv S T) X Y
def SP (E:List Evn) (N:Nat):Prop:=∀k:Nat,k<N->atE E k=if k=0 then [⟨0,3,0⟩]else []
theorem Wq (G:SP E i) {k:Nat} (I:k<i) {c:Cv} (L:k≠0->c.o2=true):HoE (atE E k)/\(if atE E k=[]then c.o2 else true)=true:=by
 rw[G k I];by_cases D:k=0
 ·rw[aa D];exact⟨.inr rfl,ab (by simp)⟩
 ·rw[ab D];exact⟨.inl rfl,by rw[aa rfl];exact L D⟩
theorem Yjw (k:Hk K) {E:List Evn} {N:Nat} (G:SP E N):RunH I5 K E N λi c=>Zh K c/\(i≠0->c.o2=true):=
 ⟨λi c h D=>by
  obtain⟨g1,g2⟩:=Wq G D h.2;have:=Qt k h.1 g1 (.inl g2);exact⟨this.1,this.2.2.2.1⟩,λi c h D I=>by
  obtain⟨g1,g2⟩:=Wq G D h.2;obtain⟨-,-,-,-,q,o,-⟩:=Qt k h.1 g1 (.inl g2);rcases q with⟨q,-⟩|⟨q,-⟩
  ·exact⟨q,λ_=>o.trans g2⟩
  ·rw[q]at I;cases I⟩
theorem Zjo {K:Kf} (k:Hk K) {E:List Evn} {N:Nat} (I:SP E N):∀(n i:Nat) (c:Cv),i+n=N->Zh K c->(i≠0->c.o2=true)->
  De (Fc K E n i c)=[]/\(∀t∈Fc K E n i c,gA t 3=0)/\(K.p.aF≠[]->(Fc K E n i c).length=n/\∀t∈Fc K E n i c,gA t 2≠7)
 |0,i,c,_,_,_=>⟨rfl,λt h=>(by cases h),λ_=>⟨rfl,λt h=>(by cases h)⟩⟩
 |n+1,i,c,hn,z,S=>by
  obtain⟨g1,g2⟩:=Wq I (show i<N by omega) S;obtain⟨-,L,M,T,q,o,-⟩:=Qt k z g1 (.inl g2);unfold Fc;generalize tkH K c (atE E i)=tk at*;generalize(stH K c (atE E i)).1=U at*;rcases q with⟨q,O⟩|⟨q,V⟩
  ·obtain⟨i1,X,Y⟩:=Zjo k I n (i+1) _ (by omega) q λ_=>o.trans g2;have hm: ¬KL U=true:=by rcases O with rfl|rfl<;>decide
   rw[ab hm];refine⟨by unfold De;rw[L,i1];rfl,λt D=> ?_,λG=> ?_⟩
   ·rcases av.1 D with rfl|D
    ·exact M
    ·exact X t D
   ·obtain⟨j1,j2⟩:=Y G;refine⟨by rw[bf,j1],λt D=> ?_⟩;rcases av.1 D with rfl|D
    ·rw[T];rcases O with rfl|rfl<;>decide
    ·exact j2 t D
  ·subst q;rw[aa (by decide)];exact⟨by unfold De;rw[L];rfl,λt D=>by rw[eu]at D;subst D;exact M,λG=>absurd V G⟩
def ok1 (r:Nat) (a b t:Int):Bool:=bif decide (0<=a)then decide (a*r+b<=t)else bif Nat.beq r 1 then decide (a+5*max (b-t) 0<=0)else decide (a*(r-1)+b<=t)
theorem Zyi {aA:List Itm} (D:K.p=AM aA) {i:Int} (L:0<=i) (M:i<aA.length):mkK K i=mkA aA i.toNat:=by
 have G:i.toNat<aA.length:=by omega
 have I:i.toNat<(As aA aA.length).aD.length:=by rw[Up];simpa using G
 unfold mkK;rw[D,Q9k];simp only;rw[List.getD,ai I];simp only[Up,gh,List.getElem_range];rfl
theorem Yh2 (aA:List Itm):(AM aA).aD.length=aA.length:=by rw[Q9k];simp[Up]
end Go.Bm
namespace Go.Bm
open Classical
end Go.Bm
namespace Go.Bm
end Go.Bm
namespace Go.Bm
open Classical
theorem Qzg {aU aZ aX:Int}:∀(D:List Pt) (s:List Sgm×Int×Pt),∃l,(D.foldl (AP aU aZ aX) s).1=s.1++l/\∀g∈l,g.aU=aU/\g.aX=aX
 |[],s=>⟨[],by simp,by simp⟩
 |q::D,s=>by
  obtain⟨l,G,L⟩:=Qzg (aU:=aU) (aZ:=aZ) (aX:=aX) D (AP aU aZ aX s q);by_cases c:q=s.2.2
  ·have e:AP aU aZ aX s q=s:=by unfold AP;rw[aa c]
   rw[e]at G;exact⟨l,by rw[dz,e];exact G,L⟩
  ·have e:(AP aU aZ aX s q).1=s.1++[⟨q,Au s.2.2 q,aU,aZ,aX⟩]:=by unfold AP;rw[ab c]
   refine⟨⟨q,Au s.2.2 q,aU,aZ,aX⟩::l,?_,?_⟩
   ·rw[dz,G,e,d9];rfl
   ·intro g I;rcases av.1 I with rfl|I
    ·exact⟨rfl,rfl⟩
    ·exact L g I
theorem Zui (aA:List Itm) (i:Nat):∃l,(As aA (i+1)).aF=(As aA i).aF++l/\∀g∈l,g.aU=i/\g.aX=Gs (vE aA i)/\AB (vE aA i):=by
 show∃l,(Dz aA i (As aA i)).aF=_/\_;unfold Dz;by_cases c:AB (vE aA i)
 ·rw[aa c];obtain⟨l,I,D⟩:=Qzg (aU:=i) (aZ:=Es (vE aA i) (As aA i).aS) (aX:=Gs (vE aA i)) (Bo aA i (As aA i).frm) ((As aA i).aF,(As aA i).len,if(As aA i).bI=true then(As aA i).at_ else Av (vE aA i).fr);exact⟨l,I,λg G=>⟨(D g G).1,(D g G).2,c⟩⟩
 ·rw[ab c];exact⟨[],by simp,by simp⟩
def fqI (it:Itm):Itm:=if it.aP=1 then it else{it with aZ:=2000000}
theorem Z37 (it:Itm):(fqI it).aP=it.aP:=by unfold fqI;split<;>rfl
theorem Q0h (it:Itm):(fqI it).fr=it.fr:=by unfold fqI;split<;>rfl
theorem Q0g (it:Itm):(fqI it).to=it.to:=by unfold fqI;split<;>rfl
theorem Yb2 {it:Itm} (h:Made it) (D:it.aP<=3):Made (fqI it):=by
 unfold fqI;split
 ·exact h
 ·refine⟨h.aP,h.line,λq=> ?_,λ_=>(show(1:Int)<=2000000/\(2000000:Int)<=60000000 from⟨by decide,by decide⟩),h.bH,λq=> ?_,h.free,h.bG⟩
  ·have a:=h.arc q;exact⟨a.aP,a.aG,a.dir,a.ends⟩
  ·rcases q with q|q
   ·have q:it.aP=5:=q;omega
   ·have q:it.aP=6:=q;omega
theorem Q8n:∀{l:List Itm} {p:Pt},LR p l->LR p (l.map fqI)
 |[],_,h=>h
 |it::l,p,h=>⟨(Q0h it).trans h.1,by rw[Q0g];exact Q8n h.2⟩
theorem Ykg (h:Motions 40004 b z):Motions 40004 b (z.map fqI):=by
 refine⟨Q8n h.chain,λit G=> ?_⟩;obtain⟨a,I,rfl⟩:=ba.1 G;obtain⟨L,M,D,N,O⟩:=h.made a I;refine⟨Yb2 L D,?_,by rw[Z37];exact D,by rw[Q0h];exact N,by rw[Q0g];exact O⟩;unfold fqI;split<;>exact M
theorem Qyu {aA:List Itm} (h:∀it∈aA,it.aP<=3):∀i:Nat,i<=aA.length->∀g∈(As aA i).aF,g.aX=0
 |0,_,g,D=>by cases D
 |i+1,I,g,D=>by
  obtain⟨l,e,G⟩:=Zui aA i;rw[e]at D;rcases bq.1 D with q|q
  ·exact Qyu h i (by omega) g q
  ·rw[(G g q).2.1];have L:=h (vE aA i) (by unfold vE;rw[List.getD,ai (by omega)];exact bh _);unfold Gs;rw[ab (λq=>by unfold syI at q;omega)]
theorem Yc2 {l m:Rw} (N:Src l) (D:Src m) (O:m.length<=100000):∃(x:Ax3) (a b c bF lag:Int),Oa [.vC Aa l, .vC Aa m]=some (AK x++[I a,I b,I c,I bF,I lag])/\MachOK x (a+50) (b+10) (c+2000) bF lag/\(1<=a/\a<=900)/\(2<=b/\b<=201)/\(1<=c/\c<=16000):=by
 obtain⟨x,S,T⟩:=Z8q N;obtain⟨a,b,c,U,G,L,M⟩:=Ztc (MF:=DM) (JR D) (Tw m);obtain⟨bF,lag,g1,g2⟩:=Zqi (MP:=R8) (MF:=DM) (JR D) (Tw m) S T U G L M O;exact⟨x,a,b,c,bF,lag,g1,⟨g2.x,⟨by omega,by omega,by omega⟩,g2.bF,g2.lag⟩,G,L,M⟩
end Go.Bm
namespace Go.Bm
def qI (it:Itm):Itm:=if it.aP=2\/it.aP=3 then{it with aZ:=2000000}else it
theorem Z7m {it:Itm} (h:1<=it.aP/\it.aP<=3):qI it=fqI it:=by
 unfold qI fqI;by_cases c:it.aP=1
 ·rw[aa c,ab]
 ·rw[ab c,aa]
abbrev Lq:List AC:=[I 0,I 0,I 0,I 0,I 0,I 0,I 0,I 0,I 0, .vC Aa [],I 0,I 0,I 0,I 0,I 0,I 0,I 0,I 0,I 0, .vC Aa [],I 0,I 0,I 0,I 0,I 0,I 0,I 0,I 0,I 0, .vC Aa [],I 0,I 0,I 0,I 0,I 0]
theorem Ye7 (hl:z.length<=100000) {x:Ax3} {p0 p1 p2 p3 p4:Int}:
  Out (λo=>o=(1, .vC Ae ((z.map qI).map Af)::(AK x++([I p0,I p1,I p2,I p3,I p4]++Lq))))
   (Al Qld (.vC Ae (((z.take 0).map qI++z.drop 0).map Af)::I ((z.map Af).length:Int)::I ((0:Nat):Int)::(AK x++([I p0,I p1,I p2,I p3,I p4]++Lq)))):=by
 refine DD (λk:Nat=> .vC Ae (((z.take k).map qI++z.drop k).map Af)::I ((z.map Af).length:Int)::I (k:Int)::(AK x++([I p0,I p1,I p2,I p3,I p4]++Lq)))
  (λk=>k<=z.length) (λk=>z.length-k) _ ?_ 0 (Nat.zero_le _)
 intro k hk;refine Out.eqv (Z8m (((z.take k).map qI++z.drop k).map Af) ((z.map Af).length:Int) k x.a.step x.a.aS x.a.bD x.a.bE x.a.low x.a.aY x.a.bB x.a.aV x.a.aO (x.a.aW.map At) x.b.step x.b.aS x.b.bD x.b.bE x.b.low x.b.aY x.b.bB x.b.aV x.b.aO (x.b.aW.map At) x.c.step x.c.aS x.c.bD x.c.bE x.c.low x.c.aY x.c.bB x.c.aV x.c.aO (x.c.aW.map At) p0 p1 p2 p3 p4 0 0 0 0 0 0 0 0 0 [] 0 0 0 0 0 0 0 0 0 [] 0 0 0 0 0 0 0 0 0 [] 0 0 0 0 0) ?_;have el:((z.map Af).length:Int)=z.length:=by rw[ac]
 have T:(((z.take k).map qI++z.drop k).map Af).length=z.length:=by
  rw[ac,ap,ac,fx,dc];omega
 refine .cond (λM=> ?_) λM=> ?_
 ·have M:=Cs M;have L:k<z.length:=by omega
  have U:z.drop k=z[k]::z.drop (k+1):=gp L;have V:((z.take k).map qI).length=k:=by rw[ac,fx];omega
  have N:nth [] (((z.take k).map qI++z.drop k).map Af) (k:Int).toNat=Af z[k]:=by
   rw[af,Fs [] _ k (by rw[T];exact L),gh,List.getElem_append_right (by rw[V];exact bt _)];simp only[V,i6,U,List.getElem_cons_zero]
  have Y:(z.take (k+1)).map qI++z.drop (k+1)=(z.take k).map qI++qI z[k]::z.drop (k+1):=by
   rw[ig,ai L,bp,d9];rfl
  have es:∀it:Itm,(((z.take k).map qI++z.drop k).map Af).set (k:Int).toNat (Af it)=((z.take k).map qI++it::z.drop (k+1)).map Af:=λit=>by
   rw[U,bp,be,bp,be,af];have:=Yfu (((z.take k).map qI).map Af) (Af z[k]) (Af it) ((z.drop (k+1)).map Af);rw[ac,V]at this;exact this
  have fin:(z[k].aP=2\/z[k].aP=3)->Out (λo=>(o.1=0/\∃S:Nat,o.2= .vC Ae (((z.take S).map qI++z.drop S).map Af)::I ((z.map Af).length:Int)::I (S:Int)::(AK x++([I p0,I p1,I p2,I p3,I p4]++Lq))/\S<=z.length/\z.length-S<z.length-k)\/o.1≠0/\o=(1, .vC Ae ((z.map qI).map Af)::(AK x++([I p0,I p1,I p2,I p3,I p4]++Lq))))
    (bif decide (0<=(k:Int))&&decide ((k:Int)<((((z.take k).map qI++z.drop k).map Af).length:Int))then some ((0:Nat), .vC Ae ((((z.take k).map qI++z.drop k).map Af).set (k:Int).toNat (Af {z[k]with aZ:=2000000}))::I ((z.map Af).length:Int)::I (O ((k:Int)+1))::(AK x++([I p0,I p1,I p2,I p3,I p4]++Lq)))else none):=λhq=>by
   refine .cond (λ_=> ?_) λe=>(inB (by omega) (by rw[T];omega) e).elim;have X:qI z[k]={z[k]with aZ:=2000000}:=by unfold qI;rw[aa hq]
   rw[Ad (x:=(k:Int)+1),es,<-X,<-Y];exact .some (.inl ⟨rfl,k+1,rfl,by omega,by omega⟩)
  refine .cond (λ_=> ?_) λe=>(inB (by omega) (by rw[T];omega) e).elim;refine .cond (λD=> ?_) λD=> ?_
  ·rw[N]at D;have D:(z[k].aP==2)=true:=D;refine Out.eqv ?_ (fin (.inl (by simpa using D)));show(bif _ then _ else _)=_;rw[N];rfl
  ·refine .cond (λ_=> ?_) λe=>(inB (by omega) (by rw[T];omega) e).elim;refine .cond (λG=> ?_) λG=> ?_
   ·rw[N]at G;have G:(z[k].aP==3)=true:=G;refine Out.eqv ?_ (fin (.inr (by simpa using G)));show(bif _ then _ else _)=_;rw[N];rfl
   ·rw[N]at D G;have D:(z[k].aP==2)=false:=D;have G:(z[k].aP==3)=false:=G;have X:qI z[k]=z[k]:=by unfold qI;rw[ab (by rintro(h|h)<;>simp[h]at D G)]
    refine .some (.inl ⟨rfl,k+1,?_,by omega,by omega⟩);dsimp only;rw[Y,X,<-U,Ad (x:=(k:Int)+1)];rfl
 ·have M:=B3 M;have e:k=z.length:=by omega
  refine .some (.inr ⟨by simp,?_⟩);rw[e,gf,List.drop_length,gr];rfl
theorem Yh6 {aA:List Itm} (G:aA.length<=100000) (x:Ax3) {p0 p1 p2:Int} (p3 p4:Int) (L:0<=p0/\p0<=1000000) (M:0<=p1/\p1<=1000000) (N:0<=p2/\p2<=1000000):
  Pv (.vC Ae (aA.map Af)::(AK x++[I p0,I p1,I p2,I p3,I p4]))=some (.vC Ae ((aA.map qI).map Af)::(AK x++[I (p0+50),I (p1+10),I (p2+2000),I p3,I p4])):=by
 obtain⟨o,D,rfl⟩:=Ye7 G (x:=x) (p0:=p0) (p1:=p1) (p2:=p2) (p3:=p3) (p4:=p4);refine cy (Yg6 RL (aA.map Af) x.a.step x.a.aS x.a.bD x.a.bE x.a.low x.a.aY x.a.bB x.a.aV x.a.aO (x.a.aW.map At) x.b.step x.b.aS x.b.bD x.b.bE x.b.low x.b.aY x.b.bB x.b.aV x.b.aO (x.b.aW.map At) x.c.step x.c.aS x.c.bD x.c.bE x.c.low x.c.aY x.c.bB x.c.aV x.c.aO (x.c.aW.map At) p0 p1 p2 p3 p4) ?_;have D:RL (.vC Ae (aA.map Af)::I ((aA.map Af).length:Int)::I 0::(AK x++([I p0,I p1,I p2,I p3,I p4]++Lq)))=_:=D;refine eB D (eT rfl ?_);rw[<-Ad (x:=p0+50),<-Ad (x:=p1+10),<-Ad (x:=p2+2000)];rfl
theorem Zmd:I9 [tV []]=some [B false]:=by
 show S9 _=_;rw[Q63];rfl
theorem Zfk (l:Rw) (t:List AC) (D:l.length<=1073741824):I9 [tV (l++[t])]=some [B (gA t 2==7)]:=by
 show S9 _=_;rw[Q63];have e:((l++[t]).length:Int)=l.length+1:=by rw[ap,fa];omega
 rw[e,Ad (x:=(l.length:Int)+1-1),show(l.length:Int)+1-1=l.length by omega];refine eT (ah (by omega)) (eT (by rw[ah (by omega),ah (by omega)];rfl) ?_);rw[af,Fs [] _ l.length (by rw[ap,fa];omega),List.getElem_append_right (bt _)];simp only[i6,List.getElem_singleton]
theorem Yg7:J7 0=⟨#[48]⟩:=by
 unfold J7 Lib.itoa;rw[ab (by decide),Lib.decDigits,jb (by decide)];rfl
theorem Z54:J7 7=⟨#[55]⟩:=by
 unfold J7 Lib.itoa;rw[ab (by decide),Lib.decDigits,jb (by decide)];rfl
theorem Zp4:J7 160=⟨#[49,54,48]⟩:=by
 unfold J7 Lib.itoa;rw[ab (by decide),show(160:Int).toNat=160 from rfl,Lib.decDigits,dif_neg (by decide),show 160/10=16 from rfl,Lib.decDigits,dif_neg (by decide),show 16/10=1 from rfl,Lib.decDigits,jb (by decide)];rfl
theorem Qgz {n:Int} (h: -9223372036854775808<=n/\n<=9223372036854775807):Mf [I n]=some [.raw (.string (J7 n))]:=by
 show cond (decide (-9223372036854775808<=n)&&decide (n<=9223372036854775807)) _ _=_;rw[ah h.1,ah h.2];rfl
theorem Zml (D:M [I 0]=some [.raw (.string ⟨#[48]⟩)]) (G:M [I 7]=some [.raw (.string ⟨#[55]⟩)]) (L:M [I 160]=some [.raw (.string ⟨#[49,54,48]⟩)]):
  YO M (Al (Sj M)) [I 0, .vC kPt [], .vC Aa [],I 7,I 160,I 0,I 0,I 0,I 0,I 0]=some [.raw (.string ⟨#[48,32,109,111,100,101,55,32,97,116,49,54,48,32,102,97,117,108,116,48,10]⟩)]:=by
 have N:Sj M [AC.raw (Go.Value.string ⟨#[48,32,109,111,100,101,55,32,97,116,49,54,48,32,102,97,117,108,116,48]⟩), .vC Aa [],I 0,I 0]=some (1,[AC.raw (Value.string ⟨#[48,32,109,111,100,101,55,32,97,116,49,54,48,32,102,97,117,108,116,48]⟩)]):=by
  rw[Z1t];rfl
 rw[Z32];exact eB D (eT rfl (eB G (eT rfl (eT rfl (eB L (eT rfl (eT rfl (eB D (eT rfl (eB (AJ N (by simp)) (eT rfl (eT rfl rfl))))))))))))
theorem Yj5:Qej [I 0, .vC kPt [], .vC Aa [],I 7,I 160,I 0,I 0,I 0,I 0,I 0]=some [.raw (.string ⟨#[48,32,109,111,100,101,55,32,97,116,49,54,48,32,102,97,117,108,116,48,10]⟩)]:=
 Zml (by rw[Qgz (by decide),Yg7]) (by rw[Qgz (by decide),Z54]) (by rw[Qgz (by decide),Zp4])
theorem Yik {b:ByteArray} (h:M [I 0, .vC kPt [], .vC Aa [],I 7,I 160,I 0,I 0,I 0,I 0,I 0]=some [.raw (.string b)]) (hb:b.size<=1000):
  QZ M [tV [[.vC (Aa++(Aa++(Aa++[]))) [], .vC Aa [],I 7,I 160,I 0,I 0,I 0,I 0,I 0]]]=some [.raw (.string ⟨b.data.toList.toArray⟩)]:=by
 refine eT rfl ?_;have e:Gh M [[.vC (Aa++(Aa++(Aa++[]))) [], .vC Aa [],I 7,I 160,I 0,I 0,I 0,I 0,I 0]] 1=some b.data.toList:=by
  refine eB (x:=[]) rfl (eT rfl (eB h (eT (Dp ?_) rfl)));show 0+b.size<=_;omega
 exact eB e rfl
theorem Z61:QI [tV [[.vC (Aa++(Aa++(Aa++[]))) [], .vC Aa [],I 7,I 160,I 0,I 0,I 0,I 0,I 0]]]=some [.raw (.string ⟨#[48,32,109,111,100,101,55,32,97,116,49,54,48,32,102,97,117,108,116,48,10]⟩)]:=
 Yik Yj5 (by decide)
theorem Yeh {t:List AC} (D:W (AK Zz++[I 9,I 3,I 100,I 1,I 0]++[.vC Ae (([]:List Itm).map Af), .vC kPt (([]:List Evn).map evR),I ((5:Nat):Int)])=some [tV [t],I 0]) (G:Z [tV [t]]=some [B true])
  (L:M [tV [[.vC (Aa++(Aa++(Aa++[]))) [], .vC Aa [],I 7,I 160,I 0,I 0,I 0,I 0,I 0]]]=some [.raw (.string ⟨#[48,32,109,111,100,101,55,32,97,116,49,54,48,32,102,97,117,108,116,48,10]⟩)]):
  Qkw M Z W []=some [B true]:=by
 rw[Yij];exact eB D (eT rfl (eT rfl (eB G (eT rfl (eB L (ie (λq=>some [B q]) (beq_self_eq_true (ByteArray.toList ⟨#[48,32,109,111,100,101,55,32,97,116,49,54,48,32,102,97,117,108,116,48,10]⟩))))))))
theorem Qqf:∀a b:Rw,De (a++b)=De a++De b
 |[],_=>rfl
 |t::a,b=>by
  show wA t 0++De (a++b)=wA t 0++De a++De b;rw[Qqf a b,d9]
theorem Z6o (h:i<l.length):De (l.take (i+1))=De (l.take i)++wA l[i] 0:=by
 rw[ig,ai h,Qqf];show _++(wA l[i] 0++[])=_;rw[gr]
theorem Yez (l:Rw) (i:Nat):(De (l.take i)).length<=(De l).length:=by
 have:=ie List.length (Qqf (l.take i) (l.drop i));rw[i7,ap]at this;omega
theorem Zc3 {l:Rw} (G:l.length<=1073741824) (L:(De l).length<=5000000000000):∀(m i:Nat),i+m=l.length->
  Al Pd [.vC kPt (De (l.take i)),tV l,I l.length,I (i:Int)]=some (1,[.vC kPt (De l)])
 |0,i,h=>by
  have e:Pd [.vC kPt (De (l.take i)),tV l,I l.length,I (i:Int)]=some (1,[.vC kPt (De (l.take i))]):=by
   rw[Q8f];exact eF (al (by omega)) rfl
  rw[AJ e (by simp),ia (by omega)]
 |m+1,i,h=>by
  have D:i<l.length:=by omega
  have M:=Yez l (i+1);have e:Pd [.vC kPt (De (l.take i)),tV l,I l.length,I (i:Int)]=some (0,[.vC kPt (De (l.take (i+1))),tV l,I l.length,I ((i+1:Nat):Int)]):=by
   rw[Q8f];refine eT (ah (by omega)) (eT (by rw[ah (by omega),ah (by omega)];rfl) ?_);rw[af,Fs [] l i D,<-Z6o D,Ad (x:=(i:Int)+1)];exact eT (Dp (by omega)) rfl
  rw[AS e];exact Zc3 G L m (i+1) (by omega)
theorem Zl7 (D:l.length<=1073741824) (G:(De l).length<=5000000000000):Rj [tV l]=some [.vC kPt (De l)]:=by
 show Zm (Al Pd) [tV l]=_;rw[Zzc];exact eB (Zc3 D G l.length 0 (by omega)) rfl
theorem Q4w {l:Rw} (L:l.length<=1073741824) (D:∀t∈l,gA t 3=0):∀(m i:Nat),i+m=l.length->
  Al O5 [I 0,tV l,I l.length,I (i:Int)]=some (1,[I 0])
 |0,i,h=>by
  have e:O5 [I 0,tV l,I l.length,I (i:Int)]=some (1,[I 0]):=by
   rw[Zhn];exact eF (al (by omega)) rfl
  exact AJ e (by simp)
 |m+1,i,h=>by
  have G:i<l.length:=by omega
  have e:O5 [I 0,tV l,I l.length,I (i:Int)]=some (0,[I 0,tV l,I l.length,I ((i+1:Nat):Int)]):=by
   rw[Zhn];refine eT (ah (by omega)) (eT (by rw[ah (by omega),ah (by omega)];rfl) ?_);rw[af,Fs [] l i G,D _ (bh G),Ad (x:=(i:Int)+1)];rfl
  rw[AS e];exact Q4w L D m (i+1) (by omega)
theorem Zsj (D:l.length<=1073741824) (G:∀t∈l,gA t 3=0):R6 [tV l]=some [I 0]:=by
 show Qmv (Al O5) [tV l]=_;rw[Z1l];exact eB (Q4w D G l.length 0 (by omega)) rfl
end Go.Bm
namespace Go.Bm
open Classical
end Go.Bm
namespace Go.Bm
abbrev evH (n:Int):List Evn:=[⟨0,3,0⟩,⟨n,4,0⟩]
theorem Zof {n:Int} (h:(i:Int)<n):atE (evH n) i=if i=0 then [⟨0,3,0⟩]else []:=by
 have D:(n==(i:Int))=false:=by
  rw[beq_eq_false_iff_ne];omega
 by_cases G:i=0
 ·subst G;rw[aa rfl];have D:(n==(0:Int))=false:=D;simp[List.filter,D]
 ·have I:((0:Int)==(i:Int))=false:=by
   rw[beq_eq_false_iff_ne];omega
  rw[ab G];simp[List.filter,I,D]
theorem Yag (a b c d:Rw):∃q:Bool,QG [.vC Aa a, .vC Aa b, .vC Aa c, .vC Aa d]=some [B q]/\(q=true->a.length<=60/\b.length<=60/\c.length<=60/\d.length<=60):=by
 obtain⟨q,I,D⟩:=Ydb (L:=[a,b,c,d]) (by simp);refine⟨q,?_,λh=>⟨D h a (by simp),D h b (by simp),D h c (by simp),D h d (by simp)⟩⟩;show Qcx KK _=_;rw[Zl9];have G:KK [.vC [Kd.sl Aa] [[.vC Aa a],[.vC Aa b],[.vC Aa c],[.vC Aa d]]]=some [B q]:=I;rw[G];rfl
theorem Z1d {U V X Y MR MQ MC ML D MF MA:Fn} {G L M:Rw} {q:Bool} (hA:MA []=some [B true]) (hF:MF [.vC Aa G, .vC Aa L, .vC Aa M, .vC Aa []]=some [B q])
  (w : q = true -> ∃ (K : Kf) (aA : List Itm) (a b c r : Int) (n : Nat) (T : Rw), D [I u, I 4] = some [I r] /\ ML [.vC Aa G, I (O (1 + r))] = some [.vC Ae (aA.map Af)] /\
   MC [.vC Aa L, .vC Aa M]=some (AK K.x++[I a,I b,I c,I K.bF,I K.lag])/\MQ (.vC Ae (aA.map Af)::(AK K.x++[I a,I b,I c,I K.bF,I K.lag]))=some (.vC Ae (K.aA.map Af)::(AK K.x++[I K.pa,I K.pb,I K.pc,I K.bF,I K.lag]))/\
   D [I d,I 60]=some [I (n:Int)]/\MR (AK K.x++[I K.pa,I K.pb,I K.pc,I K.bF,I K.lag]++[.vC Ae (K.aA.map Af), .vC kPt ((evH n).map evR),I (n:Int)])=some [tV T,I 0]/\
   Y [.vC Ae (K.aA.map Af)]=some (Bj K.p++[I 0])/\X [tV T]=some [.vC kPt []]/\U [tV T]=some [I 0]/\(K.p.aF≠[]->T.length=n/\V [tV T]=some [B false])):
  Qss U V X Y MR MQ MC ML D MF MA [.vC Aa G, .vC Aa L, .vC Aa M,I u,I d]=some [B true]:=by
 rw[Yft];refine eB hA (eF rfl (eB hF ?_));cases q
 ·exact eT rfl rfl
 ·obtain⟨K,aA,a,b,c,r,n,T,h1,h2,h3,h4,h5,h6,h7,h8,h9,N⟩:=w rfl;refine eF rfl (eB h1 (eB h2 (eB h3 (eB h4 (eB h5 (eB h6 (eB h7 (eT rfl (eT rfl (eB h8 (eT rfl ?_)))))))))));by_cases S:K.p.aF=[]
  ·refine eT ?_ (eB h9 rfl);show(((K.p.aF.map Az).length:Int)==0)=true;rw[S];rfl
  ·obtain⟨g1,g2⟩:=N S;refine eF ?_ (eT ?_ (eB g2 (eT rfl (eB h9 rfl))))
   ·show(((K.p.aF.map Az).length:Int)==0)=false;have:K.p.aF.length≠0:=λh=>S (fy h);rw[ac];exact beF (by omega)
   ·show((T.length:Int)==(n:Int))=true;rw[g1];exact beT rfl
theorem Ur (K:Kf):Zh K CR:=⟨rfl,⟨by decide,by show(0:Int)<=_;omega⟩,⟨rfl,rfl,rfl,rfl,rfl⟩,rfl,rfl,rfl,rfl,rfl,rfl⟩
theorem hk0:Hk (kX []):=by
 have n0:=Zhc machX (aA:=[]) (by simp) Q78 true;have D:(kX []).p.aF=[]:=by show(AM []).aF=[];rw[So]
 have L:(kX []).p.aD=[]:=by show(AM []).aD=[];rw[So]
 refine⟨n0.2,rfl,λg G=> ?_,?_,λh=>absurd D h,λi M I=> ?_⟩
 ·rw[D]at G;cases G
 ·exact Zcm machX.x.ok (Sg (aA:=[]) (by simp) rfl)
 ·rw[L]at I;simp at I;omega
theorem ZL:(kX []).len=0/\(kX []).p.aD=[]:=⟨by show AT (AM []).aF=0;rw[So];rfl,by show(AM []).aD=[];rw[So]⟩
theorem Qvn:(stH (kX []) CR []).1=7:=(Qt hk0 (Ur (kX [])) (E:=[]) (.inl rfl) (.inr ZL)).2.2.2.2.2.2 ZL
theorem Z0c:RunH I5 (kX []) [] 5 λk c=>k=0/\c=CR:=by
 have G:=ZL;refine⟨λk c h _=> ?_,λk c h _ D=> ?_⟩
 ·obtain⟨rfl,rfl⟩:=h;have:=Qt hk0 (Ur (kX [])) (E:=[]) (.inl rfl) (.inr G);exact⟨this.1,this.2.2.2.1⟩
 ·obtain⟨rfl,rfl⟩:=h;have h:(stH (kX []) CR []).1=7:=Qvn;have D:KL (stH (kX []) CR []).1=false:=D;rw[h]at D;cases D
theorem Yg9:Rl []=some [B true]:=by
 have n0:=Zhc machX (aA:=[]) (by simp) Q78 true;have D:=Q3q (E:=[]) (by simp) trivial (n0:=5) (by omega) Z0c n0.1 ⟨rfl,rfl⟩;have G:(stH (kX []) CR []).1=7:=Qvn;have e:Fc (kX []) [] 5 0 CR=[tkH (kX []) CR []]:=by
  show tkH (kX []) CR []::(if KL (stH (kX []) CR []).1=true then []else _)=_;rw[G];rfl
 rw[e]at D;have I:=Zfk [] (tkH (kX []) CR []) (by simp);have L:(gA (tkH (kX []) CR []) 2==7)=true:=by
  show((stH (kX []) CR []).1==7)=true;rw[G];rfl
 rw[L]at I;exact Yeh D I Z61
theorem Yc7 {Y x1 O:Rw} (h0:Src Y) (S:Src x1) (h2:Src O) (hl:O.length<=100000) {m:Int} (hm:m<=4):
  ∃(K:Kf) (aA:List Itm) (a b c:Int),Hk K/\K.aA=aA.map fqI/\K.pa=a+50/\K.pb=b+10/\K.pc=c+2000/\((1<=a/\a<=900)/\(2<=b/\b<=201)/\(1<=c/\c<=16000))/\aA.length<=4/\
   Oa [.vC Aa x1, .vC Aa O]=some (AK K.x++[I a,I b,I c,I K.bF,I K.lag])/\Nz [.vC Aa Y,I m]=some [.vC Ae (aA.map Af)]/\K.p=AM K.aA/\BY K.aA=0/\(∀it∈aA,1<=it.aP/\it.aP<=3)/\
   I2 (AK K.x++[I K.pa,I K.pb,I K.pc,I K.bF,I K.lag]++[.vC Ae (K.aA.map Af),B true])=some (I 0::Aj K CR):=by
 obtain⟨x,a,b,c,bF,lag,hQ,hM,p1,p2,p3⟩:=Yc2 S h2 hl;obtain⟨p,l,hI,L,hlen⟩:=Yck h0 (most:=m) (by omega);have hlen:l.length<=4:=by
  rcases hlen with rfl|q
  ·simp
  ·omega
 have D:=Ykg L;have T:=Zq7 D;generalize hL:l.map fqI=aA at*;have a0:aA.length<=4:=by rw[<-hL,ac];exact hlen
 have U:=Za4 (by omega) T (show aA.length<=20000 by omega);have hg:=Sg (by omega) U;have G:∀{j:Nat},j<aA.length->vE aA j∈aA:=fun{j} V=>by
  unfold vE;rw[List.getD,ai V];exact bh _
 have hn := Zgh hM (aA := aA) (by omega) U (λj V _ q hq => by
  have:=D.made _ (G V);exact AI (Ygs this.1 this.2.2.2.1 this.2.2.2.2 q hq) (by unfold B24;omega)) (λit M q=>by
  have:=(D.made it M).2.2.1;omega) true
 refine⟨kfP x (a+50) (b+10) (c+2000) bF lag aA true,l,a,b,c,⟨hn.2,rfl,?_,Zcm hM.x.ok hg,λX=> ?_,?_⟩,hL.symm,rfl,rfl,rfl,⟨p1,p2,p3⟩,hlen,hQ,hI,rfl,U,λit M=>⟨(L.made it M).1.aP.1,(L.made it M).2.2.1⟩,hn.1⟩
 ·intro g gm;exact Qyu (λit M=>(D.made it M).2.2.1) aA.length (bt _) g gm
 ·have X:(AM aA).aF≠[]:=X;show 0<AT (AM aA).aF;cases hp:(AM aA).aF with
  |nil=>exact absurd hp X
  |cons g l=>
   have S:=(Vu hg.ok.seg).1;rw[hp,bf]at S;omega
 ·intro i i0 i1;have i1:i<aA.length:=by
   have e:=Yh2 aA;have i1:i<((AM aA).aD.length:Int):=i1;omega
  rw[Zyi (K:=kfP x (a+50) (b+10) (c+2000) bF lag aA true) (aA:=aA) rfl i0 i1];have hk:=D.made _ (G (show i.toNat<aA.length by omega));have N:AB (vE aA i.toNat):=⟨by have:=hk.1.aP;omega,by have:=hk.2.2.1;omega⟩;have:=Zra aA i.toNat;show(if AB (vE aA i.toNat)then E5 aA i.toNat else _)=1\/(if AB (vE aA i.toNat)then E5 aA i.toNat else _)=2\/(if AB (vE aA i.toNat)then E5 aA i.toNat else _)=6;rw[aa N];omega
theorem Yjc {G L M:Rw} (h0:Src G) (h1:Src L) (h2:Src M) (h3:i64 u) (h4:i64 d):
  Qz9 [.vC Aa G, .vC Aa L, .vC Aa M,I u,I d]=some [B true]:=by
 obtain⟨q,hF,hq⟩:=Yag G L M [];refine Z1d Yg9 hF λN=> ?_;obtain⟨l0,l1,l2,-⟩:=hq N;have m3:0<=u%4/\u%4<4:=⟨Int.emod_nonneg _ (by decide),jl _ (by decide)⟩;have m4:0<=d%60/\d%60<60:=⟨Int.emod_nonneg _ (by decide),jl _ (by decide)⟩;obtain⟨K,aA,a,b,c,r,V,ea,eb,ec,⟨qa,qb,qc⟩,hl,hM,hO,ep,hc,X,hN⟩:=Yc7 h0 h1 h2 (by omega) (m:=1+u%4) (by omega);obtain⟨n,hn⟩:=bc m4.1;have Y:n<60:=by omega
 have O:K.aA.length<=15:=by rw[V,ac];omega
 have eq:aA.map qI=K.aA:=by
  rw[V];exact List.map_congr_left λit hi=>Z7m (X it hi)
 have hv:VE 0 (evH n):=⟨⟨by decide,by decide,by decide,by decide,by decide,by decide⟩,⟨by show(0:Int)<=n;omega,by show(n:Int)<=_;omega,show(1:Int)<=4 by decide,show(4:Int)<=13 by decide,show(-1073741824:Int)<=0 by decide,show(0:Int)<=1073741824 by decide⟩,trivial⟩;have hH:SP (evH n) n:=λk X=>Zof (by omega);have hR:=Q3q (E:=evH n) (by simp) hv (n0:=n) (by omega) (Yjw r hH) hN ⟨Ur K,λh=>absurd rfl h⟩;obtain⟨g1,g2,g3⟩:=Zjo r hH n 0 CR (by omega) (Ur K) λh=>absurd rfl h;have hlen:=Q83 K (evH n) n 0 CR;generalize Fc K (evH n) n 0 CR=T at*;have hB:=Zrm O;rw[aa hc,<-ep]at hB;have hQ:=Yh6 (aA:=aA) (by omega) K.x (p0:=a) (p1:=b) (p2:=c) K.bF K.lag (by omega) (by omega) (by omega);rw[eq,<-ea,<-eb,<-ec]at hQ;have hP:=Zl7 (l:=T) (by omega) (by rw[g1];simp);rw[g1]at hP;have S:HF [I u,I 4]=some [I (u%4)]:=Qj3 h3 (by omega);have D:HF [I d,I 60]=some [I (n:Int)]:=by rw[Qj3 h4 (by omega),hn]
 refine⟨K,aA,a,b,c,u%4,n,T,S,?_,hM,hQ,D,hR,hB,hP,Zsj (by omega) g2,λhs=> ?_⟩
 ·rw[Ad (x:=1+u%4)];exact hO
 ·obtain⟨k1,k2⟩:=g3 hs;refine⟨k1,?_⟩;rcases List.eq_nil_or_concat T with e|⟨l,t,e⟩
  ·rw[e];exact Zmd
  ·rw[List.concat_eq_append]at e;have U:l.length<=1073741824:=by
    have:=ie List.length e;rw[ap,fa]at this;omega
   rw[e,Zfk l t U,beF (k2 t (by rw[e];simp))]
theorem Yv {r:List AC} (h:okR Aa r):i64 (Ah (nth .vD r 0)):=by
 match r,h with
 |[],h=>exact h.elim
 |a::_,h=>exact Zyh h.1
theorem Qqa {r:List AC} (h:okR [Kd.sl Aa] r):Src (AX (nth .vD r 0)):=by
 match r,h with
 |[],h=>exact h.elim
 |a::_,h=>
  have D:=h.1;unfold okC at D;refine⟨?_,λc G=>Yv (D.2 c G).1⟩;have I:=D.1;simp only[maxLen]at I;show(AX a).length<=_;omega
end Go.Bm
