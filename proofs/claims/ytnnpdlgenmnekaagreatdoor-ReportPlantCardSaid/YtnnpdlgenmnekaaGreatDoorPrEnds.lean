/- laid together -/
import Derived.Test.YtnnpdlgenmnekaaGreatDoorPrJc
import Derived.Test.YtnnpdlgenmnekaaGreatDoorPrOv
import Derived.Test.YtnnpdlgenmnekaaGreatDoorMy1
import Derived.Test.YtnnpdlgenmnekaaGreatDoorPrTf
import Derived.Test.YtnnpdlgenmnekaaGreatDoorPrHi
set_option linter.unusedVariables false
set_option linter.defProp false
set_option linter.unusedSimpArgs false
set_option maxRecDepth 100000
variable {K:Go.Bm.Kf} {a u b k e m S W:Int} {p:Go.Bm.Pth} {i A:Nat} {t:Go.Bm.Trk} {M Z V P H G:Go.Bm.Fn} {l:Go.Bm.Rw} {d q:Go.Bm.Pt} {E:List Go.Bm.Evn} {Q:Int->Go.Bm.Pt->Prop} {N:Go.Bm.Lp} {o:List Go.Bm.AC}
noncomputable section
open Go.IntKind (wrap)
namespace Go.Bm
def Fk (c:Cv):Cv:=if c.g0=0 then{c with o2:=true,g0:=1,g1:=18,g2:= -1}else c
def YG (K:Kf) (c:Cv):IP (Ac K c)=some (Ac K (Fk c)):=Zvt K c
def Pd (c:Cv):Int:=one Li [I c.before,I c.s0]
def Ybr (c:Cv):Li [I c.before,I c.s0]=some [I (Pd c)]:=by
 have key:∃v,Li [I c.before,I c.s0]=some [I v]:=by
  have e:Li [I c.before,I c.s0]=Qfc OW [I c.before,I c.s0]:=rfl;have h:∀a,(OW [I a,I 1048576]).isSome=true:=λa=>Zwy (by omega);rw[e,Z7y];have D:=λa=>Option.isSome_iff_exists.1 (h a);cases(c.s0== -1)
  ·obtain⟨o,G⟩:=D (O (0-c.before))
   grind
  obtain⟨o,G⟩:=D c.before
  grind
 obtain⟨v,h⟩:=key;exact Qgn h
def goC (K:Kf) (c:Cv) (g:Sgm):Cv:={c with y0:=g.aU,y1:=Bk K c,y2:=c.s3,e0:=1,e1:=c.m0,e2:=Pd c,e3:=0}
def E2 (K:Kf) (c:Cv) (g:Sgm):Bool:=(itK K g.aU).aP==6||(c.s1 !=0&& !decide (O (O (c.s3-Pd c)*c.s0)<0))
def Zx5 {c:Cv} {s:Sgm} (G:0<=s.aU) (L:s.aU<K.aA.length) (U:Z [I c.before,I c.s0]=some [I (Pd c)]) (N:M (Ac K c)=some [I (Bk K c)]):
  Qg1 M Z (I s.to.x::I s.to.y::I s.to.z::I s.len::I s.aU::I s.aZ::I s.aX::Ac K c)=some (B (E2 K c s)::Ac K (if E2 K c s=true then goC K c s else c)):=by
 rw[Z4h];refine eB U (eT (inM G L) ?_);rw[Km G L];refine eC (λe=> ?_) λe=> ?_
 ·have e:(itK K s.aU).aP≠6:=by simpa [gA,nth,Af]using e
  refine eC (λa=> ?_) λa=>eC (λb=> ?_) λb=> ?_
  ·have D:E2 K c s=false:=by unfold E2;rw[beF e,bnF (eq_of_beq a)];rfl
   simp_all
  ·have D:E2 K c s=false:=by unfold E2;rw[beF e,show decide (O (O (c.s3-Pd c)*c.s0)<0)=true from b];simp
   simp_all
  have D:E2 K c s=true:=by
   unfold E2;rw[show decide (O (O (c.s3-Pd c)*c.s0)<0)=false from b];simp only[bne,a];simp
  rw[D];exact eB N rfl
 have e:(itK K s.aU).aP=6:=by simpa [gA,nth,Af]using e
 have D:E2 K c s=true:=by unfold E2;rw[beT e];rfl
 rw[D];exact eB N rfl
def Z4t {c:Cv} {s:Sgm} (h:KOK K) (D:0<=s.aU) (G:s.aU<K.aA.length):
  PD (I s.to.x::I s.to.y::I s.to.z::I s.len::I s.aU::I s.aZ::I s.aX::Ac K c)=some (B (E2 K c s)::Ac K (if E2 K c s=true then goC K c s else c)):=
 Zx5 D G (Ybr c) (QI h c)
def Qif (aX way:Int):Int:=one K4 [I aX,I way]
def Zt3 (D:i64 a) (hb:i64 b):K4 [I a,I b]=some [I (Qif a b)]:=by
 have key:∃v,K4 [I a,I b]=some [I v]:=by
  have e:K4 [I a,I b]=Zk Cy [I a,I b]:=rfl;have h:=Qfu (show i64 4096 by grind [i64]) hb D 0;rw[e,Zsj];obtain⟨o,G⟩:=Option.isSome_iff_exists.1 h;exact⟨_,eB G rfl⟩
 obtain⟨v,h⟩:=key;exact Qgn h
def Qsd (K:Kf) (d:Cv) (g:Sgm):Int:=O (d.y2+O (O ((if(itK K g.aU).n=3 then 1 else-1)*Qif g.aX (O (Bk K d-d.y1)))*256))
def SB (K:Kf) (c:Cv) (l:Int) (g:Sgm):Cv:={DI K c l with s3:=Qsd K (DI K c l) g}
def Zwf {c:Cv} {s:Sgm} (D:0<=s.aU) (G:s.aU<K.aA.length)
  (L:∀v,i64 v->M [I s.aX,I v]=some [I (Qif s.aX v)]) (N:∀c,Z (Ac K c)=some [I (Bk K c)]) (O:V (I a::Ac K c)=some (Ac K (DI K c a))):
  Qiu M Z V (I a::I s.to.x::I s.to.y::I s.to.z::I s.len::I s.aU::I s.aZ::I s.aX::Ac K c)=some (Ac K (SB K c a s)):=by
 rw[Zog];unfold SB;generalize DI K c a=d at*;refine eB O (eT (inM (f:=Ag) D G) ?_);show cond (gA (nth [] (K.aA.map Ag) s.aU.toNat) 19==3) _ _=_;rw[Km D G];unfold Qsd;refine eC (λe=> ?_) λe=> ?_
 ·rw[ac (show(itK K s.aU).n=3 from eq_of_beq e)];exact eB (N d) (eB (L _ (Qhn _)) rfl)
 rw[ab (show(itK K s.aU).n≠3 by simp_all [gA,nth,Af])];exact eB (N d) (eB (L _ (Qhn _)) rfl)
def Qrm {c:Cv} {n:Int} (h:KOK K) (g:Gd K n c) (hn:0<=n/\n<=10000) (l:Int) {s:Sgm} (D:0<=s.aU/\s.aU<K.aA.length/\i64 s.aX):
  Pz (I l::I s.to.x::I s.to.y::I s.to.z::I s.len::I s.aU::I s.aZ::I s.aX::Ac K c)=some (Ac K (SB K c l s)):=
 Zwf D.1 D.2.1 (λv G=>Zt3 D.2.2 G) (QI h) (Qdg h g l)
def thL (K:Kf) (c:Cv) (l aX:Int):List AC:=pxt K.p K.x K.t [I K.pa,I K.pb,I K.pc,I c.o0,I c.o1,B c.o2,B c.o3,B c.o4,I c.m0,I c.m1,I c.m2,I c.m3,I c.m4,I c.m5,I l,I aX,I c.e0,I c.e1,I c.e2,I c.e3,I c.before,I c.s3]
def thO (K:Kf) (c:Cv) (l aX:Int):List AC:=(Mh (thL K c l aX)).getD []
def Mr (c:Cv) (o:List AC):Cv:={WB c (gA o 1)with e0:=gA o 6,e1:=gA o 7,e2:=gA o 8,e3:=gA o 9}
def Ow (K:Kf) (c:Cv) (l aX:Int):Cv:=
 if c.g0≠0 then{DI K c l with e0:=3}else if gA (thO K c l aX) 10≠0 then Fk (Mr c (thO K c l aX))else Mr c (thO K c l aX)
def Qje {c:Cv} {n:Int} (h:KOK K) (g:Gd K n c) (l:Int) {aX:Int} (G:i64 aX):
  Mh (thL K c l aX)=some (thO K c l aX)/\∃v s b z y e:Int,thO K c l aX=Fc c.m0 c.m1 c.m3 c.m4 v++[I s,I b,I z,I y,I e]/\((BH K.pa K.pb v (O (v-c.m1))).2=true\/∃r:Int,v=O (c.m1+r)/\r=A3 K.pa K.pb c.m1 c.m2):=by
 obtain⟨o,D,v,s,b,z,y,e,rfl,L⟩:=Z30 h g.mo l G;have D:Mh (thL K c l aX)=some (Fc c.m0 c.m1 c.m3 c.m4 v++[I s,I b,I z,I y,I e]):=D;have e2:thO K c l aX=Fc c.m0 c.m1 c.m3 c.m4 v++[I s,I b,I z,I y,I e]:=by unfold thO;rw[D];rfl
 grind
def Zz3 {c:Cv} {s:Sgm} (G:∀c,M (Ac K c)=some (Ac K (Fk c)))
  (hT:Z (thL K c a s.aX)=some (thO K c a s.aX)) (hS:∃v D b z y e:Int,thO K c a s.aX=Fc c.m0 c.m1 c.m3 c.m4 v++[I D,I b,I z,I y,I e]) (L:V (I a::Ac K c)=some (Ac K (DI K c a))):
  Ze M Z V (I a::I s.to.x::I s.to.y::I s.to.z::I s.len::I s.aU::I s.aZ::I s.aX::Ac K c)=some (Ac K (Ow K c a s.aX)):=by
 rw[Zwa];unfold Ow;refine eC (λe=> ?_) λe=> ?_
 ·rw[ac (show c.g0≠0 by simp_all)];generalize DI K c a=d at*;exact eB L rfl
 rw[ab (show¬c.g0≠0 by simp_all)];obtain⟨v,D,b,z,y,N,O⟩:=hS;generalize thO K c a s.aX=o at*;subst O;refine eB hT ?_;refine eC (λq=> ?_) λq=> ?_
 ·rw[ac (by simp_all)];refine de (ij (λz=>Option.bind z _) (G (Mr c (Fc c.m0 c.m1 c.m3 c.m4 v++[I D,I b,I z,I y,I N])))) rfl
 rw[ab (by simp_all)];rfl
def Quc {c:Cv} {n:Int} (h:KOK K) (g:Gd K n c) (hn:0<=n/\n<=10000) (l:Int) {s:Sgm} (D:i64 s.aX):
  Rb (I l::I s.to.x::I s.to.y::I s.to.z::I s.len::I s.aU::I s.aZ::I s.aX::Ac K c)=some (Ac K (Ow K c l s.aX)):=by
 obtain⟨G,v,L,b,z,y,e,M,-⟩:=Qje h g l D;exact Zz3 (YG K) G ⟨v,L,b,z,y,e,M⟩ (Qdg h g l)
def Iv (K:Kf) (c:Cv) (l:Int) (g:Sgm):Cv:=if(itK K g.aU).aP=6 then SB K c l g else Ow K c l g.aX
def Ic (K:Kf) (c:Cv) (l:Int):Cv:=
 if(vF K c).aX=0\/(c.o2=true/\c.y0≠(vF K c).aU)then DI K c l
 else if c.y0=(vF K c).aU then Iv K c l (vF K c)
 else if E2 K c (vF K c)=true then Iv K (goC K c (vF K c)) l (vF K c)
 else if c.s1=0 then Fk c else c
def Gd.go {n:Int} {c:Cv} (g:Gd K n c) (s:Sgm):Gd K n (goC K c s):=⟨g.way,g.pass,g.task,g.mo,g.m0⟩
def Z6p {c:Cv} (L:(vF K c).aX≠0->0<=(vF K c).aU/\(vF K c).aU<K.aA.length)
  (Y:G (Ac K c)=some (At (vF K c)++[B (Eu K c).isSome])) (O:H (I u::Ac K c)=some (Ac K (DI K c u)))
  (hS:(vF K c).aX≠0->P (I (vF K c).to.x::I (vF K c).to.y::I (vF K c).to.z::I (vF K c).len::I (vF K c).aU::I (vF K c).aZ::I (vF K c).aX::Ac K c)=some (B (E2 K c (vF K c))::Ac K (if E2 K c (vF K c)=true then goC K c (vF K c)else c)))
  (hF:V (Ac K c)=some (Ac K (Fk c)))
  (hT:(vF K c).aX≠0->∀d,d=c\/d=goC K c (vF K c)->Z (I u::I (vF K c).to.x::I (vF K c).to.y::I (vF K c).to.z::I (vF K c).len::I (vF K c).aU::I (vF K c).aZ::I (vF K c).aX::Ac K d)=some (Ac K (SB K d u (vF K c))))
  (N:(vF K c).aX≠0->∀d,d=c\/d=goC K c (vF K c)->M (I u::I (vF K c).to.x::I (vF K c).to.y::I (vF K c).to.z::I (vF K c).len::I (vF K c).aU::I (vF K c).aZ::I (vF K c).aX::Ac K d)=some (Ac K (Ow K d u (vF K c).aX))):
  Qan M Z V P H G (I u::Ac K c)=some (Ac K (Ic K c u)):=by
 rw[Zrb];unfold Ic;generalize vF K c=s at*;refine eB Y ?_;refine eC (λe=> ?_) λe=> ?_
 ·rw[ac (.inl (show s.aX=0 from eq_of_beq e))];generalize DI K c u=d at*;exact eB O rfl
 have e:s.aX≠0:=by simpa [gA,nth,Af]using e
 obtain⟨U,X⟩:=L e;have hS:=hS e;have hT:=hT e;have N:=N e
 have D:∀{d:Cv} {f1 f2:List AC->List AC},d=c\/d=goC K c s->(∀c,f1 (Ac K c)=Ac K c)->(∀c,f2 (Ac K c)=Ac K c)->
   (bif decide (0<=s.aU)&&decide (s.aU<((K.aA.map Ag).length:Int))then(bif gA (nth [] (K.aA.map Ag) s.aU.toNat) 0==6 then(Z (I u::I s.to.x::I s.to.y::I s.to.z::I s.len::I s.aU::I s.aZ::I s.aX::Ac K d)).bind λo=>some (f1 o)else(M (I u::I s.to.x::I s.to.y::I s.to.z::I s.len::I s.aU::I s.aZ::I s.aX::Ac K d)).bind λo=>some (f2 o))else none)=some (Ac K (Iv K d u s)):=λhd h1 h2=>by
  refine eT (inM (f:=Ag) U X) ?_;rw[Km U X];unfold Iv;refine eC (λk=> ?_) λk=> ?_
  ·rw[ac (show(itK K s.aU).aP=6 from eq_of_beq k)];exact eB (hT _ hd) (ij some (h1 _))
  rw[ab (show(itK K s.aU).aP≠6 by simp_all [gA,nth,Af])];exact eB (N _ hd) (ij some (h2 _))
 have hg:V2 c (At s++[B (Eu K c).isSome]) P K V Z u M=some (Ac K (if c.y0=s.aU then Iv K c u s else if E2 K c s=true then Iv K (goC K c s) u s else if c.s1=0 then Fk c else c)):=by
  refine eC (λy=> ?_) λy=> ?_
  ·have y:c.y0≠s.aU:=by simpa [gA,nth,Af]using y
   rw[ab y];refine eB hS ?_;cases hm:E2 K c s
   ·refine eT rfl ?_;rw[ab (by simp),ab (by simp)];refine eC (λz=> ?_) λz=> ?_
    ·rw[ac (show c.s1=0 from eq_of_beq z)];generalize Fk c=d at*;exact eB hF rfl
    rw[ab (show c.s1≠0 by simp_all [gA,nth,Af])];rfl
   refine eF rfl ?_;rw[ac rfl,ac rfl];have h:=D (d:=goC K c s) (f1:=λo=>cR 0 o) (f2:=λo=>cR 0 o) (.inr rfl) (λ_=>rfl) (λ_=>rfl);generalize goC K c s=d at*;exact h
  have y:c.y0=s.aU:=by simpa [gA,nth,Af]using y
  rw[ac y];exact D (f1:=λo=>cR 0 o) (f2:=λo=>cR 0 o) (.inl rfl) (λ_=>rfl) (λ_=>rfl)
 refine eC (λa=>eC (λb=> ?_) λb=> ?_) λa=> ?_
 ·have b:c.y0≠s.aU:=by simpa [gA,nth,Af]using b
  rw[ac (.inr ⟨a,b⟩)];generalize DI K c u=d at*;exact eB O rfl
 ·simp_all [gA,nth,Af]
 simp_all
def Zsl {c:Cv} {n:Int} (h:KOK K) (g:Gd K n c) (hn:0<=n/\n<=10000) (l:Int):Rg (I l::Ac K c)=some (Ac K (Ic K c l)):=
 Z6p (λe=>⟨(G5 h e).1,(G5 h e).2.1⟩) (Xi h c) (Qdg h g l) (λe=>Z4t h (G5 h e).1 (G5 h e).2.1) (YG K c)
  (λe d hd=>by rcases hd with rfl|rfl;exact Qrm h g hn l (G5 h e);exact Qrm h (g.go _) hn l (G5 h e))
  (λe d hd=>by rcases hd with rfl|rfl;exact Quc h g hn l (G5 h e).2.2;exact Quc h (g.go _) hn l (G5 h e).2.2)
end Go.Bm
namespace Go.Bm
open Classical
def sT (K:Kf) (t:Trk):Kf:=⟨K.x,K.pa,K.pb,K.pc,K.bH,K.lag,K.aA,K.closed,K.p,K.len,K.set,t⟩
def KOK.sT (h:KOK K) {t:Trk} (D:TH t):KOK (Go.Bm.sT K t):=⟨⟨h.f.p,h.f.x,D⟩,h.plan,h.aF,h.aD,h.count,h.aS,h.len,h.set⟩
def JN:List Pce->Int->Pt->Pt
 |[],_,d=>d
 |c::l,u,d=>if u>c.at_+c.aR then JN l u d else if c.bD≠0\/u=c.at_+c.aR then c.aT else c.was
def Gg (t:Trk) (u:Int):Pt:=JN t.aE (clT t u) t.aT
def Ybd (h:TQ t) (u:Int):Qg0 (Ak Uf) (Bh t++[I u])=some (ptR (Gg t u)):=by
 refine de (Yad _ (t.aE.map AT) t.length t.aQ t.aT.x t.aT.y t.aT.z u) ?_;have M:mx 0 (mn u t.length)=clT t u:=by
  unfold mx mn clT Be
  (omega)<;>omega
 rw[M];have key:Out (λo=>o=(1,ptR (Gg t u))\/(o=(2, .vC An (t.aE.map AT)::I t.length::I t.aQ::I t.aT.x::I t.aT.y::I t.aT.z::[I 0,I 0,I 0])/\Gg t u=t.aT))
   (Ak Uf [I (clT t u), .vC An (t.aE.map AT),I ((t.aE.map AT).length:Int),I ((0:Nat):Int), .vC An (t.aE.map AT),I t.length,I t.aQ,I t.aT.x,I t.aT.y,I t.aT.z,I 0,I 0,I 0]):=by
  refine Ch (λi:Nat=>[I (clT t u), .vC An (t.aE.map AT),I ((t.aE.map AT).length:Int),I (i:Int), .vC An (t.aE.map AT),I t.length,I t.aQ,I t.aT.x,I t.aT.y,I t.aT.z,I 0,I 0,I 0])
   (λi=>i<=t.aE.length/\Gg t u=JN (t.aE.drop i) (clT t u) t.aT) (λi=>t.aE.length-i) _ ?_ 0 ⟨i8 _,rfl⟩
  rintro i ⟨X,hf⟩;rw[Z86];have Y:((t.aE.map AT).length:Int)=t.aE.length:=by rw[aj]
  refine .cond (λG=> ?_) λG=> ?_
  ·have G:=Ba G;have D:i<t.aE.length:=by omega
   refine .cond (λ_=> ?_) λe=>(inB (by omega) G e).elim;rw[ag,P0 D];have hc:=h.count;have hp:=h.pos i D;have hl:=h.len;have he:eI t.aE i=(pcA t.aE i).at_+(pcA t.aE i).aR:=rfl;rw[dy D]at hf;have N:t.aE[i]=pcA t.aE i:=by unfold pcA;rw[List.getD,an D];rfl
   rw[N]at hf;unfold JN at hf;generalize pcA t.aE i=c at*;have U:O (gA (AT c) 0+gA (AT c) 1)=c.at_+c.aR:=by
    show O (c.at_+c.aR)=_;exact Ad
   rw[U,Ad];refine .cond (λa=> ?_) λa=> ?_
   ·have a:=Ba a;rw[ac a]at hf;exact .some (.inl ⟨rfl,i+1,rfl,⟨by omega,hf⟩,by omega⟩)
   have a:=B0 a;rw[ab a]at hf;refine .cond (λb=> ?_) λb=> .cond (λb2=> ?_) λb2=> ?_
   ·have b:c.bD≠0:=by simpa [gA,nth,Af]using b
    rw[ac (.inl b)]at hf;exact .some (.inr ⟨by simp, .inl (by rw[hf];rfl)⟩)
   ·have b2:=eq_of_beq b2;rw[ac (.inr b2)]at hf;exact .some (.inr ⟨by simp, .inl (by rw[hf];rfl)⟩)
   have b:c.bD=0:=by simpa [gA,nth,Af]using b
   have b2:clT t u≠c.at_+c.aR:=λe=>by grind
   rw[ab (λq=>by omega)]at hf;exact .some (.inr ⟨by simp, .inl (by rw[hf];rfl)⟩)
  have G:=B0 G;rw[fc (by omega)]at hf;exact .some (.inr ⟨by simp, .inr ⟨rfl,hf⟩⟩)
 obtain⟨o,V,L⟩:=key;refine eB V ?_;rcases L with rfl|⟨rfl,L⟩
 ·rfl
 rw[L];rfl
def EH (K:Kf) (c:Cv):Bool:=FA c&& !decide (HW K.t (AI c))
def Dm (K:Kf) (c:Cv) (to:Int):Trk:=Bg K.p K.x (Gg K.t (AI c)) (Bk K c) to
def Kx (K:Kf) (c:Cv) (to:Int):List AC:=if EH K c=true then Bh (Dm K c to)++[I 0,I 0,I 0,I 0,I 0,I 0,B true]else [.vC An [],I 0,I 0,I 0,I 0,I 0,I 0,I 0,I 0,I 0,I 0,I 0,B false]
def Ycv {c:Cv} (D:G [I c.m0,I c.m1,I c.m2,I c.m3,I c.m4,I c.m5]=some [B (FA c)]) (L:H (Bh K.t++[I (AI c)])=some [B (decide (HW K.t (AI c)))])
  (N:P (Bh K.t++[I (AI c)])=some (ptR (Gg K.t (AI c)))) (O:V (Bh K.t++[I (AI c)])=some [I (Bk K c)])
  (U:∀(d:Pt) (a b:Int),Z (BG K.p++AF K.x++[I d.x,I d.y,I d.z,I a,I b])=some (Bh (Bg K.p K.x d a b))) (hS:M [I 0]=some [I 0,I 0,I 0,I 0,I 0,I 0]):
  Qaw M Z V P H G (pxt K.p K.x K.t [I c.m0,I c.m1,I c.m2,I c.m3,I c.m4,I c.m5,I u])=some (Kx K c u):=by
 rw[Ye6];refine eB D ?_;unfold Kx EH Dm;cases X:FA c
 ·rfl
 refine eF rfl (eB L ?_);cases Y:decide (HW K.t (AI c))
 ·refine eF rfl (eB N (eB O (eB (U (Gg K.t (AI c)) (Bk K c) u) (eB hS ?_))));rfl
 rfl
def Zia (h:KOK K) (c:Cv) (to:Int):Nb (pxt K.p K.x K.t [I c.m0,I c.m1,I c.m2,I c.m3,I c.m4,I c.m5,I to])=some (Kx K c to):=
 Ycv (Za3 c) (Z2j h.f.t.q _) (Ybd h.f.t.q _) (Tq h.f.t.q _) (λd a b=>Zf1 h.f.p h.f.x.ok) (Qbu 0)
def Zfi (h:KOK K) (c:Cv) (to:Int):TH (Dm K c to):=UV _ _ _ h.f.x.ok h.f.p
def zM (c:Cv):Cv:={c with m0:=0,m1:=0,m2:=0,m3:=0,m4:=0,m5:=0}
def Fg (c d:Cv):Prop:=d=c\/∃a:Int,c.g0=0/\d={c with g0:=1,g1:=19,g2:=a}
def NS (K:Kf) (c:Cv) (n:Int):Cv:={c with g0:=gA ((JV (I n::Ac K c)).getD []) 61,g1:=gA ((JV (I n::Ac K c)).getD []) 62,g2:=gA ((JV (I n::Ac K c)).getD []) 63}
def brD {c:Cv} {F:Cv->Option (List AC)} {p:Prop} [Decidable p] {X Y:Option (List AC)} (D:p->∃d:Cv,Fg c d/\X=F d) (G: ¬p->∃d:Cv,Fg c d/\Y=F d):∃d:Cv,Fg c d/\(bif decide p then X else Y)=F d:=by
 by_cases h:p
 ·grind
 grind
def bdE {c:Cv} {F:Cv->Option (List AC)} {m:Option (List AC)} {f:Fn} (h:m=some o) (hf:∃d:Cv,Fg c d/\f o=F d):∃d:Cv,Fg c d/\m.bind f=F d:=by grind
def Zyp (c:Cv) (l G a1 a2 L b1 b2:Int):∃d:Cv,Fg c d/\R4 [I c.g0,I c.g1,I c.g2,I l,I G,I a1,I a2,I L,I b1,I b2]=some [I d.g0,I d.g1,I d.g2]:=by
 show∃d:Cv,Fg c d/\Qg5 _=_;rw[Z3j];by_cases h:c.g0=0
 ·have D:∀a:Int,∃d:Cv,Fg c d/\some [I 1,I 19,I a]=some [I d.g0,I d.g1,I d.g2]:=λa=>⟨{c with g0:=1,g1:=19,g2:=a}, .inr ⟨a,h,rfl⟩,rfl⟩;have M:∃d:Cv,Fg c d/\some [I c.g0,I c.g1,I c.g2]=some [I d.g0,I d.g1,I d.g2]:=⟨c, .inl rfl,rfl⟩;rw[bnF h];exact brD (λ_=>D 0) λ_=>brD (λ_=>D 0) λ_=>brD (λ_=>D _) λ_=>brD (λ_=>D _) λ_=>brD (λ_=>D _) λ_=>brD (F:=λd=>some [I d.g0,I d.g1,I d.g2]) (λ_=>D _) λ_=>M
 exact⟨c, .inl rfl,by grind⟩
def Zn4 {c:Cv} {n:Int} (hn:n<=1073741824) (hU:V (Ac K c)=some [I (AI c)]) (hM:∀u,Z (pxt K.p K.x K.t [I u])=some (ptR (BB K.p K.x K.t u)))
  (hC:∀D a1 a2 G b1 b2:Int,∃d:Cv,Fg c d/\M [I c.g0,I c.g1,I c.g2,I K.lag,I D,I a1,I a2,I G,I b1,I b2]=some [I d.g0,I d.g1,I d.g2]):
  ∃d:Cv,Fg c d/\Qf3 M Z V (I n::Ac K c)=some (Ac K d):=by
 rw[Z2u];have X:∃d:Cv,Fg c d/\some (Ac K c)=some (Ac K d):=⟨c, .inl rfl,rfl⟩;have N:∀D a1 a2 G b1 b2:Int,∃d:Cv,Fg c d/\((M [I c.g0,I c.g1,I c.g2,I K.lag,I D,I a1,I a2,I G,I b1,I b2]).bind λo=>some (Ac K {c with g0:=gA o 0,g1:=gA o 1,g2:=gA o 2}))=some (Ac K d):=λD a1 a2 G b1 b2=>by
  obtain⟨d,hd,e⟩:=hC D a1 a2 G b1 b2;rcases hd with rfl|⟨a,h0,rfl⟩
  ·exact⟨d, .inl rfl,eB e rfl⟩
  exact⟨_, .inr ⟨a,h0,rfl⟩,eB e rfl⟩
 have hq: ¬n<0->0<=O (n.tdiv 1048576):=λh=>by
  rw[dg (by omega),Ad];omega
 refine brD (λ_=>X) λh1=>brD (λ_=>X) λh2=> ?_;refine bdE hU (bdE (hM (AI c)) ?_);refine brD (λL=>brD (λ_=>N ..) λe=>absurd L e) λL=> ?_;refine brD (λU=>brD (λe=>absurd e L) λ_=>brD (λ_=>N ..) λe=>absurd U e) λU=> ?_;refine brD (λY=>brD (λe=>absurd e L) λ_=>brD (λe=>absurd e U) λ_=>brD (λ_=>N ..) λe=>absurd Y e) λY=> ?_;omega
def X1 (h:KOK K) (c:Cv) {n:Int} (hn:n<=1073741824):JV (I n::Ac K c)=some (Ac K (NS K c n))/\Fg c (NS K c n):=by
 obtain⟨d,G,D⟩:=Zn4 hn (Rk K c) (RF h.f) (λL a1 a2 M b1 b2=>Zyp c K.lag L a1 a2 M b1 b2);have D:JV (I n::Ac K c)=some (Ac K d):=D;have e:NS K c n=d:=by
  unfold NS;rw[D];rcases G with rfl|⟨a,N,rfl⟩<;>rfl
 grind
def LP (K:Kf) (c:Cv):Cv:={c with aH:=bA ((N0 (Ac K c)).getD []) 77}
def SF (K:Kf) (c:Cv) (s:Int):Int:=gA ((Lo (I s::Ac K c)).getD []) 0
end Go.Bm
namespace Go.Bm
def Gk (K:Kf) (c:Cv):Int×Cv:=
 if c.aM=true/\c.m0=O ((BS K c).1*256)then
  (if 0 <= (BS K c).2 then
   (if(mkK K (BS K c).2).aU=(Fx K c (BS K c).2).2.y0/\(itK K (mkK K (BS K c).2).aU).aP=5/\(Fx K c (BS K c).2).2.e0=1 then((Fx K c (BS K c).2).1,Fk (Fx K c (BS K c).2).2)else Fx K c (BS K c).2)
  else if K.closed=true then(7,{c with aI:=7})else(1,c))
 else(if c.g0≠0/\c.aM=true then 6 else 1,Ic K c (BS K c).1)
def Ye9 {c:Cv} (h:KOK K) (hi:(BS K c).2= -1\/0<=(BS K c).2/\c.next<=(BS K c).2/\(BS K c).2<K.p.aD.length)
  (hL:P (Ac K c)=some (I (BS K c).1::I (BS K c).2::Ac K c)) (hB:0<=(BS K c).2->(BS K c).2<K.p.aD.length->V (I (BS K c).2::Ac K c)=some (I (Fx K c (BS K c).2).1::Ac K (Fx K c (BS K c).2).2))
  (hF:∀c,Z (Ac K c)=some (Ac K (Fk c))) (N: ¬(c.aM=true/\c.m0=O ((BS K c).1*256))->M (I (BS K c).1::Ac K c)=some (Ac K (Ic K c (BS K c).1))):
  Zh M Z V P (Ac K c)=some (I (Gk K c).1::Ac K (Gk K c).2):=by
 rw[Z56];unfold Gk;generalize Ic K c (BS K c).1=mv at*;have a1:=hB;generalize hb:Fx K c (BS K c).2=G at*;clear hb;generalize BS K c=D at*;refine eB hL ?_;have L:∀{a:Prop} [Decidable a],¬(c.aM=true/\c.m0=O (D.1*256))->∀{x:Option (List AC)},x=some (I (if c.g0≠0/\c.aM=true then 6 else 1)::Ac K mv)->
   x=some (I (if c.aM=true/\c.m0=O (D.1*256)then(if 0<=D.2 then(if(mkK K D.2).aU=G.2.y0/\(itK K (mkK K D.2).aU).aP=5/\G.2.e0=1 then(G.1,Fk G.2)else G)else if K.closed=true then(7,{c with aI:=7})else(1,c))else(if c.g0≠0/\c.aM=true then 6 else 1,mv)).1::Ac K (if c.aM=true/\c.m0=O (D.1*256)then(if 0<=D.2 then(if(mkK K D.2).aU=G.2.y0/\(itK K (mkK K D.2).aU).aP=5/\G.2.e0=1 then(G.1,Fk G.2)else G)else if K.closed=true then(7,{c with aI:=7})else(1,c))else(if c.g0≠0/\c.aM=true then 6 else 1,mv)).2):=λhn _ hx=>by simp_all [ab]
 refine eC (λs=>eC (λe=> ?_) λe=> ?_) λs=> ?_
 ·have s:c.aM=true:=s;have e:c.m0=O (D.1*256):=eq_of_beq e;rw[ac ⟨s,e⟩];refine eC (λk=> ?_) λk=> ?_
  ·have k:0<=D.2:=Ba k;rw[ac k];have U:D.2<K.p.aD.length:=by
    rcases hi with hi|hi
    ·omega
    omega
   have X:=W6 h k U;refine eB (hB k U) (eT (inM (f:=Aq) k U) ?_);have Y:nth [] (K.p.aD.map Aq) D.2.toNat=Aq (mkK K D.2):=O4 k U;have a0:nth [] (K.aA.map Ag) (mkK K D.2).aU.toNat=Ag (itK K (mkK K D.2).aU):=Km X.1 X.2.1;refine eC (λy=> ?_) λy=> ?_
   ·have y:(mkK K D.2).aU=G.2.y0:=by
     have:=eq_of_beq (show(gA (nth [] (K.p.aD.map Aq) D.2.toNat) 2==G.2.y0)=true from y);rw[Y]at this;exact this
    refine eT (show(decide (0<=gA (nth [] (K.p.aD.map Aq) D.2.toNat) 2)&&decide (gA (nth [] (K.p.aD.map Aq) D.2.toNat) 2<((K.aA.map Ag).length:Int)))=true by rw[Y];exact inM (f:=Ag) (l:=K.aA) (i:=(mkK K D.2).aU) X.1 X.2.1) ?_;have ek:gA (nth [] (K.aA.map Ag) (gA (nth [] (K.p.aD.map Aq) D.2.toNat) 2).toNat) 0=(itK K (mkK K D.2).aU).aP:=by
     rw[Y];show gA (nth [] (K.aA.map Ag) (mkK K D.2).aU.toNat) 0=_;rw[a0];rfl
    refine eC (λq=> ?_) λq=> ?_
    ·have q:(itK K (mkK K D.2).aU).aP=5:=by rw[<-ek];exact eq_of_beq q
     refine eC (λz=> ?_) λz=> ?_
     ·have z:G.2.e0=1:=eq_of_beq z;rw[ac ⟨y,q,z⟩];exact eB (hF G.2) rfl
     have z:G.2.e0≠1:=λe=>by have:(G.2.e0==1)=false:=z;simp_all
     rw[ab (λw=>z w.2.2)];rfl
    have q:(itK K (mkK K D.2).aU).aP≠5:=λe=>by
     have:(gA (nth [] (K.aA.map Ag) (gA (nth [] (K.p.aD.map Aq) D.2.toNat) 2).toNat) 0==5)=false:=q;simp_all
    rw[ab (λw=>q w.2.1)];rfl
   have y:(mkK K D.2).aU≠G.2.y0:=λe=>by
    have:(gA (nth [] (K.p.aD.map Aq) D.2.toNat) 2==G.2.y0)=false:=y;rw[Y]at this;rw[show(gA (Aq (mkK K D.2)) 2==G.2.y0)=true from beT e]at this;cases this
   rw[ab (λw=>y w.1)];rfl
  have k: ¬0<=D.2:=B0 k;rw[ab k];refine eC (λq=> ?_) λq=> ?_
  ·rw[ac (show K.closed=true from q)];rfl
  rw[ab (show¬K.closed=true by rw[show K.closed=false from q];simp)];rfl
 ·have e:c.m0≠O (D.1*256):=λe'=>by
   have:(c.m0==O (D.1*256))=false:=e;simp_all
  refine L (a:=True) (λw=>e w.2) ?_;refine eC (λq=> ?_) λq=> ?_
  ·have q:c.g0≠0:=λe=>by
    have:(c.g0 !=0)=true:=q;rw[bnF e]at this;cases this
   refine eB (N λw=>e w.2) (eT (show c.aM=true from s) ?_);rw[ac ⟨q,show c.aM=true from s⟩];rfl
  have q:c.g0=0:=iz λe=>by
   have:(c.g0 !=0)=false:=q;rw[bnT e]at this;cases this
  refine eB (N λw=>e w.2) ?_;rw[ab (λw=>w.1 q)];rfl
 have s:c.aM=false:=s;refine L (a:=True) (λw=>by rw[s]at w;cases w.1) ?_;refine eC (λq=> ?_) λq=> ?_
 ·refine eB (N λw=>by rw[s]at w;cases w.1) (eF (show c.aM=false from s) ?_);rw[ab (λw=>by rw[s]at w;cases w.2)];rfl
 refine eB (N λw=>by rw[s]at w;cases w.1) ?_;rw[ab (λw=>by rw[s]at w;cases w.2)];rfl
def Yb1 {c:Cv} {n:Int} (h:KOK K) (g:Gd K n c) (hn:0<=n/\n<=10000):KC (Ac K c)=some (I (Gk K c).1::Ac K (Gk K c).2):=
 Ye9 h (Qpr K c) (Z2t h c) (λD G=>Z2n h D G) (YG K) λ_=>Zsl h g hn _
def swI (s:Int) (it:Itm):Int:=one Nx (I s::Ag it)
def Z38 (s:Int) (it:Itm):Nx (I s::Ag it)=some [I (swI s it)]:=by
 have key:∃v,Nx (I s::Ag it)=some [I v]:=by
  show∃v,Qg9 (I s::Ag it)=some [I v];rw[Yel];by_cases D:it.aP=10
  ·rw[CE (bnF D)];by_cases G:it.n<0
   ·simp_all
   rw[CE (ba G)];by_cases L:it.n>=16
   ·simp_all
   rw[CE (ba L),CE (ba (by grind [IntKind.wrap,IntKind.bits]))];cases it.on<;>exact⟨_,rfl⟩
  simp_all [bnT]
 obtain⟨v,h⟩:=key;exact Qgn h
def EM (K:Kf) (s:Int):List Mrk->Cv->List Int×Cv
 |[],c=>([],c)
 |m::l,c=>if m.at_>s\/(m.at_=s/\c.next<=c.aK/\Ij m.aP c=true)then([],c)
  else if m.aP=5 then(m.aU::(EM K s l {c with outs:=swI c.outs (itK K m.aU),aK:=c.aK+1}).1,(EM K s l {c with outs:=swI c.outs (itK K m.aU),aK:=c.aK+1}).2)
  else EM K s l {c with aK:=c.aK+1}
def Dw (K:Kf) (c:Cv) (s:Int):List Int×Cv:=EM K s (K.p.aD.drop c.aK.toNat) c
def Ya8 {c:Cv} (h:KOK K) (X:0<=c.aK/\c.aK<=K.p.aD.length) (s:Int)
  (hA:∀(c:Cv) (at_ k it:Int),Z [I at_,I k,I it,I c.o0,I c.o1,B c.o2,B c.o3,B c.o4]=some [B (Ij k c)]) (hS:∀(s:Int) (it:Itm),M (I s::Ag it)=some [I (swI s it)]):
  Qjd M Z (Ak (TX M Z)) (I s::Ac K c)=some (.vC Aa ((Dw K c s).1.map Ap)::Ac K (Dw K c s).2):=by
 rw[Ye5];have key:Out (λo=>o=(1, .vC Aa ((Dw K c s).1.map Ap)::Ac K (Dw K c s).2)) (Ak (TX M Z) (.vC Aa (([]:List Int).map Ap)::I s::Ac K c)):=by
  have hc:=h.count;refine Ch (λz:List Int×Cv=> .vC Aa (z.1.map Ap)::I s::Ac K z.2)
   (λz=>0<=z.2.aK/\z.2.aK<=K.p.aD.length/\(z.1.length:Int)<=z.2.aK/\(Dw K c s).1=z.1++(EM K s (K.p.aD.drop z.2.aK.toNat) z.2).1/\(Dw K c s).2=(EM K s (K.p.aD.drop z.2.aK.toNat) z.2).2)
   (λz=>(K.p.aD.length-z.2.aK).toNat) _ ?_ ([],c) ⟨X.1,X.2,by grind,rfl,rfl⟩
  rintro⟨l,d⟩ ⟨g1,g2,g3,G,L⟩;dsimp only at g1 g2 g3 G L;refine Out.eqv (Zxj M Z _ _ K d) ?_;refine .cond (λk=> ?_) λk=> ?_
  ·have k:d.aK<((K.p.aD.map Aq).length:Int):=Ba k;rw[aj]at k;have Y:d.aK.toNat<K.p.aD.length:=by omega
   have em:mkK K d.aK=K.p.aD[d.aK.toNat]:=by unfold mkK;rw[List.getD,an Y];rfl
   have N:=W6 h g1 k;rw[dy Y,<-em]at G L;unfold EM at G L;refine .cond (λ_=> ?_) λe=>(inB g1 (by grind) e).elim;rw[O4 g1 k];generalize U:mkK K d.aK=m at*;have wp:O (d.aK+1)=d.aK+1:=Ad;have np:(d.aK+1).toNat=d.aK.toNat+1:=by omega
   have stop:(m.at_>s\/(m.at_=s/\d.next<=d.aK/\Ij m.aP d=true))->∀{x:List AC},x= .vC Aa (l.map Ap)::Ac K d->Out (λo:Nat×List AC=>(o.1=0/\∃D:List Int×Cv,o.2= .vC Aa (D.1.map Ap)::I s::Ac K D.2/\(0<=D.2.aK/\D.2.aK<=K.p.aD.length/\(D.1.length:Int)<=D.2.aK/\(Dw K c s).1=D.1++(EM K s (K.p.aD.drop D.2.aK.toNat) D.2).1/\(Dw K c s).2=(EM K s (K.p.aD.drop D.2.aK.toNat) D.2).2)/\(K.p.aD.length-D.2.aK).toNat<(K.p.aD.length-d.aK).toNat)\/(o.1≠0/\o=(1, .vC Aa ((Dw K c s).1.map Ap)::Ac K (Dw K c s).2))) (some (1,x)):=λV _ hx=>by
    rw[ac V]at G L;subst hx;refine .some (.inr ⟨by simp,?_⟩);simp_all
   have go: ¬(m.at_>s\/(m.at_=s/\d.next<=d.aK/\Ij m.aP d=true))->Out (λo:Nat×List AC=>(o.1=0/\∃D:List Int×Cv,o.2= .vC Aa (D.1.map Ap)::I s::Ac K D.2/\(0<=D.2.aK/\D.2.aK<=K.p.aD.length/\(D.1.length:Int)<=D.2.aK/\(Dw K c s).1=D.1++(EM K s (K.p.aD.drop D.2.aK.toNat) D.2).1/\(Dw K c s).2=(EM K s (K.p.aD.drop D.2.aK.toNat) D.2).2)/\(K.p.aD.length-D.2.aK).toNat<(K.p.aD.length-d.aK).toNat)\/(o.1≠0/\o=(1, .vC Aa ((Dw K c s).1.map Ap)::Ac K (Dw K c s).2))) (QP K d (l.map Ap) M s):=λV=>by
    rw[ab V]at G L;unfold QP;rw[O4 g1 k,U,wp];refine .cond (λq=> ?_) λq=> ?_
    ·have q:m.aP=5:=eq_of_beq q;rw[ac q]at G L;refine .cond (λ_=> ?_) λe=>by grind [Dd]
     refine .cond (λ_=> ?_) λe=>(inB (show 0<=gA (Aq m) 2 from N.1) (show gA (Aq m) 2<((K.aA.map Ag).length:Int) by rw[aj];exact N.2.1) e).elim;rw[show nth [] (K.aA.map Ag) (gA (Aq m) 2).toNat=Ag (itK K m.aU)from Km N.1 N.2.1];refine .bind (p:=λo=>o=_) ⟨_,hS d.outs (itK K m.aU),rfl⟩ λo e=> ?_;subst e;refine .some (.inl ⟨rfl,(l++[m.aU],{d with outs:=swI d.outs (itK K m.aU),aK:=d.aK+1}),?_,⟨by grind,by grind,by grind,?_,?_⟩,by grind⟩)
     ·rw[d8];rfl
     ·grind
     grind
    have q:m.aP≠5:=by simpa [gA,nth,Af]using q
    rw[ab q]at G L;refine .some (.inl ⟨rfl,(l,{d with aK:=d.aK+1}),rfl,⟨by grind,by grind,by grind,?_,?_⟩,by grind⟩)
    ·grind
    grind
   refine .cond (λa=>stop (.inl (Ba a)) rfl) λa=> ?_;have a: ¬m.at_>s:=B0 a;refine .cond (λb=> .cond (λe=> ?_) λe=>go λw=> ?_) λb=>go λw=> ?_
   ·refine .bind (p:=λo=>o=_) ⟨_,hA d _ _ _,rfl⟩ λo q=> ?_;subst q;refine .cond (λq=>stop (.inr ⟨eq_of_beq b,Ba e,q⟩) rfl) λq=>go λw=> ?_;have q:Ij m.aP d=false:=q
    grind
   ·grind
   rcases w with w|w
   ·omega
   have:(m.at_==s)=false:=b
   grind
  have k: ¬d.aK<((K.p.aD.map Aq).length:Int):=B0 k;rw[aj]at k;rw[fc (by omega)]at G L;refine .some (.inr ⟨by simp,?_⟩);simp_all [EM]
 obtain⟨o,h1,rfl⟩:=key;exact eB h1 rfl
def Zvz {c:Cv} (h:KOK K) (D:0<=c.aK/\c.aK<=K.p.aD.length) (s:Int):OL (I s::Ac K c)=some (.vC Aa ((Dw K c s).1.map Ap)::Ac K (Dw K c s).2):=
 Ya8 h D s (λc at_ k it=>Qso at_ k it c) Z38
def Cr (K:Kf) (c:Cv):Int×Cv:=
 if c.g0=2 then(6,stand c)else if c.aI≠0 then(c.aI,c)
 else if c.aH=true/\c.aM=true then(8,{c with aI:=8})else if c.on=true then CN K c else(0,c)
def Zwi (K:Kf) (c:Cv):(Hf K c).1≠0:=by grind [Hf]
theorem Zg9 (K:Kf) (c:Cv):(CN K c).1≠0:=Zwi K (Dz c)
abbrev FZ (K:Kf) (frm i:Int) (c:Cv):List AC:=I frm::I 5::I i::(FB++(FB++Ac K c))
abbrev UA (K:Kf) (frm mode:Int) (c:Cv):List AC:=I frm::(FB++([.vC kPt [], .vC Aa [],I mode,I 0,I 0,I 0,I 0,I 0,I 0]++Ac K c))
abbrev JZ (c:Cv):Cv:={c with aJ:=false,aL:=false}
def U_ (c:Cv) (E:List Evn):Cv:=E.foldl (λc e=>evC c e.aP e.n) (JZ c)
def Vk (E:List Evn):Prop:=E.length<=1000000/\∀e∈E,e.aP≠7/\e.aP≠12/\e.aP≠13
def S0 (K:Kf) (frm u:Int):Rw:=wA ((Jz (pxt K.p K.x K.t [I frm,I u])).getD []) 0
def Z7v (h:KOK K) (frm u:Int) (hd:u-frm<=1000000000000):Out (λo=>wA o 0=S0 K frm u) (Jz (pxt K.p K.x K.t [I frm,I u])):=
 ⟨_,Qdz (Yd6 h.f frm u hd),rfl⟩
abbrev RO (K:Kf) (c:Cv):Pt:=BB K.p K.x K.t (AI c)
def Qen (K:Kf) (s:Int):∀(l:List Mrk) (c:Cv),∃n q:Int,(EM K s l c).2={c with aK:=n,outs:=q}
 |[],c=>⟨c.aK,c.outs,rfl⟩
 |m::l,c=>by
  unfold EM;split
  ·grind
  split
  ·obtain⟨n,q,h⟩:=Qen K s l {c with outs:=swI c.outs (itK K m.aU),aK:=c.aK+1}
   grind
  obtain⟨n,q,h⟩:=Qen K s l {c with aK:=c.aK+1}
  grind
def Qg7 (K:Kf) (c:Cv) (s:Int):∃n q:Int,(Dw K c s).2={c with aK:=n,outs:=q}:=Qen K s _ c
def HL (c:Cv):Cv:=if c.aH=true\/c.g0≠0 then{c with o2:=true}else c
def CG (c:Cv):Cv:={c with before:=c.s3}
def I1 (K:Kf) (c:Cv):Cv:=if OT K c=true then c else spS c K.bH
def Lk (c:Cv):Cv:={c with aM:=FA c}
def H9 (K:Kf) (c:Cv) (E:List Evn):Cv:=Lk (I1 K (CG (HL (U_ c E))))
def stC (K:Kf) (c:Cv) (E:List Evn):Int×Cv:=if(Cr K (H9 K c E)).1=0 then Gk K (Cr K (H9 K c E)).2 else Cr K (H9 K c E)
structure Kp (c d : Cv) : Prop where
 way:d.way=c.way
 aL:d.aL=c.aL
 aK:d.aK=c.aK
 outs:d.outs=c.outs
theorem Kp.rfl {c:Cv}:Kp c c:=⟨Eq.refl _,Eq.refl _,Eq.refl _,Eq.refl _⟩
theorem Kp.trans {a b c:Cv} (h:Kp a b) (g:Kp b c):Kp a c:=⟨g.way.trans h.way,g.aL.trans h.aL,g.aK.trans h.aK,g.outs.trans h.outs⟩
structure Sm (c d : Cv) : Prop where
 kp:Kp c d
 m0:d.m0=c.m0
 m1:d.m1=c.m1
 m2:d.m2=c.m2
 m3:d.m3=c.m3
 m4:d.m4=c.m4
 on:d.on=c.on
 idx:d.idx=c.idx
 aI:d.aI=c.aI
 aH:d.aH=c.aH
 next:d.next=c.next
theorem Sm.trans {a b c:Cv} (h:Sm a b) (g:Sm b c):Sm a c:=
 ⟨h.kp.trans g.kp,g.m0.trans h.m0,g.m1.trans h.m1,g.m2.trans h.m2,g.m3.trans h.m3,g.m4.trans h.m4,g.on.trans h.on,g.idx.trans h.idx,g.aI.trans h.aI,g.aH.trans h.aH,g.next.trans h.next⟩
theorem Sm.rfl {c:Cv}:Sm c c:=⟨Kp.rfl,Eq.refl _,Eq.refl _,Eq.refl _,Eq.refl _,Eq.refl _,Eq.refl _,Eq.refl _,Eq.refl _,Eq.refl _,Eq.refl _⟩
def Gd.sm {n:Int} {c d:Cv} (g:Gd K n c) (h:Sm c d):Gd K n d:=g.same h.kp.way h.kp.aK h.on h.idx h.m0 h.m1 h.m2
def Qbc (c:Cv) (k n:Int):Sm c (evC c k n):=⟨⟨Eq.refl _,Eq.refl _,Eq.refl _,Eq.refl _⟩,Eq.refl _,Eq.refl _,Eq.refl _,Eq.refl _,Eq.refl _,Eq.refl _,Eq.refl _,Eq.refl _,Eq.refl _,Eq.refl _⟩
def Qxn:∀(E:List Evn) (c:Cv),Sm c (E.foldl (λc e=>evC c e.aP e.n) c)
 |[],_=>Sm.rfl
 |e::E,c=>(Qbc c e.aP e.n).trans (Qxn E _)
def Ye4 (c:Cv) (E:List Evn):Sm (JZ c) (U_ c E):=Qxn E _
def Q62 (c:Cv):Sm c (HL c):=by
 unfold HL;split
 ·exact⟨⟨rfl,rfl,rfl,rfl⟩,rfl,rfl,rfl,rfl,rfl,rfl,rfl,rfl,rfl,rfl⟩
 exact Sm.rfl
def Zkd (K:Kf) (c:Cv):Sm c (I1 K c):=by
 unfold I1;split
 ·exact Sm.rfl
 exact⟨⟨rfl,rfl,rfl,rfl⟩,rfl,rfl,rfl,rfl,rfl,rfl,rfl,rfl,rfl,rfl⟩
def Zxo (K:Kf) (c:Cv) (E:List Evn):Sm (JZ c) (H9 K c E):=
 (Ye4 c E).trans ((Q62 _).trans (Sm.trans (b:=CG (HL (U_ c E))) ⟨⟨rfl,rfl,rfl,rfl⟩,rfl,rfl,rfl,rfl,rfl,rfl,rfl,rfl,rfl,rfl⟩ ((Zkd K _).trans ⟨⟨rfl,rfl,rfl,rfl⟩,rfl,rfl,rfl,rfl,rfl,rfl,rfl,rfl,rfl,rfl⟩)))
def Gd.clear {n:Int} {c:Cv} (g:Gd K n c):Gd K n (JZ c):=⟨g.way,g.pass,g.task,g.mo,g.m0⟩
def Z5o {n:Int} {c:Cv} (g:Gd K n c) (E:List Evn):Gd K n (H9 K c E):=g.clear.sm (Zxo K c E)
def Zp0 {n:Int} {c:Cv} (g:Gd K n c):Gd K n (Hf K c).2/\Kp c (Hf K c).2:=by
 have done:∀d:Cv,Gd K n d->Kp c d->Gd K n (Im d)/\Kp c (Im d):=λd g k=>⟨⟨g.way,g.pass,λh=>(by cases h),g.mo,g.m0⟩,k.trans ⟨rfl,rfl,rfl,rfl⟩⟩;have cmd:∀D sp:Int,Gd K n (Jt c D sp)/\Kp c (Jt c D sp):=λD sp=>⟨⟨g.way,g.pass,g.task,g.mo,g.m0⟩,⟨rfl,rfl,rfl,rfl⟩⟩;unfold Hf;split
 ·grind [Kp.rfl]
 split
 ·grind [Kp.rfl]
 split
 ·grind [Kp.rfl]
 split
 ·grind
 split
 ·exact⟨⟨g.way,g.pass,g.task,g.mo,g.m0⟩,⟨rfl,rfl,rfl,rfl⟩⟩
 grind [Kp.rfl]
def Ya9 {n:Int} {c:Cv} (g:Gd K n c):Gd K n (CN K c).2/\Kp c (CN K c).2:=by
 have h:=Zp0 (c:=Dz c) ⟨g.way,g.pass,g.task,g.mo,g.m0⟩;exact⟨h.1,h.2.way,h.2.aL,h.2.aK,h.2.outs⟩
def Zz0 {n:Int} {c:Cv} (g:Gd K n c) {i:Int} (D:0<=i) (G:i<K.p.aD.length):Gd K n (Fx K c i).2/\Kp c (Fx K c i).2:=by
 have h:=Ya9 (c:={c with on:=true,idx:=i,aN:=Ft K c i,cnt:=0}) ⟨g.way,g.pass,λ_=>⟨D,G⟩,g.mo,g.m0⟩;exact⟨h.1,⟨h.2.way,h.2.aL,h.2.aK,h.2.outs⟩⟩
def Pj {n:Int} {c:Cv} (g:Gd K n c):Gd K n (Fk c)/\Kp c (Fk c):=by
 unfold Fk;split
 ·exact⟨⟨g.way,g.pass,g.task,g.mo,g.m0⟩,⟨rfl,rfl,rfl,rfl⟩⟩
 grind [Kp.rfl]
theorem Ya2 (K:Kf) (c:Cv) (l:Int):Kp c (DI K c l):=⟨rfl,rfl,rfl,rfl⟩
theorem Gd.e0 {n:Int} {c:Cv} (g:Gd K n c) (x:Int):Gd K n {c with e0:=x}:=⟨g.way,g.pass,g.task,g.mo,g.m0⟩
theorem Gd.s3 {n:Int} {c:Cv} (g:Gd K n c) (x:Int):Gd K n {c with s3:=x}:=⟨g.way,g.pass,g.task,g.mo,g.m0⟩
def Zaj {n:Int} {c:Cv} (h:KOK K) (g:Gd K n c) (hn:0<=n/\n<=10000) (l:Int) {s:Sgm} (I:i64 s.aX):Gd K (n+1) (Iv K c l s)/\Kp c (Iv K c l s):=by
 have G:=ZH h g hn l;unfold Iv;split
 ·exact⟨G.s3 _,⟨rfl,rfl,rfl,rfl⟩⟩
 obtain⟨-,v,N,b,z,y,e,L,M⟩:=Qje h g l I;have D:Gd K (n+1) (Mr c (thO K c l s.aX)):=by
  have e1:gA (thO K c l s.aX) 1=v:=by rw[L];rfl
  have:=g.bD h hn M;unfold Mr WB;rw[e1];exact this.same rfl rfl rfl rfl rfl rfl rfl
 unfold Ow;split
 ·exact⟨G.e0 3,⟨rfl,rfl,rfl,rfl⟩⟩
 split
 ·exact⟨(Pj D).1,Kp.trans (b:=Mr c (thO K c l s.aX)) ⟨rfl,rfl,rfl,rfl⟩ (Pj D).2⟩
 exact⟨D,⟨rfl,rfl,rfl,rfl⟩⟩
theorem Zze {n:Int} {c:Cv} (h:KOK K) (g:Gd K n c) (hn:0<=n/\n<=10000) (l:Int):Gd K (n+1) (Ic K c l)/\Kp c (Ic K c l):=by
 unfold Ic;split
 ·grind [ZH,Ya2]
 rename_i G;have D:=λe=>G (.inl e);split
 ·exact Zaj h g hn l (G5 h D).2.2
 split
 ·have:=Zaj h (g.go (vF K c)) hn l (G5 h D).2.2;exact⟨this.1,Kp.trans (b:=goC K c (vF K c)) ⟨rfl,rfl,rfl,rfl⟩ this.2⟩
 split
 ·exact⟨(Pj (g.up hn.1)).1,(Pj g).2⟩
 exact⟨g.up hn.1,Kp.rfl⟩
def Q5z {n:Int} {c:Cv} (h:KOK K) (g:Gd K n c) (hn:0<=n/\n<=10000):Gd K (n+1) (Gk K c).2/\Kp c (Gk K c).2:=by
 have D:=Qpr K c;unfold Gk;split
 ·split
  ·rename_i k;have I:(BS K c).2<K.p.aD.length:=by
    rcases D with D|D
    ·omega
    omega
   have G:=Zz0 (g.up hn.1) k I;split
   ·exact⟨(Pj G.1).1,G.2.trans (Pj G.1).2⟩
   omega
  split
  ·exact⟨⟨g.way,g.pass,g.task,(g.up hn.1).mo,(g.up hn.1).m0⟩,⟨rfl,rfl,rfl,rfl⟩⟩
  exact⟨g.up hn.1,Kp.rfl⟩
 grind [Zze]
def Qac (K:Kf) (s:Int):∀(l:List Mrk) (c:Cv),c.aK<=(EM K s l c).2.aK/\(EM K s l c).2.aK<=c.aK+l.length
 |[],c=>by simp[EM]
 |m::l,c=>by
  unfold EM;split
  ·grind
  split
  ·have:=Qac K s l {c with outs:=swI c.outs (itK K m.aU),aK:=c.aK+1}
   grind
  have:=Qac K s l {c with aK:=c.aK+1}
  grind
def Z72 (K:Kf) (c:Cv) (L:K.p.aF.length<=1000000) (i:Int):∃v:Int,Sd (I i::Ac K c)=some (I v::Ac K c):=by
 have key:Out (λo=>∃v:Int,o=(1,I v::Ac K c)) (Ak VP (I i::I 0:: .vC Ai (K.p.aF.map At)::I ((K.p.aF.map At).length:Int)::I ((0:Nat):Int)::Ac K c)):=by
  refine Ch (λs:Int×Nat=>I i::I s.1:: .vC Ai (K.p.aF.map At)::I ((K.p.aF.map At).length:Int)::I (s.2:Int)::Ac K c) (λs=>s.2<=K.p.aF.length) (λs=>K.p.aF.length-s.2) _ ?_ (0,0) (i8 _);rintro⟨v,k⟩ M;refine Out.eqv (Z9j i v (K.p.aF.map At) ((K.p.aF.map At).length:Int) k K c) ?_;have N:((K.p.aF.map At).length:Int)=K.p.aF.length:=by rw[aj]
  refine .cond (λD=> ?_) λ_=> .some (.inr ⟨by simp,v,rfl⟩);have D:=Ba D;refine .cond (λ_=> ?_) λe=>(inB (by omega) D e).elim;refine .cond (λ_=> .some (.inr ⟨by simp,v,rfl⟩)) λ_=> ?_;rw[Ad (x:=(k:Int)+1)];exact .some (.inl ⟨rfl,(_,k+1),rfl,by omega,by omega⟩)
 obtain⟨o,G,v,rfl⟩:=key;refine⟨v,?_⟩;show Qcf (Ak VP) _=_;rw[Zrz];exact eB G (eT rfl rfl)
def Zt7 (K:Kf) (c:Cv) (N:K.p.aF.length<=1000000) (s:Int):Lo (I s::Ac K c)=some [I (SF K c s)]:=by
 have key:Out (λo=>∃v:Int,o=(1,I v::Ac K c)) (Ak N1 (I s::I 0::I 0:: .vC Ai (K.p.aF.map At)::I ((K.p.aF.map At).length:Int)::I ((0:Nat):Int)::Ac K c)):=by
  refine Ch (λz:Int×Int×Nat=>I s::I z.1::I z.2.1:: .vC Ai (K.p.aF.map At)::I ((K.p.aF.map At).length:Int)::I (z.2.2:Int)::Ac K c) (λz=>z.2.2<=K.p.aF.length) (λz=>K.p.aF.length-z.2.2) _ ?_ (0,0,0) (i8 _);rintro⟨v,w,k⟩ G;dsimp only at G;refine Out.eqv (Zr3 s v w (K.p.aF.map At) ((K.p.aF.map At).length:Int) k K c) ?_;refine .cond (λD=> ?_) λ_=> .some (.inr ⟨by simp,w,rfl⟩);have D:=Ba D;refine .cond (λ_=> ?_) λe=>(inB (by omega) D e).elim;rw[Ad (x:=(k:Int)+1)];refine .cond (λ_=> .cond (λ_=> ?_) λ_=> ?_) λ_=> ?_;all_goals exact .some (.inl ⟨rfl,(_,_,k+1),rfl,by grind,by grind⟩)
 obtain⟨o,L,v,rfl⟩:=key;have M:Lo (I s::Ac K c)=some [I v]:=by
  refine(Zyq _ s K c).trans ?_;exact eB L rfl
 have e:SF K c s=v:=by unfold SF;rw[M];rfl
 grind
def Z1e {c:Cv} (h:KOK K) (hS:V (Ac K c)=some (At (vF K c)++[B (Eu K c).isSome])) (U:Z (Ac K c)=some [I (Bk K c)]) (hB:∀i,∃v:Int,M (I i::Ac K c)=some (I v::Ac K c)):
  ∃b:Bool,(c.aH=true->b=true)/\Qgr M Z V (Ac K c)=some (Ac K {c with aH:=b}):=by
 have G:∃b:Bool,(c.aH=true->b=true)/\some (Ac K c)=some (Ac K {c with aH:=b}):=⟨c.aH,id,rfl⟩;have L:∀{m:Option (List AC)} {f:Fn} {o:List AC},m=some o->(∃b:Bool,(c.aH=true->b=true)/\f o=some (Ac K {c with aH:=b}))->∃b:Bool,(c.aH=true->b=true)/\m.bind f=some (Ac K {c with aH:=b}):=λh hf=>by simp_all
 have D:∀{b:Bool} {X Y:Option (List AC)},(b=true->∃d:Bool,(c.aH=true->d=true)/\X=some (Ac K {c with aH:=d}))->(b=false->∃d:Bool,(c.aH=true->d=true)/\Y=some (Ac K {c with aH:=d}))->∃d:Bool,(c.aH=true->d=true)/\(bif b then X else Y)=some (Ac K {c with aH:=d}):=fun{b} _ _ hx hy=>by
  cases b
  ·simp_all
  simp_all
 rw[Zpf];refine L hS (D (λO=>D (λ_=>D (λ_=>D (λ_=>L U ?_) λ_=>G) λe=> ?_) λ_=>G) λ_=>G)
 ·obtain⟨v,hv⟩:=hB (vF K c).aU;refine L hv (D (λ_=>⟨true,λ_=>rfl,rfl⟩) λ_=>⟨c.aH,id,rfl⟩)
 cases N:Eu K c with
 |none=>rw[N]at O;cases O
 |some g=>
  obtain⟨q1,q2,-⟩:=h.aF g (Yl N);have eg:vF K c=g:=by unfold vF;rw[N];rfl
  have e:(decide (0<=(vF K c).aU)&&decide ((vF K c).aU<((K.aA.map Ag).length:Int)))=false:=e;simp_all
def Z39 (h:KOK K) (c:Cv):N0 (Ac K c)=some (Ac K (LP K c))/\(c.aH=true->(LP K c).aH=true):=by
 obtain⟨b,hb,D⟩:=Z1e h (Xi h c) (QI h c) (Z72 K c (by grind [h.f.p.count]));have D:N0 (Ac K c)=some (Ac K {c with aH:=b}):=D;have e:LP K c={c with aH:=b}:=by unfold LP;rw[D];rfl
 simp_all
def FT (K:Kf) (c:Cv) (n:Int):Bool:=(Eu K c).isSome&&decide (0<n)&&decide (c.way=0)&& !c.on&&decide (c.aI=0)&&c.o2&&decide ((vF K c).aX=0)&&EH K c
def Rm (K:Kf) (c:Cv) (n:Int):Int:=mx (mx 0 (O (Bk K c-n))) (SF K c (Bk K c))
def EC (K:Kf) (c:Cv) (n:Int):Kf×Cv:=if FT K c n=true then(sT K (Dm K c (Rm K c n)),{zM c with o2:=false,way:=1,home:=Bk K c})else(K,c)
def Zxd {c:Cv} {n:Int} (hS:P (Ac K c)=some (At (vF K c)++[B (Eu K c).isSome])) (X:V (Ac K c)=some [I (Bk K c)])
  (Y:∀s,Z (I s::Ac K c)=some [I (SF K c s)]) (hT:∀to,M (pxt K.p K.x K.t [I c.m0,I c.m1,I c.m2,I c.m3,I c.m4,I c.m5,I to])=some (Kx K c to)):
  Qb6 M Z V P (I n::Ac K c)=some (Ac (EC K c n).1 (EC K c n).2):=by
 rw[Zoe];have D:FT K c n=false->some (Ac K c)=some (Ac (EC K c n).1 (EC K c n).2):=λe=>by simp_all [EC]
 refine eB hS ?_;refine eC (λe=> ?_) λe1=> ?_
 ·have e:(!(Eu K c).isSome)=true:=e;exact D (by unfold FT;grind)
 have e1:(Eu K c).isSome=true:=by simpa [bA,nth,EJ]using e1
 refine eC (λe=>D ?_) λe2=> ?_
 ·unfold FT;grind
 have e2:0<n:=by have:=B0 e2;omega
 refine eC (λe=>D ?_) λe3=> ?_
 ·unfold FT;grind
 have e3:c.way=0:=by simpa using e3
 refine eC (λe=>D ?_) λL=> ?_
 ·simp_all [FT]
 have L:c.on=false:=L;refine eC (λe=>D ?_) λN=> ?_
 ·simp_all [FT]
 have N:c.aI=0:=by simpa using N
 refine eC (λe=>D ?_) λO=> ?_
 ·simp_all [FT]
 have O:c.o2=true:=by simpa using O
 refine eC (λe=>D ?_) λU=> ?_
 ·simp_all [FT,gA,nth,Af]
 have U:(vF K c).aX=0:=by simpa [gA,nth,Af]using U
 have G:FT K c n=EH K c:=by
  unfold FT;rw[e1,av e2,av e3,L,av N,O,av U];rfl
 refine eB X (eB (Y (Bk K c)) ?_);have hT:=hT (Rm K c n);unfold Kx at hT;unfold EC;rw[G];cases hb:EH K c
 ·rw[hb,ab (by simp)]at hT;exact eB hT (eT rfl rfl)
 rw[hb,ac rfl]at hT;rw[ac rfl];generalize Dm K c (Rm K c n)=t at*;exact eB hT (eF rfl (by kernel_rfl))
def Z6i (h:KOK K) (c:Cv) (n:Int):Sv (I n::Ac K c)=some (Ac (EC K c n).1 (EC K c n).2):=
 Zxd (Xi h c) (QI h c) (Zt7 K c (by grind [h.f.p.count])) (Zia h c)
def evA (s:Kf×Cv) (k n:Int):Kf×Cv:=
 if k=13 then(s.1,NS s.1 (evC s.2 k n) n)else if k=12 then(s.1,LP s.1 (evC s.2 k n))else if k=7 then EC s.1 (evC s.2 k n) n else(s.1,evC s.2 k n)
def Znv (c:Cv) (x:Int) {k:Int} (n:Int)
  (O:k≠11->H [I c.o0,I c.o1,B c.o2,B c.o3,B c.o4,I x,I k,I n]=some [I (evC c k n).o0,I (evC c k n).o1,B (evC c k n).o2,B (evC c k n).o3,B (evC c k n).o4])
  (U:P [I c.g0,I c.g1,I c.g2,I x,I k,I n]=some [I (evC c k n).g0,I (evC c k n).g1,I (evC c k n).g2])
  (G:k=13->V (I n::Ac K (evC c k n))=some (Ac K (NS K (evC c k n) n))) (L:k=12->Z (Ac K (evC c k n))=some (Ac K (LP K (evC c k n))))
  (N:k=7->M (I n::Ac K (evC c k n))=some (Ac (EC K (evC c k n) n).1 (EC K (evC c k n) n).2)) (D:k=13\/k=12\/k=7):
  Uq M Z V P H (I x::I k::I n::Ac K c)=some (Ac (evA (K,c) k n).1 (evA (K,c) k n).2):=by
 rw[Quq];have X:(evC c k n).aJ=c.aJ:=by
  show(if k=4 then true else c.aJ)=c.aJ;rw[ab]
 have Y:({c with o0:=(evC c k n).o0,o1:=(evC c k n).o1,o2:=(evC c k n).o2,o3:=(evC c k n).o3,o4:=(evC c k n).o4,g0:=(evC c k n).g0,g1:=(evC c k n).g1,g2:=(evC c k n).g2}:Cv)=evC c k n:=by
  have e:(evC c k n)={c with o0:=(evC c k n).o0,o1:=(evC c k n).o1,o2:=(evC c k n).o2,o3:=(evC c k n).o3,o4:=(evC c k n).o4,g0:=(evC c k n).g0,g1:=(evC c k n).g1,g2:=(evC c k n).g2,aJ:=(evC c k n).aJ}:=rfl;rw[X]at e;exact e.symm
 refine eB (O (by omega)) (eB U ?_);show cond (k==13) ((V (I n::Ac K {c with o0:=(evC c k n).o0,o1:=(evC c k n).o1,o2:=(evC c k n).o2,o3:=(evC c k n).o3,o4:=(evC c k n).o4,g0:=(evC c k n).g0,g1:=(evC c k n).g1,g2:=(evC c k n).g2})).bind _) (cond (k==11) _ (cond (k==12) ((Z (Ac K {c with o0:=(evC c k n).o0,o1:=(evC c k n).o1,o2:=(evC c k n).o2,o3:=(evC c k n).o3,o4:=(evC c k n).o4,g0:=(evC c k n).g0,g1:=(evC c k n).g1,g2:=(evC c k n).g2})).bind _) (cond (k==7) ((M (I n::Ac K {c with o0:=(evC c k n).o0,o1:=(evC c k n).o1,o2:=(evC c k n).o2,o3:=(evC c k n).o3,o4:=(evC c k n).o4,g0:=(evC c k n).g0,g1:=(evC c k n).g1,g2:=(evC c k n).g2})).bind _) _)))=_;rw[Y];unfold evA;dsimp only;generalize evC c k n=d at*;rcases D with D|D|D
 ·rw[ac D];have G:=G D;generalize NS K d n=e at*;exact eT (beT D) (eB G rfl)
 ·rw[ab,ac D];have L:=L D;generalize LP K d=e at*;exact eF (beF (by omega)) (eF (beF (by omega)) (eT (beT D) (eB L rfl)))
 rw[ab,ab,ac D];have N:=N D;generalize EC K d n=e at*;exact eF (beF (by omega)) (eF (beF (by omega)) (eF (beF (by omega)) (eT (beT D) (eB N rfl))))
def Z4x (h:KOK K) (c:Cv) (x k:Int) {n:Int} (hn:n<=1073741824):JR (I x::I k::I n::Ac K c)=some (Ac (evA (K,c) k n).1 (evA (K,c) k n).2):=by
 by_cases D:k≠7/\k≠12/\k≠13
 ·have e:evA (K,c) k n=(K,evC c k n):=by
   unfold evA;rw[ab D.2.2,ab D.2.1,ab D.1]
  simp_all [Zq8]
 exact Znv c x n (λh=>Qmb Qkh c x k n h) (Qno (by rfl) Q7t c x k n) (λ_=>(X1 h _ hn).1) (λ_=>(Z39 h _).1) (λ_=>Z6i h _ n) (by omega)
end Go.Bm
namespace Go.Bm
open Classical
structure Ga (K : Kf) (n : Int) (c : Cv) : Prop where
 way:c.way=0\/c.way=1\/c.way=2
 pass:0<=c.aK/\c.aK<=K.p.aD.length
 task:c.on=true->0<=c.idx/\c.idx<K.p.aD.length
 mo:Mo K c
 m0: -(16777216*n)<=c.m0/\c.m0<=16777216*n
def Ga.gd {n:Int} {c:Cv} (g:Ga K n c) (h:c.way=0):Gd K n c:=⟨h,g.pass,g.task,g.mo,g.m0⟩
def Gd.ga {n:Int} {c:Cv} (g:Gd K n c):Ga K n c:=⟨.inl g.way,g.pass,g.task,g.mo,g.m0⟩
def w0 (c:Cv):Cv:={c with way:=0}
theorem Ga.w0 {n:Int} {c:Cv} (g:Ga K n c):Gd K n (Go.Bm.w0 c):=⟨rfl,g.pass,g.task,g.mo,g.m0⟩
theorem Ga.up {n:Int} {c:Cv} (g:Ga K n c) (hn:0<=n):Ga K (n+1) c:=⟨g.way,g.pass,g.task,g.mo,by grind [g.m0]⟩
def BW (K:Kf) (c:Cv) (E:List Evn):Kf×Cv:=E.foldl (λs e=>evA s e.aP e.n) (K,JZ c)
def EvE (E:List Evn):Prop:=E.length<=1000000/\∀e∈E,e.n<=1073741824
theorem Z6a (h:KOK K) (c:Cv) (n:Int):KOK (EC K c n).1:=by
 unfold EC;split
 ·exact h.sT (Zfi h c _)
 omega
def Yu {s:Kf×Cv} (h:KOK s.1) (k n:Int):KOK (evA s k n).1:=by grind [evA,Z6a]
def Zmb:∀(E:List Evn) {s:Kf×Cv},KOK s.1->KOK (E.foldl (λs e=>evA s e.aP e.n) s).1
 |[],_,h=>h
 |e::E,_,h=>Zmb E (Yu h e.aP e.n)
theorem QW (h:KOK K) (c:Cv) (E:List Evn):KOK (BW K c E).1:=Zmb E h
def Zzl {M N D O U V MU MS X Y MT G:Fn} {c:Cv} (hE:EvE E) (h:KOK K)
  (hV:∀{K:Kf} (_:KOK K) (c:Cv) (x k:Int) {n:Int},n<=1073741824->G (I x::I k::I n::Ac K c)=some (Ac (evA (K,c) k n).1 (evA (K,c) k n).2)):
  Ak (TM M N D O U V MU MS X Y MT G) (.vC kPt (E.map evR)::I (E.map evR).length::I 0::(FB++Ac K (JZ c)))=some (1,FB++Ac (BW K c E).1 (BW K c E).2):=by
 have key:Out (λo=>o=(1,FB++Ac (BW K c E).1 (BW K c E).2)) (Ak (TM M N D O U V MU MS X Y MT G) (.vC kPt (E.map evR)::I (E.map evR).length::I ((0:Nat):Int)::(FB++Ac (BW K c (E.take 0)).1 (BW K c (E.take 0)).2))):=by
  refine Ch (λi:Nat=> .vC kPt (E.map evR)::I (E.map evR).length::I (i:Int)::(FB++Ac (BW K c (E.take i)).1 (BW K c (E.take i)).2)) (λi=>i<=E.length) (λi=>E.length-i) _ ?_ 0 (by simp);intro i L;have hl:=hE.1;refine Out.eqv (Zya M N D O U V MU MS X Y MT G (E.map evR) (E.map evR).length i [] [] 0 0 0 0 0 0 0 (BW K c (E.take i)).1 (BW K c (E.take i)).2) ?_;refine .cond (λk=> ?_) λk=> ?_
  ·have k:=Ba k;have L:i<E.length:=by rw[aj]at k;omega
   refine .cond (λ_=> ?_) λe=>(inB (by omega) k e).elim;rw[Qdv E L];refine .bind ⟨_,hV (QW h c (E.take i)) (BW K c (E.take i)).2 E[i].cycle E[i].aP (hE.2 _ (dl L)),rfl⟩ λo e=> ?_;subst e;have e1:BW K c (E.take (i+1))=evA (BW K c (E.take i)) E[i].aP E[i].n:=by
    unfold BW;rw[gz,an L,List.foldl_append];rfl
   rw[Ad];refine .some (.inl ⟨rfl,i+1,?_,by omega,by omega⟩);rw[e1];rfl
  have k:=B0 k;rw[aj]at k;rw[kg (by omega)];exact .some (.inr ⟨by simp,rfl⟩)
 obtain⟨o,h1,rfl⟩:=key;exact h1
def tdC (c:Cv):Cv:={zM c with aL:=true,way:=if c.way=1 then 2 else 0,o2:=if c.way=1 then c.o2 else true}
def toC (K:Kf) (c:Cv):Int:=if c.way=2 then K.len else c.home
def D7 (K:Kf) (c:Cv):Kf×Cv:=
 if c.aM=true/\c.m0=O (K.t.length*256)then(if EH K c=true then(sT K (Dm K c (toC K c)),tdC c)else(K,c))else(K,DI K c K.t.length)
def Lm (c:Cv):Int:=if c.way=2 then 5 else 4
theorem Zz4 {c:Cv} {m:AC} (hT:M (pxt K.p K.x K.t [I c.m0,I c.m1,I c.m2,I c.m3,I c.m4,I c.m5,I a])=some (Kx K c a)):
  RB M K c m (I a)=some (if EH K c=true then m::B true::Ac (sT K (Dm K c a)) (tdC c)else m::B true::Ac K c):=by
 unfold Kx at hT;cases hb:EH K c
 ·rw[hb,ab (by simp)]at hT;exact eB hT (eT rfl rfl)
 rw[hb,ac rfl]at hT;refine eB hT (eF rfl ?_);unfold tdC;refine eC (λe=> ?_) λe=> ?_
 ·have e:=eq_of_beq e;rw[ac e,ac e];exact(show _=_ from by kernel_rfl)
 have e:c.way≠1:=by simpa using e
 rw[ab e,ab e];exact(show _=_ from by kernel_rfl)
def Z20 {c:Cv} (D:c.way≠0) (G:Z (nxL K c K.t.length)=some (Fc c.m0 c.m1 c.m3 c.m4 (nxV K c K.t.length)))
  (hT:∀to,M (pxt K.p K.x K.t [I c.m0,I c.m1,I c.m2,I c.m3,I c.m4,I c.m5,I to])=some (Kx K c to)):
  Us M Z (Ac K c)=some (I (Lm c)::B true::Ac (D7 K c).1 (D7 K c).2):=by
 rw[Qxo];refine eF (beF D) ?_;have key:∀m:AC,V7 c Z K M m=some (m::B true::Ac (D7 K c).1 (D7 K c).2):=by
  intro m;unfold D7;have plan: ¬(c.aM=true/\c.m0=O (K.t.length*256))->((Z (nxL K c K.t.length)).bind λo8=>some (m::B true::Ac K {c with m0:=gA o8 0,m1:=gA o8 1,m2:=gA o8 2,m3:=gA o8 3,m4:=gA o8 4,m5:=gA o8 5}))=some (m::B true::Ac (if c.aM=true/\c.m0=O (K.t.length*256)then(if EH K c=true then(sT K (Dm K c (toC K c)),tdC c)else(K,c))else(K,DI K c K.t.length)).1 (if c.aM=true/\c.m0=O (K.t.length*256)then(if EH K c=true then(sT K (Dm K c (toC K c)),tdC c)else(K,c))else(K,DI K c K.t.length)).2):=λhn=>by
   rw[ab hn];unfold DI;generalize nxV K c K.t.length=v at*;exact eB G rfl
  have turn:(c.aM=true/\c.m0=O (K.t.length*256))->∀to,to=toC K c->RB M K c m (I to)=some (m::B true::Ac (if c.aM=true/\c.m0=O (K.t.length*256)then(if EH K c=true then(sT K (Dm K c (toC K c)),tdC c)else(K,c))else(K,DI K c K.t.length)).1 (if c.aM=true/\c.m0=O (K.t.length*256)then(if EH K c=true then(sT K (Dm K c (toC K c)),tdC c)else(K,c))else(K,DI K c K.t.length)).2):=λL to N=>by
   rw[ac L,<-N,Zz4 (hT to)];split<;>rfl
  refine eC (λe=> ?_) λe=>eC (λe2=> ?_) λe2=>eC (λe3=> ?_) λe3=> ?_
  ·have e:c.aM=false:=by simpa using e
   exact plan λq=>by grind
  ·have e2:c.m0≠O (K.t.length*256):=λq=>by grind
   exact plan λq=>e2 q.2
  ·have e:c.aM=true:=by simpa using e
   have e2:c.m0=O (K.t.length*256):=iz λq=>by simp_all
   exact turn ⟨e,e2⟩ K.len (by unfold toC;simp_all)
  have e:c.aM=true:=by simpa using e
  simp_all [toC]
 unfold Lm;refine eC (λe=> ?_) λe=> ?_
 ·simp_all
 rw[ab (show¬c.way=2 by grind)];exact key _
def Zo4 (h:KOK K) {n:Int} {c:Cv} (g:Ga K n c) (D:c.way≠0):Jy (Ac K c)=some (I (Lm c)::B true::Ac (D7 K c).1 (D7 K c).2):=
 Z20 D (WQ h g.w0 K.t.length).1 (Zia h c)
def B8 (K:Kf) (c:Cv):Int×Kf×Cv:=if(Cr K c).1≠0 then((Cr K c).1,K,(Cr K c).2)else if c.way≠0 then(Lm c,D7 K c)else(0,K,c)
def Z2k {N3:Lp} {ME MR D G L M MU MS MN MX MT MV:Fn} {c:Cv} (frm:Int)
  (hU:MU (Ac K c)=some (if c.g0=2 then I 6::B true::Ac K (stand c)else I 0::B false::Ac K c))
  (hO:M (Ac K c)=some (I c.aI::B (c.aI !=0)::Ac K c))
  (hP:L (Ac K c)=some (if c.aH=true/\c.aM=true then I 8::B true::Ac K {c with aI:=8}else I 0::B false::Ac K c))
  (hB:G (Ac K c)=some (if c.on=true then I (CN K c).1::B true::Ac K (CN K c).2 else I 0::B false::Ac K c))
  (hG:D (Ac K c)=some (if c.way≠0 then I (Lm c)::B true::Ac (D7 K c).1 (D7 K c).2 else I 0::B false::Ac K c)):
  Ak (IR ME MR D G L M MU MS MN MX MT MV N3) (FZ K frm 0 c)=some (1,UA (B8 K c).2.1 frm (B8 K c).1 (B8 K c).2.2):=by
 have w:∀i:Int,0<=i->i<5->O (i+1)=i+1:=λi _ _=>Ad;have e:=λi=>Z66 ME MR D G L M MU MS MN MX MT MV N3 frm 5 i [] [] 0 0 0 0 0 0 0 [] [] 0 0 0 0 0 0 0 K c;have s0:c.g0≠2->IR ME MR D G L M MU MS MN MX MT MV N3 (FZ K frm 0 c)=some (0,FZ K frm 1 c):=λh=>by
  refine de (e 0) (eT rfl (eT rfl (eB hU ?_)));rw[ab h];rfl
 have s1:c.aI=0->IR ME MR D G L M MU MS MN MX MT MV N3 (FZ K frm 1 c)=some (0,FZ K frm 2 c):=λh=>by
  refine de (e 1) (eT rfl (eF rfl (eT rfl (eB hO ?_))));rw[h];rfl
 have s2: ¬(c.aH=true/\c.aM=true)->IR ME MR D G L M MU MS MN MX MT MV N3 (FZ K frm 2 c)=some (0,FZ K frm 3 c):=λh=>by
  refine de (e 2) (eT rfl (eF rfl (eF rfl (eT rfl (eB hP ?_)))));rw[ab h];rfl
 have s3:c.on=false->IR ME MR D G L M MU MS MN MX MT MV N3 (FZ K frm 3 c)=some (0,FZ K frm 4 c):=λh=>by
  refine de (e 3) (eT rfl (eF rfl (eF rfl (eF rfl (eT rfl (eB hB ?_))))));rw[ab (by simp_all)];rfl
 have s4: ¬c.way≠0->IR ME MR D G L M MU MS MN MX MT MV N3 (FZ K frm 4 c)=some (0,FZ K frm 5 c):=λh=>by
  refine de (e 4) (eT rfl (eF rfl (eF rfl (eF rfl (eF rfl (eT rfl (eB hG ?_)))))));rw[ab h];rfl
 have a0:c.way≠0->IR ME MR D G L M MU MS MN MX MT MV N3 (FZ K frm 4 c)=some (1,UA (D7 K c).1 frm (Lm c) (D7 K c).2):=λh=>by
  refine de (e 4) (eT rfl (eF rfl (eF rfl (eF rfl (eF rfl (eT rfl (eB hG ?_)))))));rw[ac h];rfl
 have s5:IR ME MR D G L M MU MS MN MX MT MV N3 (FZ K frm 5 c)=some (1,UA K frm 0 c):=by
  exact de (e 5) (eF rfl rfl)
 have V:∀x:Int×Cv,x.1≠0->Cr K c=x->B8 K c=(x.1,K,x.2):=λx hx e=>by simp_all [B8]
 by_cases h:c.g0=2
 ·have N:Cr K c=(6,stand c):=by unfold Cr;rw[ac h]
  rw[V _ (show(6:Int)≠0 by decide) N];refine Bc (de (e 0) (eT rfl (eT rfl (eB hU ?_)))) (by simp);rw[ac h];rfl
 rw[Bw (s0 h)];by_cases X:c.aI=0
 ·rw[Bw (s1 X)];by_cases U:c.aH=true/\c.aM=true
  ·have N:Cr K c=(8,{c with aI:=8}):=by unfold Cr;rw[ab h,ab,ac U]
   rw[V _ (show(8:Int)≠0 by decide) N];refine Bc (de (e 2) (eT rfl (eF rfl (eF rfl (eT rfl (eB hP ?_)))))) (by simp);rw[ac U];rfl
  rw[Bw (s2 U)];cases Y:c.on
  ·have N:Cr K c=(0,c):=by unfold Cr;rw[ab h,ab,ab U,ab (by simp_all)]
   rw[Bw (s3 Y)];unfold B8;rw[N,ab (by simp)];by_cases hw:c.way≠0
   ·simp_all [Bc]
   rw[ab hw,Bw (s4 hw)];simp_all [Bc]
  have N:Cr K c=CN K c:=by unfold Cr;rw[ab h,ab,ab U,ac Y]
  rw[V _ (Zg9 K c) N];refine Bc (de (e 3) (eT rfl (eF rfl (eF rfl (eF rfl (eT rfl (eB hB ?_))))))) (by simp);rw[ac Y];rfl
 have N:Cr K c=(c.aI,c):=by unfold Cr;rw[ab h,ac X]
 rw[V _ X N];refine Bc (de (e 1) (eT rfl (eF rfl (eT rfl (eB hO ?_))))) (by simp);rw[bnT X];rfl
def Hw (K:Kf) (c:Cv) (s:Int):List Int×Cv:=if c.way=0 then Dw K c s else([],c)
def KZ (K:Kf) (c:Cv) (frm:Int):Rw:=if c.aL=true then []else S0 K frm (AI c)
def Z1i {MM MP MB L MU:Fn} {c:Cv} {frm mode:Int}
  (U:MU (Ac K c)=some [I (AI c)]) (V:L (Ac K c)=some [I (Bk K c)]) (hB:Out (λo=>wA o 0=S0 K frm (AI c)) (MB (pxt K.p K.x K.t [I frm,I (AI c)])))
  (M:∀s,MP (I s::Ac K c)=some (.vC Aa ((Dw K c s).1.map Ap)::Ac K (Dw K c s).2)) (X:∀s,∃n q:Int,(Dw K c s).2={c with aK:=n,outs:=q}) (G:∀u,MM (pxt K.p K.x K.t [I u])=some (ptR (BB K.p K.x K.t u))):
  Yq MM MP MB L MU (I frm::(Ac K c++[.vC kPt [], .vC Aa [],I mode,I 0,I 0,I 0,I 0,I 0,I 0]))=
   some (Ac K (Hw K c (Bk K c)).2++Ru (KZ K c frm) ((Hw K c (Bk K c)).1.map Ap) mode (Bk K c) (RO K c) c.s3 c.g1):=by
 refine de (Z5e MM MP MB L MU frm [] [] mode 0 0 0 0 0 0 K c) ?_;refine eB U (eB V ?_);have key:∀(l:Rw) (N D:List AC),gA N 0=AI c->gA D 0=Bk K c->Tr c MP D K MM N mode [] (.vC kPt l)=some (Ac K (Hw K c (Bk K c)).2++Ru l ((Hw K c (Bk K c)).1.map Ap) mode (Bk K c) (RO K c) c.s3 c.g1):=by
  intro l N D Y O;unfold Tr Hw;simp only[jA,Y,O];have M:=M (Bk K c);obtain⟨n,q,hq⟩:=X (Bk K c);have G:=G (AI c);rw[show RO K c=BB K.p K.x K.t (AI c)from rfl];refine eC (λe=> ?_) λe=> ?_
  ·rw[ac (show c.way=0 from eq_of_beq e)];refine eB M ?_;rw[hq];exact eB G rfl
  rw[ab (show¬c.way=0 by grind)];exact eB G rfl
 unfold KZ;refine eC (λe=> ?_) λe=> ?_
 ·have e:c.aL=false:=by simpa using e
  rw[ab (by simp_all)];obtain⟨o,hB,ho⟩:=hB;rw[<-ho];exact eB hB (key _ _ _ rfl rfl)
 have e:c.aL=true:=by simpa using e
 rw[ac e];exact key _ _ _ rfl rfl
def A9 (K:Kf) (c:Cv) (E:List Evn):Kf×Cv:=((BW K c E).1,Lk (I1 (BW K c E).1 (CG (HL (BW K c E).2))))
def stA (K:Kf) (c:Cv) (E:List Evn):Int×Kf×Cv:=
 if(B8 (A9 K c E).1 (A9 K c E).2).1=0 then((Gk (A9 K c E).1 (B8 (A9 K c E).1 (A9 K c E).2).2.2).1,(A9 K c E).1,(Gk (A9 K c E).1 (B8 (A9 K c E).1 (A9 K c E).2).2.2).2)else B8 (A9 K c E).1 (A9 K c E).2
def Ef (K:Kf) (c:Cv) (E:List Evn):Kf×Cv:=((stA K c E).2.1,(Hw (stA K c E).2.1 (stA K c E).2.2 (Bk (stA K c E).2.1 (stA K c E).2.2)).2)
def tkA (K:Kf) (c:Cv) (E:List Evn):List AC:=
 Ru (KZ (stA K c E).2.1 (stA K c E).2.2 (AI (BW K c E).2)) ((Hw (stA K c E).2.1 (stA K c E).2.2 (Bk (stA K c E).2.1 (stA K c E).2.2)).1.map Ap) (stA K c E).1 (Bk (stA K c E).2.1 (stA K c E).2.2) (RO (stA K c E).2.1 (stA K c E).2.2) (stA K c E).2.2.s3 (stA K c E).2.2.g1
def Zrr {d:Cv} {o:Nat×List AC} (G:∃e,o.2=FB++Ac K e) {m:Int} {K2:Kf} {d2:Cv}
  (O:N (FZ K a 0 d)=some (1,UA K2 a m d2)) {w s:Int×Cv} (X:m=0->M (Ac K2 d2)=some (I w.1::Ac K2 w.2)) (L:s=if m=0 then w else(m,d2))
  {D outs:Rw} {pos sp U:Int} {mt:Pt} {q:Cv}
  (V:Z (I a::(Ac K2 s.2++[.vC kPt [], .vC Aa [],I s.1,I 0,I 0,I 0,I 0,I 0,I 0]))=some (Ac K2 q++Ru D outs s.1 pos mt sp U)):
  Ks N o M Z (I a) (Ac K d)=some (Ru D outs s.1 pos mt sp U++Ac K2 q):=by
 obtain⟨o1,o2⟩:=o;obtain⟨e,G⟩:=G;dsimp only at G;subst G;refine eB O (eT rfl ?_);by_cases h:m=0
 ·rw[ac h]at L;subst L;exact eT (show(m==0)=true from beT h) (eB (X h) (eB V rfl))
 rw[ab h]at L;subst L;exact eF (beF h) (eB V rfl)
def Z8c {L M N Y MP MO MU MS O U V MV:Fn} {X D:Lp} {K K2:Kf} {c d:Cv} {T:List AC}
  (h3:X (.vC kPt (E.map evR)::I (E.map evR).length::I 0::(FB++Ac K (JZ c)))=some (1,FB++Ac K2 d))
  (hT:∀c,V (Ac K2 c)=some [B (OT K2 c)]) (hX:∀(c:Cv) (bH:Int),U [I c.s0,I c.s1,I c.s2,I c.s3,I bH]=some [I (spS c bH).s0,I (spS c bH).s1,I (spS c bH).s2,I (spS c bH).s3])
  (hN:∀c,O (Ac K2 c)=some [I (AI c)]) (hS:∀c:Cv,MS [I c.m0,I c.m1,I c.m2,I c.m3,I c.m4,I c.m5]=some [B (FA c)])
  (G:∀o:Nat×List AC,(∃e,o.2=FB++Ac K2 e)->Ks D o M L (I (AI d)) (Ac K2 (Lk (I1 K2 (CG (HL d)))))=some T):
  Qhr L M N Y MP MO MU MS O U V MV X D (.vC kPt (E.map evR)::Ac K c)=some T:=by
 refine de (Zyz L M N Y MP MO MU MS O U V MV X D (E.map evR) K c) ?_;refine eB h3 (eT rfl ?_)
 have rest:∀b:Cv,HL d=b->AI b=AI d->FA b=FA d->
   ((V (Ac K2 (CG b))).bind λo => bif !bA o 0 then (U [I b.s0, I b.s1, I b.s2, I b.s3, I K2.bH]).bind λo2 => (O (Ac K2 { CG b with s0 := gA o2 0, s1 := gA o2 1, s2 := gA o2 2, s3 := gA o2 3 })).bind λo3 => (MS [I d.m0, I d.m1, I d.m2, I d.m3, I d.m4, I d.m5]).bind λo4 => Ks D (1, FB ++ Ac K2 d) M L (jA o3 0) (Ac K2 { CG b with s0 := gA o2 0, s1 := gA o2 1, s2 := gA o2 2, s3 := gA o2 3, aM := bA o4 0 })
    else(O (Ac K2 (CG b))).bind λo3=>(MS [I d.m0,I d.m1,I d.m2,I d.m3,I d.m4,I d.m5]).bind λo4=>Ks D (1,FB++Ac K2 d) M L (jA o3 0) (Ac K2 {CG b with aM:=bA o4 0}))=some T:=λb hb hu hs=>by
  have G:=G (1,FB++Ac K2 d) ⟨d,rfl⟩;rw[hb]at G;refine eB (hT (CG b)) ?_;cases ht:OT K2 (CG b)
  ·have e1:I1 K2 (CG b)=spS (CG b) K2.bH:=by unfold I1;rw[ab (by simp_all)]
   rw[e1]at G;refine eT rfl (eB (hX b K2.bH) ?_);refine de (ij (λz=>Option.bind z _) (hN (spS (CG b) K2.bH))) (eB rfl (eB (hS d) ?_));have e2:AI (spS (CG b) K2.bH)=AI d:=hu;have e3:({spS (CG b) K2.bH with aM:=FA d}:Cv)=Lk (spS (CG b) K2.bH):=by
    unfold Lk;rw[show FA (spS (CG b) K2.bH)=FA b from rfl,hs]
   rw[<-e3,<-e2]at G;exact G
  have e1:I1 K2 (CG b)=CG b:=by unfold I1;rw[ac ht]
  rw[e1]at G;refine eF rfl ?_;refine de (ij (λz=>Option.bind z _) (hN (CG b))) (eB rfl (eB (hS d) ?_));have e2:AI (CG b)=AI d:=hu;have e3:({CG b with aM:=FA d}:Cv)=Lk (CG b):=by
   unfold Lk;rw[show FA (CG b)=FA b from rfl,hs]
  rw[<-e3,<-e2]at G;exact G
 refine eC (λt=> ?_) λt=>eC (λq=> ?_) λq=> ?_
 ·have t:d.aH=true:=t;exact rest {d with o2:=true} (by simp_all [HL]) rfl rfl
 ·have q:d.g0≠0:=λe=>by
   have:(d.g0 !=0)=true:=q;simp_all
  exact rest {d with o2:=true} (by simp_all [HL]) rfl rfl
 have t:d.aH=false:=t;have q:d.g0=0:=iz λe=>by
  have:(d.g0 !=0)=false:=q;simp_all
 exact rest d (by simp_all [HL]) rfl rfl
def Ga.sm {n:Int} {c d:Cv} (g:Ga K n c) (h:Sm c d):Ga K n d:=by
 refine⟨by simp[h.kp.way,g.way],by simp[h.kp.aK,g.pass],by rw[h.on,h.idx];exact g.task,?_,by simp[h.m0,g.m0]⟩
 grind [g.mo,Mo,h.m1,h.m2]
def Ga.turn (h:KOK K) {n:Int} {c d:Cv} (g:Ga K n c) (hn:0<=n) (D:d.way=0\/d.way=1\/d.way=2) (G:d.aK=c.aK) (I:d.on=c.on) (L:d.idx=c.idx) (O:d.m0=0) (M:d.m1=0) (N:d.m2=0) (t:Trk):Ga (sT K t) n d:=by
 refine⟨D,by rw[G];exact g.pass,by rw[I,L];exact g.task,?_,by omega⟩;unfold Mo;rw[M,N];exact Xp h.plan
def Z3m {n:Int} {c d:Cv} (g:Ga K n c) (h:Fg c d):Ga K n d:=by
 rcases h with rfl|⟨a,-,rfl⟩
 ·exact g
 exact⟨g.way,g.pass,g.task,g.mo,g.m0⟩
theorem Zx1 (h:KOK K) {n:Int} (hn:0<=n) {c:Cv} (g:Ga K n c) (m:Int):Ga (EC K c m).1 n (EC K c m).2:=by
 unfold EC;by_cases hb:FT K c m=true
 ·rw[ac hb];generalize Dm K c (Rm K c m)=t;generalize Bk K c=z;exact g.turn (d:={zM c with o2:=false,way:=1,home:=z}) h hn (.inr (.inl rfl)) rfl rfl rfl rfl rfl rfl t
 grind
theorem Z9y {n:Int} {c:Cv} (g:Ga K n c):Ga K n (LP K c):=by
 have key:∀b:Bool,Ga K n {c with aH:=b}:=λb=>⟨g.way,g.pass,g.task,g.mo,g.m0⟩;exact key _
def Zxm {s:Kf×Cv} (h:KOK s.1) {n:Int} (hn:0<=n) (g:Ga s.1 n s.2) (k m:Int) (G:m<=1073741824):Ga (evA s k m).1 n (evA s k m).2:=by
 have g1:=g.sm (Qbc s.2 k m);unfold evA;generalize evC s.2 k m=d at*;by_cases D:k=13
 ·rw[ac D];exact Z3m g1 (X1 h d G).2
 rw[ab D];by_cases I:k=12
 ·simp_all [Z9y]
 rw[ab I];by_cases L:k=7
 ·simp_all [Zx1]
 grind
def Q9i {n:Int} (hn:0<=n):∀(E:List Evn) {s:Kf×Cv},(∀e∈E,e.n<=1073741824)->KOK s.1->Ga s.1 n s.2->Ga (E.foldl (λs e=>evA s e.aP e.n) s).1 n (E.foldl (λs e=>evA s e.aP e.n) s).2
 |[],_,_,_,g=>g
 |e::E,_,D,h,g=>Q9i hn E (λx G=>D x (by grind)) (Yu h e.aP e.n) (Zxm h hn g e.aP e.n (D e (by simp)))
def Qp4 (h:KOK K) {n:Int} (hn:0<=n) {c:Cv} (g:Ga K n c) {E:List Evn} (D:EvE E):Ga (BW K c E).1 n (BW K c E).2:=
 Q9i hn E D.2 h ⟨g.way,g.pass,g.task,g.mo,g.m0⟩
def Qr4 (K:Kf) (d:Cv):Sm d (Lk (I1 K (CG (HL d)))):=
 (Q62 d).trans (Sm.trans (b:=CG (HL d)) ⟨⟨rfl,rfl,rfl,rfl⟩,rfl,rfl,rfl,rfl,rfl,rfl,rfl,rfl,rfl,rfl⟩ ((Zkd K _).trans ⟨⟨rfl,rfl,rfl,rfl⟩,rfl,rfl,rfl,rfl,rfl,rfl,rfl,rfl,rfl,rfl⟩))
def Qi2 (h:KOK K) {n:Int} (hn:0<=n) {c:Cv} (g:Ga K n c) {E:List Evn} (D:EvE E):Ga (A9 K c E).1 n (A9 K c E).2:=(Qp4 h hn g D).sm (Qr4 _ _)
end Go.Bm
namespace Go.Bm
def Z0e {n:Int} {c:Cv} (g:Ga K n c):Ga K n (Hf K c).2:=by
 have done:∀d:Cv,Ga K n d->Ga K n (Im d):=λd g=>⟨g.way,g.pass,λh=>(by cases h),g.mo,g.m0⟩;have cmd:∀D sp:Int,Ga K n (Jt c D sp):=λD sp=>⟨g.way,g.pass,g.task,g.mo,g.m0⟩;unfold Hf;split
 ·grind
 split
 ·grind
 split
 ·grind
 split
 ·grind
 split
 ·exact⟨g.way,g.pass,g.task,g.mo,g.m0⟩
 grind
theorem Zn1 {n:Int} {c:Cv} (g:Ga K n c):Ga K n (CN K c).2:=Z0e ⟨g.way,g.pass,g.task,g.mo,g.m0⟩
def Yb0 {n:Int} {c:Cv} (h:KOK K) (g:Ga K n c) (hn:0<=n/\n<=10000):Ga K n (Cr K c).2:=by
 unfold Cr;split
 ·have D:=(g.w0.stand h hn).1;exact⟨g.way,g.pass,g.task,D.mo,D.m0⟩
 split
 ·exact g
 split
 ·exact⟨g.way,g.pass,g.task,g.mo,g.m0⟩
 grind [Zn1]
theorem Ql3 {n:Int} {c:Cv} (h:KOK K) (g:Ga K n c) (hn:0<=n/\n<=10000) (l:Int):Ga K (n+1) (DI K c l):=by
 have D:=ZH h g.w0 hn l;exact⟨g.way,g.pass,g.task,D.mo,D.m0⟩
theorem Z9g {n:Int} {c:Cv} (h:KOK K) (g:Ga K n c) (hn:0<=n/\n<=10000):Ga (D7 K c).1 (n+1) (D7 K c).2:=by
 unfold D7;by_cases G:c.aM=true/\c.m0=O (K.t.length*256)
 ·rw[ac G];by_cases D:EH K c=true
  ·rw[ac D];generalize Dm K c (toC K c)=t;have I:(tdC c).way=0\/(tdC c).way=1\/(tdC c).way=2:=by
    show(if c.way=1 then(2:Int)else 0)=0\/_=1\/(if c.way=1 then(2:Int)else 0)=2;by_cases L:c.way=1
    ·omega
    omega
   exact(g.up hn.1).turn h (by omega) I rfl rfl rfl rfl rfl rfl t
  rw[ab D];exact g.up hn.1
 simp_all [ab,Ql3]
theorem Zvs (h:KOK K) (c:Cv):KOK (D7 K c).1:=by
 unfold D7;split
 ·split
  ·exact h.sT (Zfi h c _)
  omega
 omega
theorem Z8q (h:KOK K) (c:Cv):KOK (B8 K c).2.1:=by grind [B8,Zvs]
theorem Yea {n:Int} {c:Cv} (h:KOK K) (g:Ga K n c) (hn:0<=n/\n<=10000):Ga (B8 K c).2.1 (n+1) (B8 K c).2.2:=by
 unfold B8;split
 ·exact(Yb0 h g hn).up hn.1
 split
 ·grind [Z9g]
 exact g.up hn.1
theorem RC {c:Cv} (h:(B8 K c).1=0):c.way=0/\B8 K c=(0,K,c):=by
 unfold B8 at h⊢;by_cases D:(Cr K c).1≠0
 ·grind
 rw[ab D]at h⊢;by_cases G:c.way≠0
 ·rw[ac G]at h
  grind [Lm]
 grind
def Zsc {c:Cv} {n:Int} (h:KOK K) (g:Ga K n c):No (Ac K c)=some (if c.on=true then I (CN K c).1::B true::Ac K (CN K c).2 else I 0::B false::Ac K c):=by
 have key:∀{M:Fn},(c.on=true->M (Ac K c)=some (I (CN K c).1::Ac K (CN K c).2))->Qid M (Ac K c)=some (if c.on=true then I (CN K c).1::B true::Ac K (CN K c).2 else I 0::B false::Ac K c):=by
  intro M D;rw[Zzq];cases e:c.on
  ·rfl
  rw[ac rfl];have D:=D e;exact eB D rfl
 exact key λe=>Qwk h (g.task e).1 (g.task e).2
def Ux {n:Int} {c:Cv} (g:Ga K n c) (hn:0<=n/\n<=10010): -300000000000<=AI c/\AI c<=300000000000:=Zs7 (c:=w0 c) g.w0 hn
def Xu (h:KOK K) (c:Cv) (E:List Evn):KOK (stA K c E).2.1:=by grind [A9,QW,stA,Z8q]
def Qd6 {n:Int} {c:Cv} (h:KOK K) (g:Ga K n c) (hn:0<=n/\n<=10000) {E:List Evn} (G:EvE E):Ga (stA K c E).2.1 (n+1) (stA K c E).2.2:=by
 have I:KOK (A9 K c E).1:=QW h c E;have L:=Qi2 h hn.1 g G;unfold stA;by_cases D:(B8 (A9 K c E).1 (A9 K c E).2).1=0
 ·rw[ac D];obtain⟨M,e⟩:=RC D;rw[e];exact(Q5z I (L.gd M) hn).1.ga
 simp_all [Yea]
def Zp3 {n:Int} {c:Cv} (g:Ga K n c) (hn:0<=n) (s:Int):Ga K n (Hw K c s).2:=by
 unfold Hw;by_cases D:c.way=0
 ·rw[ac D];have hb:=Qac K s (K.p.aD.drop c.aK.toNat) c;rw[fo]at hb;have hb:c.aK<=(Dw K c s).2.aK/\(Dw K c s).2.aK<=c.aK+((K.p.aD.length-c.aK.toNat:Nat):Int):=hb;obtain⟨m,q,e⟩:=Qg7 K c s;rw[e]at hb⊢;have G:=g.pass;exact⟨g.way,by omega,g.task,g.mo,g.m0⟩
 grind
def Q0x {n:Int} {c:Cv} (h:KOK K) (g:Ga K n c) (hn:0<=n/\n<=10000) {E:List Evn} (D:EvE E):Ga (Ef K c E).1 (n+1) (Ef K c E).2:=Zp3 (Qd6 h g hn D) (by omega) _
def Q0e (h:KOK K) (c:Cv) (E:List Evn):KOK (Ef K c E).1:=Xu h c E
def Yfa (h:KOK K) {n:Int} {c:Cv} (g:Ga K n c):Jy (Ac K c)=some (if c.way≠0 then I (Lm c)::B true::Ac (D7 K c).1 (D7 K c).2 else I 0::B false::Ac K c):=by
 by_cases D:c.way≠0
 ·rw[ac D];exact Zo4 h g D
 simp_all [Z0m]
def Zpb {c:Cv} {n:Int} (h:KOK K) (g:Ga K n c) (hn:0<=n/\n<=10000) {E:List Evn} (D:EvE E):
  KG (.vC kPt (E.map evR)::Ac K c)=some (tkA K c E++Ac (Ef K c E).1 (Ef K c E).2):=by
 have M:KOK (A9 K c E).1:=QW h c E;have N:=Qi2 h hn.1 g D;have U:=Qp4 h hn.1 g D;have O:=Qd6 h g hn D;have G:=Xu h c E;have hf:=Ux U (by omega);have Y:=Ux O (by omega);refine Z8c (K2:=(BW K c E).1) (d:=(BW K c E).2) (Zzl D h (fun{K} I c x k {n} hn=>Z4x I c x k hn)) (Z5n (QW h c E)) Z6r (Rk _) Za3 λo V=> ?_;have X:=Z2k (ME:=LW) (MR:=KC) (MS:=IM) (MN:=C6) (MX:=KF) (MT:=Ki) (MV:=JR) (N3:=UU) (K:=(A9 K c E).1) (c:=(A9 K c E).2) (AI (BW K c E).2) (Z0u _ _) (Zr4 _ _) (Zyc _ _) (Zsc M N) (Yfa M N);have he:=Z1i (MM:=E_) (MP:=OL) (MB:=Jz) (MU:=C6) (K:=(stA K c E).2.1) (c:=(stA K c E).2.2) (frm:=AI (BW K c E).2) (mode:=(stA K c E).1) (Rk _ _) (QI G _) (Z7v G _ _ (by omega)) (λs=>Zvz G O.pass s) (Qg7 _ _) (RF G.f);have I:(B8 (A9 K c E).1 (A9 K c E).2).2.1=(stA K c E).2.1:=by
  unfold stA;by_cases L:(B8 (A9 K c E).1 (A9 K c E).2).1=0
  ·simp_all [RC]
  grind
 refine Zrr (w:=Gk (A9 K c E).1 (B8 (A9 K c E).1 (A9 K c E).2).2.2) (s:=((stA K c E).1,(stA K c E).2.2)) (K2:=(stA K c E).2.1) (d2:=(B8 (A9 K c E).1 (A9 K c E).2).2.2) (m:=(B8 (A9 K c E).1 (A9 K c E).2).1) V ?_ ?_ ?_ he
 ·rw[<-I];exact X
 ·intro L;rw[<-I,(RC L).2];exact Yb1 M (N.gd (RC L).1) hn
 unfold stA;by_cases L:(B8 (A9 K c E).1 (A9 K c E).2).1=0
 ·grind
 grind
end Go.Bm
namespace Go.Bm
open Classical
theorem Qo5:∀{d:Pt} {l:List Pce},l≠[]->Gj d l=(Bu l).aT
 |_,[],h=>absurd rfl h
 |d,[c],_=>rfl
 |d,c::e::l,_=>by
  have D:=Qo5 (d:=c.aT) (l:=e::l) (by simp);simp_all [Gj,Bu]
theorem Z7t (t:Trk):Qt t=Gj t.aT t.aE:=by
 unfold Qt;by_cases c:t.aE=[]
 ·rw[ac c,c];rfl
 simp_all [Qo5]
theorem Qma {x:Ax3} {a:Axs} {f:Pt->Int} {g:Int->Int} {mv:Int} {Q:Int->Pt->Prop} (G:F7 x a f) (I:mv=1\/mv= -1):∀{at_ s:Int} {d:Pt} {l:List Pce},DE x mv Q at_ s d l->okD d->(∀k∈l,okD k.aT)->l≠[]->DT a g f l (B2 at_ l)=A1 a (g (Et s l))+BT a (f (Gj d l))
 |at_,s,d,[c],h,hd,D,_=>by
  have M:=(UD (g:=g) G h I hd (D c (by simp))).2;have N:=h.1;show DT a g f [c] (at_+c.aR)=_;unfold DT;rw[ac,M];rfl
 |at_,s,d,c::e::l,h,hd,D,_=>by
  have L:=h.2.2.2.2;have N:=h.1;have V:=Qma (g:=g) G I L (D c (by simp)) (λk O=>D k (by grind)) (by simp);have X:at_+c.aR<B2 (at_+c.aR) (e::l):=by
   obtain⟨-,-,Y,-,U⟩:=L;have:=YJ U;simp only[B2];omega
  show DT a g f (c::e::l) (B2 (at_+c.aR) (e::l))=A1 a (g (Et (s+c.bD*c.aR) (e::l)))+BT a (f (Gj c.aT (e::l)));show(if _ then _ else _)=_
  grind
def ZD {x:Ax3} {a:Axs} {f:Pt->Int} (g:Int->Int) {mv e:Int} {Q:Int->Pt->Prop} {t:Trk} {d:Pt} (U:F7 x a f) (V:mv=1\/mv= -1) (h:TC x mv Q t e d) (I:TQ t) (hd:okD t.aT) (L:∀k∈t.aE,okD k.aT):
  A1 a (g (AD t 0))+shT a t 0 f=A1 a (g t.aQ)+BT a (f t.aT)/\A1 a (g (AD t t.length))+shT a t t.length f=A1 a (g e)+BT a (f (Qt t)):=by
 obtain⟨G,Y,h3,-⟩:=h;have hl:=I.len;rw[Z7t];by_cases c:t.aE=[]
 ·simp_all [AD,shT,Et,Gj]
 have D:∀v,0<=v->v<=t.length->clT t v=v:=by intro v g1 g2;unfold clT Be;omega
 have M:∀v:Int,0<=v->v<=t.length->A1 a (g (AD t v))+shT a t v f=DT a g f t.aE v:=by
  intro v g1 g2;have N:=Io I v c;have O:iT t v=fI t.aE v:=by unfold iT;rw[D v g1 g2]
  unfold AD shT;rw[ab c,ab c,O,D v g1 g2];rw[O]at N;exact(Vh N).symm
 rw[M 0 (by omega) (by omega),M t.length (by omega) (by omega)];constructor
 ·cases X:t.aE with
  |nil=>grind
  |cons k l=>
   rw[X]at G L;have hj:=(UD (g:=g) U G V hd (L k (by simp))).1;have g1:=G.1;have g3:=G.2.2.1;unfold DT;omega
 grind [Qma]
def Qy5 {x:Ax3} (D:Ax3M x) (G:a=1\/a= -1) (h:TC x a Q t e d) (I:TQ t) (hd:okD t.aT) (L:∀k∈t.aE,okD k.aT):
  BB p x t 0=⟨(Bv p x t.aQ).x+BT x.a t.aT.x,(Bv p x t.aQ).y+BT x.b t.aT.y,(Bv p x t.aQ).z+BT x.c t.aT.z⟩/\
  BB p x t t.length=⟨(Bv p x e).x+BT x.a (Qt t).x,(Bv p x e).y+BT x.b (Qt t).y,(Bv p x e).z+BT x.c (Qt t).z⟩:=by
 have M:=ZD (λs=>(atP p s).x) (S7 D.ok) G h I hd L;have N:=ZD (λs=>(atP p s).y) (Xj D.ok) G h I hd L;have O:=ZD (λs=>(atP p s).z) (UF D.ok) G h I hd L
 grind [BB,Bv]
def GD (K:Kf):Prop:=∃(d:Pt) (a b:Int),okD d/\K.t=Bg K.p K.x d a b
def Qp1 {x:Ax3} {a:Axs} {f:Pt->Int} (Y:F7 x a f) {mv:Int} {Q:Int->Pt->Prop} (hv:mv=1\/mv= -1):∀{at_ s:Int} {d:Pt} {l:List Pce},DE x mv Q at_ s d l->okD d->(∀k∈l,okD k.aT)->∀(u:Int) (I:Pt),at_<=u->u<=B2 at_ l->l≠[]->
  ¬((pcA l (fI l u)).bD=0/\(pcA l (fI l u)).at_<u/\u<eI l (fI l u))->
  Ct a (pcA l (fI l u)).bD (pcA l (fI l u)).at_ (f (pcA l (fI l u)).was) (f (pcA l (fI l u)).aT) u=BT a (f (JN l u I))/\okD (JN l u I)
 |_,_,_,[],_,_,_,_,_,_,_,h,_=>absurd rfl h
 |at_,s,d,c::l,h,hd,hk,u,I,h0,h1,_,hn=>by
  obtain⟨g1,g2,g3,g4,g5⟩:=h;have L:=hk c (by simp);by_cases hu:u<=c.at_+c.aR
  ·have e:fI (c::l) u=0:=by unfold fI;rw[ac hu]
   rw[e]at hn⊢;have N:pcA (c::l) 0=c:=IH c l;have O:eI (c::l) 0=c.at_+c.aR:=by unfold eI;rw[N]
   rw[N,O]at hn;rw[N];have U:JN (c::l) u I=if c.bD≠0\/u=c.at_+c.aR then c.aT else c.was:=by
    show(if u>c.at_+c.aR then _ else _)=_;rw[ab]
   rw[U];obtain⟨hb,hf,hs⟩:=Y;rcases g4 with⟨m1,m2,-⟩|⟨m1,m2,m3⟩
   ·simp_all [Ct]
   have f1:=hf _ L;have f2:=hf _ hd;have V:=hs d c.aT;by_cases M:u=c.at_+c.aR
   ·rw[ac (.inr M)];refine⟨?_,L⟩;unfold Ct;by_cases D:f c.was=f c.aT
    ·omega
    rw[ab (λq=>by omega)];rw[m2]at D;have:=V D;have G:min (u-c.at_) a.bB=a.bB:=by omega
    simp_all [BT]
   rw[ab (λq=>by omega)];refine⟨?_,by grind⟩;unfold Ct;by_cases D:f c.was=f c.aT
   ·grind
   rw[ab (λq=>by omega)];rw[m2]at D⊢;have G:min (u-c.at_) a.bB=0:=by omega
   rw[G];unfold BT;omega
  have e:fI (c::l) u=fI l u+1:=by
   show(if u<=c.at_+c.aR then 0 else fI l u+1)=_;rw[ab hu]
  have U:JN (c::l) u I=JN l u I:=by
   show(if u>c.at_+c.aR then _ else _)=_;rw[ac]
  have X:l≠[]:=by
   intro q;subst q;simp only[B2]at h1;omega
  rw[e]at hn⊢;have O:eI (c::l) (fI l u+1)=eI l (fI l u):=by unfold eI;rw[Gw]
  rw[Gw,O]at hn;rw[Gw,U];exact Qp1 Y hv g5 L (λk q=>hk k (by simp[q])) u I (by omega) (by grind [B2]) X hn
def Q9q {x:Ax3} {mv:Int} {Q:Int->Pt->Prop} (G:mv=1\/mv= -1):∀{a s:Int} {d:Pt} {l:List Pce},DE x mv Q a s d l->l≠[]->∀u:Int,a<=u->u<=B2 a l->0<=mv*(plL l u-s)/\0<=mv*(Et s l-plL l u)
 |_,_,_,[],_,h,_,_,_=>absurd rfl h
 |a,s,d,c::l,h,_,u,N,M=>by
  obtain⟨g1,g2,O,U,I⟩:=h;have he:=Zah G I;unfold plL;by_cases L:u<=c.at_+c.aR
  ·rw[ac L,g1,g2];unfold Et
   grind
  rw[ab L];have D:l≠[]:=by
   intro q;subst q;simp only[B2]at M;omega
  have V:=Q9q G I D u (by omega) (by grind [B2]);unfold Et
  grind
def Qht {x:Ax3} (L:Ax3OK x) (D:GoodPath p) (u:Int):0<=AD (Bg p x d a b) u/\AD (Bg p x d a b) u<=AJ p.aF:=by
 have hn:=WL D;obtain⟨U,G,V,-⟩:=Lw (d:=d) (a:=a) (b:=b) (Q:=λ_ _=>True) L D (λ_ _ _ _ _ _ _ _=>trivial);have M:=Rh d a b L D;have N:=QH p a b;have X:0<=Be a (AJ p.aF)/\Be a (AJ p.aF)<=AJ p.aF:=by unfold Be;omega
 have Y:0<=Be b (AJ p.aF)/\Be b (AJ p.aF)<=AJ p.aF:=by unfold Be;omega
 by_cases I:(Bg p x d a b).aE=[]
 ·simp_all [AD]
 have O:=NF M u;have hb:=Q9q N G.ch I (clT (Bg p x d a b) u) O.1 (by grind [G.len])
 grind [G.s,Qhf]
def Znx {x:Ax3} (G:Ax3M x) (M:GoodPath p) (hd:okD d) {u:Int} (U: ¬HW (Bg p x d a b) u):
  BB p x (Bg p x d a b) u=⟨(Bv p x (AD (Bg p x d a b) u)).x+BT x.a (Gg (Bg p x d a b) u).x,(Bv p x (AD (Bg p x d a b) u)).y+BT x.b (Gg (Bg p x d a b) u).y,(Bv p x (AD (Bg p x d a b) u)).z+BT x.c (Gg (Bg p x d a b) u).z⟩/\okD (Gg (Bg p x d a b) u):=by
 obtain⟨d',N,h2,O⟩:=Lw (Q:=λ_ _=>True) G.ok M (λ_ _ _ _ _ _ _ _=>trivial);have V:=Rh d a b G.ok M;have X:=QH p a b;have Y:=Xe (p:=p) (x:=x) (a:=a) (b:=b) hd;by_cases D:(Bg p x d a b).aE=[]
 ·have hf:Gg (Bg p x d a b) u=d:=by unfold Gg;rw[D,O];rfl
  simp_all [BB,shT]
 have hc:=NF V u;have I:okD (Bg p x d a b).aT:=by rw[O];exact hd
 have L:=λq=>U ⟨D,q⟩;have key:=fun(ax:Axs) (f:Pt->Int) (hA:F7 x ax f)=>Qp1 hA X N.ch I Y (clT (Bg p x d a b) u) (Bg p x d a b).aT hc.1 (by grind [N.len]) D L;refine⟨?_,(key x.a Pt.x (S7 G.ok)).2⟩;unfold BB shT iT;rw[ab D,ab D,ab D];have k1:=(key x.a Pt.x (S7 G.ok)).1;have k2:=(key x.b Pt.y (Xj G.ok)).1;have k3:=(key x.c Pt.z (UF G.ok)).1;rw[k1,k2,k3];rfl
def Zn3 (h:KOK K) (L:GD K) {c:Cv} (hb:EH K c=true) (to:Int):BB K.p K.x (Dm K c to) 0=RO K c/\GD (sT K (Dm K c to)):=by
 obtain⟨d,a,b,hd,I⟩:=L;have G: ¬HW K.t (AI c):=by
  unfold EH at hb;rw[ak,Bool.not_eq_true']at hb;exact of_decide_eq_false hb.2
 have D:=G;rw[I]at D;obtain⟨m1,m2⟩:=Znx h.f.x h.f.p hd D;have pl:=Qht (d:=d) (a:=a) (b:=b) h.f.x.ok h.f.p (AI c);rw[<-I]at m1 m2 pl;unfold Dm;refine⟨?_,⟨_,_,_,m2,rfl⟩⟩;obtain⟨N,M,O,U⟩:=Lw (Q:=λ_ _=>True) h.f.x.ok h.f.p (λ_ _ _ _ _ _ _ _=>trivial);have hT:=Rh (Gg K.t (AI c)) (Bk K c) to h.f.x.ok h.f.p;have e:=(Qy5 (p:=K.p) h.f.x (QH K.p (Bk K c) to) M hT (by grind) (Xe m2)).1;have V:Be (Bk K c) (AJ K.p.aF)=AD K.t (AI c):=by
  show Be (AD K.t (AI c)) (AJ K.p.aF)=_;unfold Be;omega
 grind
end Go.Bm
namespace Go.Bm
def LX (w v:Pt) (u:Int):Rw:=
 (bif v.x !=w.x then [[I u,I 0,I (O (v.x-w.x))]]else [])++((bif v.y !=w.y then [[I u,I 1,I (O (v.y-w.y))]]else [])++(bif v.z !=w.z then [[I u,I 2,I (O (v.z-w.z))]]else []))
def Ey (M:Int->Pt) (f:Int):Nat->Rw
 |0=>[]
 |n+1=>Ey M f n++LX (M (f+n)) (M (f+n+1)) (f+n+1)
theorem Z6j (w v:Pt) (u:Int):(LX w v u).length<=3:=by
 unfold LX
 grind
def Qa2 (M:Int->Pt) (f:Int):∀n:Nat,(Ey M f n).length<=3*n
 |0=>by simp[Ey]
 |n+1=>by
  have D:=Qa2 M f n
  grind [Z6j,Ey]
def clp (t:Trk) (u:Int):Int:=mx 0 (mn u t.length)
def Ph (D:0<=t.length) (u:Int):0<=clp t u/\clp t u<=t.length:=by grind [clp,mx,mn]
def Wk (D:0<=t.length) {u v:Int} (h:u<=v):clp t u<=clp t v/\clp t v-clp t u<=v-u:=by grind [clp,mx,mn]
def JB (M:Int->Pt) (t:Trk) (a b:Int):Rw:=Ey M (clp t a) (clp t b-clp t a).toNat
def Zvc {M:Int->Pt} (D:0<=t.length) {a b:Int} (h:a<=b):((JB M t a b).length:Int)<=3*(b-a):=by
 have m:=Wk D h;have l:=Qa2 M (clp t a) (clp t b-clp t a).toNat;unfold JB;omega
def Z9h {P:Int->Pt} {x:Ax3} (U:∀u,M (pxt p x t [I u])=some (ptR (P u))) (N:0<=t.length/\t.length<=900000000000000) (a b:Int) (hd:b-a<=1000000000000):
  Uj M (Ak (S6 M)) (pxt p x t [I a,I b])=some [.vC kPt (JB P t a b)]:=by
 rw[Q02];have hf:=Ph N.1 a;have he:=Ph N.1 b;have hd:clp t b-clp t a<=1000000000000:=by
  by_cases h:a<=b
  ·have:=Wk N.1 h;omega
  have:=Wk (u:=b) (v:=a) N.1 (by omega);omega
 unfold JB;unfold clp at*;generalize mx 0 (mn a t.length)=f at*;generalize mx 0 (mn b t.length)=e at*;refine eB (U f) ?_;have key:Out (λo=>o=(1,[.vC kPt (Ey P f (e-f).toNat)])) (Ak (S6 M) (.vC kPt (Ey P f 0)::I e::I (f+((0:Nat):Int))::pxt p x t [I (P (f+((0:Nat):Int))).x,I (P (f+((0:Nat):Int))).y,I (P (f+((0:Nat):Int))).z])):=by
  refine Ch (λn:Nat=> .vC kPt (Ey P f n)::I e::I (f+n)::pxt p x t [I (P (f+n)).x,I (P (f+n)).y,I (P (f+n)).z]) (λn=>n<=(e-f).toNat) (λn=>(e-f).toNat-n) _ ?_ 0 (by omega);intro n hn;rw[Zlx];try dsimp only[NO]
  refine .cond (λc=> ?_) (λc=> ?_)
  ·have c:=Ba c;rw[Ad (x:=f+(n:Int)+1)];refine .bind (p:=λo=>o=_) ⟨_,U (f+(n:Int)+1),rfl⟩ λo e=> ?_;subst e;have e1:O (0+1)=1:=Ad;have e2:O (1+1)=2:=Ad;rw[e1,e2];have hl:=Qa2 P f n;have X:Ey P f (n+1)=Ey P f n++LX (P (f+n)) (P (f+n+1)) (f+n+1):=rfl;have Y:f+((n+1:Nat):Int)=f+n+1:=by omega
   unfold LX at X;show Out _ (bif(P (f+(n:Int)+1)).x !=(P (f+n)).x then _ else _);generalize Ey P f n=v at*;have fin:∀{y:List AC},y= .vC kPt (Ey P f (n+1))::I e::I (f+n+1)::pxt p x t [I (P (f+n+1)).x,I (P (f+n+1)).y,I (P (f+n+1)).z]->Out (λo:Nat×List AC=>(o.1=0/\∃L:Nat,o.2= .vC kPt (Ey P f L)::I e::I (f+L)::pxt p x t [I (P (f+L)).x,I (P (f+L)).y,I (P (f+L)).z]/\L<=(e-f).toNat/\(e-f).toNat-L<(e-f).toNat-n)\/(o.1≠0/\o=(1,[.vC kPt (Ey P f (e-f).toNat)]))) (some (0,y)):=λhy=>by
    subst hy;exact .some (.inl ⟨rfl,n+1,by rw[Y],by omega,by omega⟩)
   have G:∀{y:Rw},y.length<=v.length+3->(y.length*24).ble 140737488355328=true:=λh=>Dd (by omega);generalize Ey P f (n+1)=z at*;generalize P (f+(n:Int)+1)=q at*;generalize P (f+(n:Int))=w at*;refine .cond (λcx=> ?_) λcx=> ?_
   ·refine .cond (λ_=> ?_) λc=>by rw[G (by simp)]at c;cases c
    refine .cond (λcy=> ?_) λcy=> ?_
    ·have cy:(q.y !=w.y)=true:=cy;refine .cond (λ_=> ?_) λc=>by rw[G (by simp)]at c;cases c
     refine .cond (λD=> ?_) λD=> ?_
     ·have D:(q.z !=w.z)=true:=D;refine .cond (λ_=>fin ?_) λc=>by rw[G (by simp)]at c;cases c
      simp_all [gA,nth,Af]
     have D:(q.z !=w.z)=false:=D;refine fin ?_;simp_all [gA,nth,Af]
    have cy:(q.y !=w.y)=false:=cy;refine .cond (λD=> ?_) λD=> ?_
    ·have D:(q.z !=w.z)=true:=D;refine .cond (λ_=>fin ?_) λc=>by rw[G (by simp)]at c;cases c
     simp_all [gA,nth,Af]
    have D:(q.z !=w.z)=false:=D;refine fin ?_;simp_all [gA,nth,Af]
   refine .cond (λcy=> ?_) λcy=> ?_
   ·have cy:(q.y !=w.y)=true:=cy;refine .cond (λ_=> ?_) λc=>by rw[G (by simp)]at c;cases c
    refine .cond (λD=> ?_) λD=> ?_
    ·have D:(q.z !=w.z)=true:=D;refine .cond (λ_=>fin ?_) λc=>by rw[G (by simp)]at c;cases c
     simp_all [gA,nth,Af]
    have D:(q.z !=w.z)=false:=D;refine fin ?_;simp_all [gA,nth,Af]
   have cy:(q.y !=w.y)=false:=cy;refine .cond (λD=> ?_) λD=> ?_
   ·have D:(q.z !=w.z)=true:=D;refine .cond (λ_=>fin ?_) λc=>by rw[G (by simp)]at c;cases c
    simp_all [gA,nth,Af]
   have D:(q.z !=w.z)=false:=D;refine fin ?_;simp_all [nth,Af]
  have c:=B0 c;have e1:n=(e-f).toNat:=by omega
  rw[<-e1];exact .some (.inr ⟨by simp,rfl⟩)
 obtain⟨o,V,rfl⟩:=key;rw[show f+((0:Nat):Int)=f by omega]at V;exact eB V rfl
theorem Ycx {x:Ax3} (h:Fix p x t) (a b:Int) (hd:b-a<=1000000000000):Jz (pxt p x t [I a,I b])=some [.vC kPt (JB (BB p x t) t a b)]:=
 Z9h (RF h) h.t.q.len a b hd
theorem Z9o (h:KOK K) {a b:Int} (hd:b-a<=1000000000000):S0 K a b=JB (BB K.p K.x K.t) K.t a b:=by
 unfold S0;rw[Ycx h.f a b hd];rfl
abbrev Xk:Axs:=⟨8,10,10,10,-16777216,16777216,0,0,0,[]⟩
def Qfh:AxOK Xk:=⟨by decide,by decide,by decide,λh=>absurd rfl h,⟨λx h=>(by cases h),λi h=>(by simp)⟩,by decide,by decide⟩
abbrev ZB:Ax3:=⟨Xk,Xk,Xk⟩
def machX:MachOK ZB 9 3 100 1 0:=⟨⟨Qfh,Qfh,Qfh⟩,⟨by decide,by decide,by decide⟩,by decide,by decide⟩
def Z2s:Items 4084 ⟨0,0,0⟩ []:=⟨trivial,λit h=>by cases h⟩
abbrev kX (l:List Itm):Kf:=kfP ZB 9 3 100 1 0 l true
theorem gd0 (l:List Itm):Gd (kX l) 0 Ev:=⟨rfl,⟨by decide,by simp⟩,λh=>(by cases h),Xp machX.plan,by decide⟩
theorem Zqc:(stC (kX []) Ev []).1=7:=by rfl
theorem Ybo:Vk []:=⟨by simp,λe h=>by cases h⟩
abbrev atE (E:List Evn) (k:Int):List Evn:=E.filter λe=>e.cycle==k
def Zva {e:Evn} (h:e∈atE E k):e∈E:=(List.mem_filter.1 h).1
def Z5k (E:List Evn) (k:Int):(atE E k).length<=E.length:=List.length_filter_le _ _
def gdK (h:KOK K):Gd K 0 Ev:=⟨rfl,⟨by decide,by simp⟩,λh=>(by cases h),Xp h.plan,by decide⟩
structure Mt (c d : Cv) : Prop where
 m0:d.m0=c.m0
 m1:d.m1=c.m1
 m2:d.m2=c.m2
 aH:d.aH=c.aH
 g0:d.g0=c.g0
 g1:d.g1=c.g1
 g2:d.g2=c.g2
 o2:d.o2=c.o2
theorem Mt.rfl {c:Cv}:Mt c c:=⟨Eq.refl _,Eq.refl _,Eq.refl _,Eq.refl _,Eq.refl _,Eq.refl _,Eq.refl _,Eq.refl _⟩
theorem Mt.trans {a b c:Cv} (h:Mt a b) (g:Mt b c):Mt a c:=
 ⟨g.m0.trans h.m0,g.m1.trans h.m1,g.m2.trans h.m2,g.aH.trans h.aH,g.g0.trans h.g0,g.g1.trans h.g1,g.g2.trans h.g2,g.o2.trans h.o2⟩
def Zuy (K:Kf) (c:Cv):Mt c (Hf K c).2:=by
 have done:∀d:Cv,Mt c d->Mt c (Im d):=λd k=>k.trans ⟨rfl,rfl,rfl,rfl,rfl,rfl,rfl,rfl⟩;have cmd:∀D sp:Int,Mt c (Jt c D sp):=λD sp=>⟨rfl,rfl,rfl,rfl,rfl,rfl,rfl,rfl⟩;unfold Hf;split
 ·grind [Mt.rfl]
 split
 ·grind [Mt.rfl]
 split
 ·grind [Mt.rfl]
 split
 ·grind
 split
 ·exact⟨rfl,rfl,rfl,rfl,rfl,rfl,rfl,rfl⟩
 grind [Mt.rfl]
def Zbm (K:Kf) (c:Cv):Mt c (CN K c).2:=Mt.trans (b:=Dz c) ⟨rfl,rfl,rfl,rfl,rfl,rfl,rfl,rfl⟩ (Zuy K _)
def Ybm (K:Kf) (c:Cv) (i:Int):Mt c (Fx K c i).2:=Mt.trans (b:={c with on:=true,idx:=i,aN:=Ft K c i,cnt:=0}) ⟨rfl,rfl,rfl,rfl,rfl,rfl,rfl,rfl⟩ (Zbm K _)
structure Os (c d : Cv) : Prop where
 on:d.on=c.on
 aI:d.aI=c.aI
 aH:d.aH=c.aH
 gu:(d.g0=c.g0/\d.g1=c.g1/\d.g2=c.g2)\/(c.g0=0/\d.g0=1/\d.g1=18)
def Zbj (h:KOK K) {n:Int} {c:Cv} (g:Gd K n c) (hn:0<=n/\n<=10000) {v:Int} (D:(BH K.pa K.pb v (O (v-c.m1))).2=true\/∃r:Int,v=O (c.m1+r)/\r=A3 K.pa K.pb c.m1 c.m2):c.m0<=O (c.m0+v):=by
 have G:=g.m0;have I:=LG h.plan (LV.1 (Qqe h g.mo D)).1
 grind [Ad]
def Qcw (h:KOK K) {n:Int} {c:Cv} (g:Gd K n c) (hn:0<=n/\n<=10000) (l:Int):c.m0<=(DI K c l).m0:=Zbj h g hn (WQ h g l).2
theorem Qdi (c:Cv):(Fk c).m0=c.m0:=by grind [Fk]
def Q86 (h:KOK K) {n:Int} {c:Cv} (g:Gd K n c) (hn:0<=n/\n<=10000) (l:Int) {s:Sgm} (G:i64 s.aX):c.m0<=(Iv K c l s).m0:=by
 have D:=Qcw h g hn l;unfold Iv;split
 ·exact D
 unfold Ow;split
 ·exact D
 obtain⟨-,v,M,b,z,y,e,I,L⟩:=Qje h g l G;have e1:gA (thO K c l s.aX) 1=v:=by rw[I];rfl
 have up:=Zbj h g hn L;have e2:(Mr c (thO K c l s.aX)).m0=O (c.m0+v):=by
  show O (c.m0+gA (thO K c l s.aX) 1)=_;rw[e1]
 grind [Qdi]
def Zuh (h:KOK K) {n:Int} {c:Cv} (g:Gd K n c) (hn:0<=n/\n<=10000) (l:Int):c.m0<=(Ic K c l).m0:=by
 unfold Ic;split
 ·exact Qcw h g hn l
 rename_i G;have D:=λe=>G (.inl e);split
 ·exact Q86 h g hn l (G5 h D).2.2
 split
 ·exact Q86 h (g.go (vF K c)) hn l (G5 h D).2.2
 split
 ·simp[Qdi]
 simp
def Z3s (h:KOK K) {n:Int} {c:Cv} (g:Gd K n c) (hn:0<=n/\n<=10000):c.m0<=(Gk K c).2.m0:=by
 unfold Gk;split
 ·have b:=Ybm K c (BS K c).2;split
  ·split
   ·simp[Qdi,b.m0]
   simp[b.m0]
  grind
 exact Zuh h g hn _
theorem Z48 {x:Ax3} (h:TQ t) (u:Int):BB p x t (clp t u)=BB p x t u:=by
 have e:clp t u=clT t u:=by
  unfold clp mx mn clT Be
  (omega)<;>omega
 grind [BB,shT,Qf1,Zjo,iT]
structure Dr (K : Kf) (n : Int) (c : Cv) : Prop where
 k:KOK K
 g:Ga K n c
 l:GD K
 m0:0<=c.m0
def Zrn {c d:Cv} (h:Fg c d):d.m0=c.m0/\d.aL=c.aL:=by
 rcases h with rfl|⟨a,-,rfl⟩
 ·simp
 simp
def Zvv {c:Cv} {n:Int} (h:FT K c n=true):EH K c=true:=by simp_all [FT]
def Qr5 {n m:Int} {c d:Cv} (D:Ga K n c) {L:Kf} (gd:Ga L m d) (hn:0<=n/\n<=10000) (G:0<=m/\m<=10000) (I:0<=c.m0) (h:c.m0<=d.m0):AI c<=AI d:=by grind [gd.m0,Ad]
def Ztt (K:Kf) (c:Cv):(CN K c).2.aL=c.aL:=by
 unfold CN Hf
 (repeat' split)<;>rfl
def Iy (a:Axs) (w m:Int):Int:=mn (mx w m) (O (m+a.bB))
def plN (x:Ax3) (s:Pt×Pt) (r:List AC):Pt×Pt:=
 if gA r 1=2 then({s.1 with z:=O (s.1.z+gA r 2)},{s.2 with z:=Iy x.c s.2.z (O (s.1.z+gA r 2))})
 else if gA r 1=1 then({s.1 with y:=O (s.1.y+gA r 2)},{s.2 with y:=Iy x.b s.2.y (O (s.1.y+gA r 2))})
 else({s.1 with x:=O (s.1.x+gA r 2)},{s.2 with x:=Iy x.a s.2.x (O (s.1.x+gA r 2))})
abbrev plF (x:Ax3) (s:Pt×Pt) (l:Rw):Pt×Pt:=l.foldl (plN x) s
def LF (r:List AC):Prop:=(gA r 1=0\/gA r 1=1\/gA r 1=2)/\(gA r 2=1\/gA r 2= -1)
abbrev plR (x:Ax3) (s:Pt×Pt):List AC:=AF x++(ptR s.1++ptR s.2++[I 0,I 0,I 0,I 0,I 0,I 0])
def Z3p {x:Ax3} {s:Pt×Pt} (V:l.length<=1000000000000000) (O:∀r∈l,LF r):Pe (AF x++(ptR s.1++ptR s.2++[.vC kPt l]))=some (ptR (plF x s l).1++ptR (plF x s l).2):=by
 have hT:∀(a:Axs) (w m:Int),Ou (BK a++[I w,I m])=some [I (Iy a w m)]:=λa w m=>Z0p a.step a.aS a.bF a.bG a.low a.aY a.bB a.aV a.aO (a.aW.map Ap) w m;have key:Out (λo=>o=(1,ptR (plF x s l).1++ptR (plF x s l).2++[I 0,I 0,I 0,I 0,I 0,I 0])) (Ak (Qi5 Ou) (.vC kPt l::I (l.length:Int)::I ((0:Nat):Int)::plR x (plF x s (l.take 0)))):=by
  generalize Ou=M at*;refine Ch (λi:Nat=> .vC kPt l::I (l.length:Int)::I (i:Int)::plR x (plF x s (l.take i))) (λi=>i<=l.length) (λi=>l.length-i) _ ?_ 0 (i8 _);intro i X;refine Out.eqv (Z1v ..) ?_;refine .cond (λG=> ?_) λG=> ?_
  ·have D:i<l.length:=by have:=Ba G;omega
   refine .cond (λ_=> ?_) λe=>(inB (by omega) (Ba G) e).elim;unfold Xs;rw[ag,Fu [] l i D,Ad (x:=(i:Int)+1)];obtain⟨N,Y⟩:=O l[i] (dl D);have U:plF x s (l.take (i+1))=plN x (plF x s (l.take i)) l[i]:=by
    unfold plF;rw[gz,an D,List.foldl_append];rfl
   generalize plF x s (l.take i)=q at*;have key:∀{r:Option (Nat×List AC)},r=some (0, .vC kPt l::I (l.length:Int)::I ((i+1:Nat):Int)::plR x (plN x q l[i]))->Out (λo=>(o.1=0/\∃L:Nat,o.2= .vC kPt l::I (l.length:Int)::I (L:Int)::plR x (plF x s (l.take L))/\L<=l.length/\l.length-L<l.length-i)\/(o.1≠0/\o=(1,ptR (plF x s l).1++ptR (plF x s l).2++[I 0,I 0,I 0,I 0,I 0,I 0]))) r:=by
    rintro r rfl;exact .some (.inl ⟨rfl,i+1,by rw[U],by omega,by omega⟩)
   refine .cond (λe=>absurd (Ba e) (by omega)) λ_=> .cond (λe=>absurd (Ba e) (by omega)) λ_=> .cond (λe=> .cond (λe'=> ?_) λ_=> ?_) λ_=> ?_
   ·grind
   all_goals rcases N with h|h|h
   all_goals first
    |exact key (eT (av h) (eB (hT x.c _ _) (by unfold plN;rw[ac h];rfl)))
    |exact key (eF (ba (by omega)) (eT (av h) (eB (hT x.b _ _) (by unfold plN;rw[ab,ac h];rfl))))
    |exact key (eF (ba (by omega)) (eF (ba (by omega)) (eT (av h) (eB (hT x.a _ _) (by unfold plN;rw[ab,ab];rfl)))))
  have:i=l.length:=by have:=B0 G;omega
  subst this;rw[ke];exact .some (.inr ⟨by simp,rfl⟩)
 obtain⟨o,N,rfl⟩:=key;refine de (Zpy ..) ?_;exact eB N (eT rfl rfl)
end Go.Bm
namespace Go.Bm
open Classical
theorem Z3a {a:Axs} (hb:0<=a.bB/\a.bB<=1000) {w m:Int} (D:m.natAbs<=3000000000):Iy a w m=Ff a w m:=by
 unfold Iy;rw[Ad,JP,Np];rfl
def Qjh {a:Axs} (hb:0<=a.bB/\a.bB<=1000) {w v n m:Int} (D:w.natAbs<=3000000000) (G:v.natAbs<=3000000000) (I:Ff a n w=n) (L:Ff a n v=m):
  (v=w->m=n)/\O (w+O (v-w))=v/\Iy a n v=m:=by grind [Z3a,Ad]
def Z57 (x:Ax3) (w n:Pt) (u d:Int):plN x (w,n) [I u,I 0,I d]=(⟨O (w.x+d),w.y,w.z⟩,⟨Iy x.a n.x (O (w.x+d)),n.y,n.z⟩):=rfl
def Z0o (x:Ax3) (w n:Pt) (u d:Int):plN x (w,n) [I u,I 1,I d]=(⟨w.x,O (w.y+d),w.z⟩,⟨n.x,Iy x.b n.y (O (w.y+d)),n.z⟩):=rfl
def Zqy (x:Ax3) (w n:Pt) (u d:Int):plN x (w,n) [I u,I 2,I d]=(⟨w.x,w.y,O (w.z+d)⟩,⟨n.x,n.y,Iy x.c n.z (O (w.z+d))⟩):=rfl
def Zpe {x:Ax3} (X:Ax3OK x) {w v n m:Pt} (u:Int) (Y:w.x.natAbs<=3000000000/\w.y.natAbs<=3000000000/\w.z.natAbs<=3000000000) (hv:v.x.natAbs<=3000000000/\v.y.natAbs<=3000000000/\v.z.natAbs<=3000000000)
  (h0:Ff x.a n.x w.x=n.x/\Ff x.b n.y w.y=n.y/\Ff x.c n.z w.z=n.z) (h1:Ff x.a n.x v.x=m.x/\Ff x.b n.y v.y=m.y/\Ff x.c n.z v.z=m.z):plF x (w,n) (LX w v u)=(v,m):=by
 obtain⟨a1,a2,a3⟩:=Qjh X.a Y.1 hv.1 h0.1 h1.1;obtain⟨b1,b2,b3⟩:=Qjh X.b Y.2.1 hv.2.1 h0.2.1 h1.2.1;obtain⟨c1,c2,c3⟩:=Qjh X.c Y.2.2 hv.2.2 h0.2.2 h1.2.2;obtain⟨U,L,D⟩:=w;obtain⟨G,M,V⟩:=v;obtain⟨nx,ny,N⟩:=n;obtain⟨mx,my,mz⟩:=m;have e1:plF x (⟨U,L,D⟩,⟨nx,ny,N⟩) (bif G !=U then [[I u,I 0,I (O (G-U))]]else [])=(⟨G,L,D⟩,⟨mx,ny,N⟩):=by
  by_cases c:G=U
  ·grind
  rw[bnT c];refine de (Z57 x _ _ _ _) ?_
  grind
 have e2:plF x (⟨G,L,D⟩,⟨mx,ny,N⟩) (bif M !=L then [[I u,I 1,I (O (M-L))]]else [])=(⟨G,M,D⟩,⟨mx,my,N⟩):=by
  by_cases c:M=L
  ·grind
  rw[bnT c];refine de (Z0o x _ _ _ _) ?_
  grind
 have e3:plF x (⟨G,M,D⟩,⟨mx,my,N⟩) (bif V !=D then [[I u,I 2,I (O (V-D))]]else [])=(⟨G,M,V⟩,⟨mx,my,mz⟩):=by
  by_cases c:V=D
  ·grind
  rw[bnT c];refine de (Zqy x _ _ _ _) ?_
  grind
 simp_all [LX]
theorem Z29 {w v:Pt} (u:Int) (h:LC w v):∀r∈LX w v u,LF r:=by
 have one:∀(k a b:Int),(k=0\/k=1\/k=2)->(-1<=a-b/\a-b<=1)->∀r∈(bif a !=b then [[I u,I k,I (O (a-b))]]else []),LF r:=λk a b G h r D=>by
  by_cases c:a=b
  ·grind
  rw[bnT c,Ad]at D;rcases be.1 D with rfl|D
  ·exact⟨G,by show a-b=1\/a-b= -1;omega⟩
  grind
 intro r D;rcases bt.1 D with D|D
 ·exact one 0 _ _ (by omega) h.1 r D
 rcases bt.1 D with D|D
 ·exact one 1 _ _ (by omega) h.2.1 r D
 exact one 2 _ _ (by omega) h.2.2 r D
def atT (p:Pth) (x:Ax3) (t:Trk) (u:Int):Pt×Pt:=(BB p x t u,Bv p x (AD t u))
def Zp5 {x:Ax3} (G:GoodPath p) (D:Ax3M x) (hd:okD d) {f:Int} (hf:0<=f):∀n:Nat,f+n<=(Bg p x d a b).length->
  plF x (atT p x (Bg p x d a b) f) (Ey (BB p x (Bg p x d a b)) f n)=atT p x (Bg p x d a b) (f+n)/\∀r∈Ey (BB p x (Bg p x d a b)) f n,LF r:=by
 have I:=UV d a b D.ok G;have L:=QH p a b;obtain⟨Y,M,-,V⟩:=Lw D.ok G (Yby G L);have N:=Xe (p:=p) (x:=x) (a:=a) (b:=b) hd;generalize Bg p x d a b=t at*;intro n;induction n with
 |zero=>intro _;exact⟨by rw[show f+((0:Nat):Int)=f by omega];rfl,λr O=>by cases O⟩
 |succ n X=>
  intro hn;obtain⟨i1,i2⟩:=X (by omega);have U:0<=f+n/\f+n<t.length:=by omega
  have cl:=Zv7 G D L M I.q (by grind) N U;have pl:=Zpe D.ok (f+n+1) (Zgo G D I (f+n)) (Zgo G D I (f+n+1)) (Ybe D I (f+n)) (Zzu G D L M I.q N U);refine⟨?_,λr O=> ?_⟩
  ·show plF x _ (Ey (BB p x t) f n++_)=_;unfold plF at*;rw[List.foldl_append,i1,show f+((n+1:Nat):Int)=f+n+1 by omega];exact pl
  grind [Ey,Z29]
theorem Z36 (t:Trk) (u:Int):clp t u=clT t u:=by grind [clp,mx,mn,clT,Be]
def Z5l (h:KOK K) (I:GD K) {a b:Int} (D:a<=b):
  plF K.x (atT K.p K.x K.t a) (JB (BB K.p K.x K.t) K.t a b)=atT K.p K.x K.t b/\∀r∈JB (BB K.p K.x K.t) K.t a b,LF r:=by
 obtain⟨d,c,e,hd,L⟩:=I;have q:=h.f.t.q;have M:=Ph q.len.1 a;have N:=Ph q.len.1 b;have O:=Wk q.len.1 D;have G:∀u,atT K.p K.x K.t (clp K.t u)=atT K.p K.x K.t u:=λu=>by grind [atT,Z48,Z36,Qf1]
 have:=Zp5 (a:=c) (b:=e) h.f.p h.f.x hd M.1 (clp K.t b-clp K.t a).toNat (by grind);rw[<-L,show clp K.t a+((clp K.t b-clp K.t a).toNat:Int)=clp K.t b by omega,G,G]at this;exact this
end Go.Bm
namespace Go.Bm
def Zzs (K:Kf) (c:Cv) (s:Int):(Hw K c s).2.m0=c.m0:=by
 unfold Hw;split
 ·obtain⟨m,q,e⟩:=Qg7 K c s;rw[e]
 rfl
end Go.Bm
namespace Go.Bm
open Classical
theorem Q72 {x:Ax3} (G:Ax3OK x) (I:GoodPath p):AD (Bg p x d a b) 0=Be a (AJ p.aF):=by
 obtain⟨O,M,U,-⟩:=Lw (d:=d) (a:=a) (b:=b) (Q:=λ_ _=>True) G I (λ_ _ _ _ _ _ _ _=>trivial);have q:=(UV d a b G I).q;have D:clT (Bg p x d a b) 0=0:=by unfold clT Be;omega
 by_cases c:(Bg p x d a b).aE=[]
 ·simp_all [AD]
 rw[Qhf q _ c,D];have L:=M.ch;cases N:(Bg p x d a b).aE with
 |nil=>grind
 |cons k l=>
  rw[N]at L;obtain⟨g1,g2,V,-⟩:=L;unfold plL
  grind
def plC (K:Kf) (c:Cv):Pt×Pt:=atT K.p K.x K.t (AI c)
def Ot (K L:Kf):Prop:=L.x=K.x/\L.p=K.p
def R9 {c d:Cv} (h:d.m0=c.m0):plC K d=plC K c:=by
 show atT K.p K.x K.t (O (d.m0.tdiv 256))=atT K.p K.x K.t (O (c.m0.tdiv 256));rw[h]
def Qqc (h:KOK K) (D:GD K) {c d:Cv} (hb:EH K c=true) (to:Int) (G:d.m0=0):plC (sT K (Dm K c to)) d=plC K c/\GD (sT K (Dm K c to)):=by
 have t:=Zn3 h D hb to;obtain⟨e,a,b,-,I⟩:=D;have pl:=Qht (d:=e) (a:=a) (b:=b) h.f.x.ok h.f.p (AI c);rw[<-I]at pl;have e0:AD (Dm K c to) 0=AD K.t (AI c):=by
  unfold Dm;rw[Q72 h.f.x.ok h.f.p];show Be (AD K.t (AI c)) (AJ K.p.aF)=_;unfold Be;omega
 refine⟨?_,t.2⟩;show atT K.p K.x (Dm K c to) (O (d.m0.tdiv 256))=atT K.p K.x K.t (AI c);rw[G];show(BB K.p K.x (Dm K c to) 0,Bv K.p K.x (AD (Dm K c to) 0))=_;rw[t.1,e0];rfl
def EvP (s q:Kf×Cv):Prop:=(plC q.1 q.2=plC s.1 s.2/\Ot s.1 q.1)/\GD q.1/\0<=q.2.m0/\q.2.aL=s.2.aL
theorem Ycf (h:KOK K) (D:GD K) {c:Cv} (G:0<=c.m0) (m:Int):EvP (K,c) (EC K c m):=by
 unfold EC;by_cases hb:FT K c m=true
 ·rw[ac hb];have t:=Qqc h D (Zvv hb) (Rm K c m) (d:={zM c with o2:=false,way:=1,home:=Bk K c}) rfl;exact⟨⟨t.1,rfl,rfl⟩,t.2,fa _,rfl⟩
 rw[ab hb];exact⟨⟨rfl,rfl,rfl⟩,D,G,rfl⟩
def Zto {s:Kf×Cv} (h:KOK s.1) (D:GD s.1) (L:0<=s.2.m0) (k m:Int) (M:m<=1073741824):EvP s (evA s k m):=by
 have sm:=Qbc s.2 k m;have e0:0<=(evC s.2 k m).m0:=by rw[sm.m0];exact L
 have key:EvP (s.1,evC s.2 k m) (evA s k m):=by
  unfold evA;generalize evC s.2 k m=d at*;by_cases G:k=13
  ·rw[ac G];have:=Zrn (X1 h d M).2;exact⟨⟨R9 this.1,rfl,rfl⟩,D,by grind,this.2⟩
  rw[ab G];by_cases I:k=12
  ·rw[ac I];have t:∀b:Bool,EvP (s.1,d) (s.1,{d with aH:=b}):=λb=>⟨⟨R9 rfl,rfl,rfl⟩,D,e0,rfl⟩;exact t _
  rw[ab I];by_cases N:k=7
  ·simp_all [Ycf]
  rw[ab N];exact⟨⟨rfl,rfl,rfl⟩,D,e0,rfl⟩
 exact⟨⟨key.1.1.trans (R9 sm.m0),key.1.2⟩,key.2.1,key.2.2.1,key.2.2.2.trans sm.kp.aL⟩
def Qk7:∀(E:List Evn) {s:Kf×Cv},(∀e∈E,e.n<=1073741824)->KOK s.1->GD s.1->0<=s.2.m0->EvP s (E.foldl (λs e=>evA s e.aP e.n) s)
 |[],_,_,_,D,G=>⟨⟨rfl,rfl,rfl⟩,D,G,rfl⟩
 |e::E,s,I,h,D,G=>by
  have a:=Zto h D G e.aP e.n (I e (by simp));have b:=Qk7 E (λx L=>I x (by grind)) (Yu h _ _) a.2.1 a.2.2.1;exact⟨⟨b.1.1.trans a.1.1,b.1.2.1.trans a.1.2.1,b.1.2.2.trans a.1.2.2⟩,b.2.1,b.2.2.1,b.2.2.2.trans a.2.2.2⟩
def CyP (K:Kf) (c:Cv) (L:Kf) (d:Cv):Prop:=Ot K L/\((d.aL=true/\plC L d=plC K c/\GD L/\d.m0=0)\/(d.aL=false/\L=K/\AI c<=AI d/\0<=d.m0))
theorem Zu4 {n:Int} {c:Cv} (r:Dr K n c) (hn:0<=n/\n<=9999) (L:c.aL=false):CyP K c (B8 K c).2.1 (B8 K c).2.2:=by
 have same:∀{d:Cv},d.m0=c.m0->d.aL=c.aL->CyP K c K d:=fun{d} M D=>⟨⟨rfl,rfl⟩, .inr ⟨D.trans L,rfl,by grind,by grind [r.m0]⟩⟩;unfold B8;by_cases M:(Cr K c).1≠0
 ·rw[ac M];unfold Cr;by_cases D:c.g0=2
  ·rw[ac D];have N:=(r.g.w0.stand r.k (by omega)).2;have e:=N;refine⟨⟨rfl,rfl⟩, .inr ⟨L,rfl,Int.le_of_eq e.symm,?_⟩⟩;have X:=r.g.m0;have U:=r.m0;show 0<=O (O (c.m0.tdiv 256)*256);rw[dg U,Ad (x:=c.m0/256),Ad];omega
  rw[ab D];by_cases G:c.aI≠0
  ·grind
  rw[ab G];by_cases I:c.aH=true/\c.aM=true
  ·grind
  rw[ab I];by_cases V:c.on=true
  ·rw[ac V];exact same (Zbm K c).m0 (Ztt K c)
  grind
 rw[ab M];by_cases D:c.way≠0
 ·rw[ac D];unfold D7;by_cases G:c.aM=true/\c.m0=O (K.t.length*256)
  ·rw[ac G];by_cases I:EH K c=true
   ·rw[ac I];have t:=Qqc r.k r.l I (toC K c) (d:=tdC c) rfl;exact⟨⟨rfl,rfl⟩, .inl ⟨rfl,t.1,t.2,rfl⟩⟩
   grind
  rw[ab G];have up:=Qcw r.k r.g.w0 (by omega) K.t.length;refine⟨⟨rfl,rfl⟩, .inr ⟨L,rfl,?_,dh r.m0 up⟩⟩;exact Qr5 r.g (Ql3 r.k r.g (by omega) K.t.length) (by omega) (by omega) r.m0 up
 grind
def Zr8 {n:Int} {c:Cv} (r:Dr K n c) (hn:0<=n/\n<=9999) {E:List Evn} (M:EvE E):
  CyP (A9 K c E).1 (A9 K c E).2 (stA K c E).2.1 (stA K c E).2.2/\Dr (A9 K c E).1 n (A9 K c E).2/\(plC (A9 K c E).1 (A9 K c E).2=plC K c/\Ot K (A9 K c E).1)/\AI (BW K c E).2=AI (A9 K c E).2:=by
 have D:=Qk7 E (s:=(K,JZ c)) M.2 r.k r.l r.m0;have sm:=Qr4 (BW K c E).1 (BW K c E).2;have sm:Sm (BW K c E).2 (A9 K c E).2:=sm;have I:KOK (A9 K c E).1:=QW r.k c E;have G:=Qi2 r.k hn.1 r.g M;have hd:Dr (A9 K c E).1 n (A9 K c E).2:=⟨I,G,D.2.1,by rw[sm.m0];exact D.2.2.1⟩;have U:=sm.kp.aL.trans D.2.2.2;have V:plC (A9 K c E).1 (A9 K c E).2=plC K c/\Ot K (A9 K c E).1:=⟨(R9 sm.m0).trans D.1.1,D.1.2⟩;refine⟨?_,hd,V,?_⟩
 ·unfold stA;generalize A9 K c E=p at*;by_cases L:(B8 p.1 p.2).1=0
  ·rw[ac L];obtain⟨N,e⟩:=RC L;rw[e];have O:=Q5z I (G.gd N) (by omega);have up:=Z3s I (G.gd N) (by omega);exact⟨⟨rfl,rfl⟩, .inr ⟨O.2.aL.trans U,rfl,Qr5 G O.1.ga (by omega) (by omega) hd.m0 up,dh hd.m0 up⟩⟩
  rw[ab L]
  grind [Zu4]
 grind [sm.m0]
def Z8n {n:Int} {c:Cv} (r:Dr K n c) (hn:0<=n/\n<=9999) {E:List Evn} (I:EvE E):
  (Dr (Ef K c E).1 (n+1) (Ef K c E).2/\Ot K (Ef K c E).1)/\plC (Ef K c E).1 (Ef K c E).2=plC (stA K c E).2.1 (stA K c E).2.2/\
  ((KZ (stA K c E).2.1 (stA K c E).2.2 (AI (BW K c E).2)).length <= 10000000000000 /\ plF K.x (plC K c) (KZ (stA K c E).2.1 (stA K c E).2.2 (AI (BW K c E).2)) = plC (stA K c E).2.1 (stA K c E).2.2 /\
   (∀r∈KZ (stA K c E).2.1 (stA K c E).2.2 (AI (BW K c E).2),LF r)/\(K.p.aF=[]->KZ (stA K c E).2.1 (stA K c E).2.2 (AI (BW K c E).2)=[])):=by
 obtain⟨cy,U,D,V⟩:=Zr8 r hn I;obtain⟨sk,cy⟩:=cy;have L:=Xu r.k c E;have X:=Qd6 r.k r.g (by omega) I;have Y:=Zzs (stA K c E).2.1 (stA K c E).2.2 (Bk (stA K c E).2.1 (stA K c E).2.2);have N:GD (stA K c E).2.1/\0<=(stA K c E).2.2.m0:=by
  rcases cy with⟨-,-,O,c4⟩|⟨-,G,-,c4⟩
  ·grind
  grind [U.l]
 refine⟨⟨⟨Q0e r.k c E,Q0x r.k r.g (by omega) I,N.1,by show 0<=(Hw _ _ _).2.m0;omega⟩,sk.1.trans D.2.1,sk.2.trans D.2.2⟩,R9 Y,?_⟩;rw[V,<-D.1,<-D.2.1];have a0:=Ux U.g (by omega);have a1:=Ux X (by omega);generalize A9 K c E=p at*;generalize(stA K c E).2=q at*;unfold KZ;rcases cy with⟨c1,G,-,-⟩|⟨c1,G,O,-⟩
 ·grind
 rw[ab (by grind),Z9o L (by omega)];have bl:=Zvc (M:=BB q.1.p q.1.x q.1.t) L.f.t.q.len.1 O;have bs:=Z5l L N.1 O;rw[<-G];refine⟨by omega,bs.1,bs.2,λh0=> ?_⟩;obtain⟨d,e,f,-,ht⟩:=N.1;have h1:q.1.p.aF=[]:=by rw[G,D.2.2];exact h0
 have h2:q.1.t.length=0:=by rw[ht];unfold Bg;rw[h1];rfl
 have z1:=Ph (t:=q.1.t) (by omega) (AI p.2);have z2:=Ph (t:=q.1.t) (by omega) (AI q.2);unfold JB;rw[show(clp q.1.t (AI q.2)-clp q.1.t (AI p.2)).toNat=0 by omega];rfl
def Yz {a c:Pt} (D:bd 4000000 a) (G:bd 4000000 c):sqD a c<=20000000000000000:=by
 have h:=Qdx (E:=8000000) (x:=a.x-c.x) (y:=a.y-c.y) (z:=a.z-c.z) (by grind [bd]) (by grind [bd]) (by grind [bd]);have e:sqD a c=nn3 (a.x-c.x) (a.y-c.y) (a.z-c.z):=rfl;omega
def Qur {a c:Pt} (G:bd 4000000 a) (I:bd 4000000 c) (D:a≠c) (hd:0<=u/\u<=50000000) (hS:0<=S/\S*S<=sqD a c/\sqD a c<(S+1)*(S+1)):
  (-(S+2*u+1)<=2*((AE c a u).x-c.x)*S-2*((a.x-c.x)*u)/\2*((AE c a u).x-c.x)*S-2*((a.x-c.x)*u)<=S+2*u+1)/\
  (-(S+2*u+1)<=2*((AE c a u).y-c.y)*S-2*((a.y-c.y)*u)/\2*((AE c a u).y-c.y)*S-2*((a.y-c.y)*u)<=S+2*u+1)/\
  (-(S+2*u+1)<=2*((AE c a u).z-c.z)*S-2*((a.z-c.z)*u)/\2*((AE c a u).z-c.z)*S-2*((a.z-c.z)*u)<=S+2*u+1):=by
 obtain⟨L,M,N⟩:=W7 a c;have O:sqD a c≠0:=λe=>D (VW.1 e);have U:=KK a c;have V:=Yz G I;have hn:0<sqD a c/\sqD a c<=20000000000000000:=by omega
 have e1:(AE c a u).x-c.x=AM (a.x-c.x) u (sqD a c):=by unfold AE;simp only;omega
 have e2:(AE c a u).y-c.y=AM (a.y-c.y) u (sqD a c):=by unfold AE;simp only;omega
 have e3:(AE c a u).z-c.z=AM (a.z-c.z) u (sqD a c):=by unfold AE;simp only;omega
 rw[e1,e2,e3];obtain⟨a1,a2,a3⟩:=G;obtain⟨X,Y,c3⟩:=I;exact⟨JS (by omega) hd hn L hS,JS (by omega) hd hn M hS,JS (by omega) hd hn N hS⟩
def Zbc {a c:Pt} (G:bd 4000000 a) (I:bd 4000000 c) (hS:0<=S/\S*S<=sqD a c/\sqD a c<(S+1)*(S+1)):AB a c<=S+1:=by
 obtain⟨L,-,D⟩:=Rj (AH G (by decide)) (AH I (by decide));rcases D with D|D
 ·omega
 have:AB a c-1<S+1:=Zcc (by omega) (by omega);omega
structure Bl (a c b : Pt) (tol d n S T : Int) : Prop where
 hd:0<=d/\d<=50000000/\d+1<=S/\d+1<=T
 hn:2<=n
 hS:0<=S/\S*S<=sqD a c/\sqD a c<(S+1)*(S+1)
 hT:0<=T/\T*T<=sqD b c/\sqD b c<(T+1)*(T+1)
 bend:H2 (AE c a d) c (AE c b d)<=16*tol*tol
def Z7j {a c b:Pt} (G:bd 4000000 a) (D:bd 4000000 c) (hb:bd 4000000 b) (h:Cp a c b u≠0):
  a≠c/\b≠c/\∃S T,Bl a c b u (Cp a c b u) (JQ (AE c a (Cp a c b u)) c (AE c b (Cp a c b u))) S T:=by
 obtain⟨I,L,U,V,X,M⟩:=Xn h;refine⟨I,L,?_⟩;obtain⟨m1,m2⟩:=Tl (AB a c) (AB c b);have Y:=Yz G D;have u2:=Yz hb D;obtain⟨S,hS⟩:=Qaz (n:=sqD a c) ⟨KK _ _,by omega⟩;obtain⟨T,hT⟩:=Qaz (n:=sqD b c) ⟨KK _ _,by omega⟩;have l1:=Zbc G D hS;have N:=Zbc hb D hT;rw[Vs b c]at N;generalize Cp a c b u=d at*;have O:=RW (AE c a d) c (AE c b d);refine⟨S,T,⟨by omega,by omega,by omega,by omega⟩,?_,hS,hT,M⟩;rcases O with h|h|h|h|h|h<;>omega
def Yd2 {A a c b:Pt} {tol d n S T i:Int} (O:bd 4000000 a) (U:bd 4000000 c) (L:a≠c) (V:0<=tol) (h:Bl a c b tol d n S T) (X:2*a.x=A.x+c.x) (Y:2*a.y=A.y+c.y) (hz:2*a.z=A.z+c.z) (hi:0<=i/\2*i<=n):
  NearL A c (Ih n i (AE c a d) c (AE c b d)) (2*S*(n*n)) (2*S*(n*n)-n*(n-2*i)*d) (tol+4):=by
 obtain⟨⟨G,d1,d2,d3⟩,hn,hS,hT,hb⟩:=h;obtain⟨e1,e2,e3⟩:=Qur O U L ⟨G,d1⟩ hS;have M:0<n*n:=dk;have N:nn3 ((AE c a d).x-c.x+((AE c b d).x-c.x)) ((AE c a d).y-c.y+((AE c b d).y-c.y)) ((AE c a d).z-c.z+((AE c b d).z-c.z))<=(4*tol)*(4*tol):=by
  have e:(4*tol)*(4*tol)=16*tol*tol:=by grind
  rw[e];exact hb
 have core:=Qxf hn hi d2 G V e1 e2 e3 N;have hm:0<2*S*(n*n):=dk (by omega) M;have n1:0<=n*(n-2*i):=al;have n2:n*(n-2*i)<=n*n:=af;have n3:n*(n-2*i)*d<=n*n*(2*S):=cv n2 (by omega) G;have n4:=al n1 G;have e5:n*n*(2*S)=2*S*(n*n):=by grind
 refine⟨hm,by omega,?_⟩;have key:∀I cx D r:Int,2*I=D+cx->2*S*(n*n)*(cx+r-D)-(2*S*(n*n)-n*(n-2*i)*d)*(cx-D)=2*S*(n*n)*r-n*(n-2*i)*d*(2*(I-cx)):=by
  intro I cx D r h;have e:2*(I-cx)=D-cx:=by omega
  rw[e];grind
 unfold Ih Lv;simp only;rw[key _ _ _ _ X,key _ _ _ _ Y,key _ _ _ _ hz];omega
def Z6v {B a c b:Pt} {tol d n S T i:Int} (hb:bd 4000000 b) (O:bd 4000000 c) (L:b≠c) (U:0<=tol) (h:Bl a c b tol d n S T) (V:2*b.x=B.x+c.x) (X:2*b.y=B.y+c.y) (Y:2*b.z=B.z+c.z) (hi:i<=n/\n<=2*i):
  NearL c B (Ih n i (AE c a d) c (AE c b d)) (2*T*(n*n)) (n*(n-2*(n-i))*d) (tol+4):=by
 obtain⟨⟨G,d1,d2,d3⟩,hn,hS,hT,D⟩:=h;obtain⟨e1,e2,e3⟩:=Qur hb O L ⟨G,d1⟩ hT;have M:0<n*n:=dk;have N:nn3 ((AE c b d).x-c.x+((AE c a d).x-c.x)) ((AE c b d).y-c.y+((AE c a d).y-c.y)) ((AE c b d).z-c.z+((AE c a d).z-c.z))<=(4*tol)*(4*tol):=by
  have e:(4*tol)*(4*tol)=16*tol*tol:=by grind
  rw[e,Int.add_comm ((AE c b d).x-c.x),Int.add_comm ((AE c b d).y-c.y),Int.add_comm ((AE c b d).z-c.z)];exact D
 have core:=Qxf (i:=n-i) hn ⟨by omega,by omega⟩ d3 G U e1 e2 e3 N;have hm:0<2*T*(n*n):=dk (by omega) M;have n1:0<=n*(n-2*(n-i)):=al;have n2:n*(n-2*(n-i))<=n*n:=af;have n3:n*(n-2*(n-i))*d<=n*n*(2*T):=cv n2 (by omega) G;have n4:0<=n*(n-2*(n-i))*d:=al n1 G;have e5:n*n*(2*T)=2*T*(n*n):=by grind
 refine⟨hm,by omega,?_⟩;have key:∀bx cx I r:Int,2*bx=I+cx->2*T*(n*n)*(cx+r-cx)-n*(n-2*(n-i))*d*(I-cx)=2*T*(n*n)*r-n*(n-2*(n-i))*d*(2*(bx-cx)):=by
  intro bx cx I r h;have e:2*(bx-cx)=I-cx:=by omega
  rw[e];grind
 have comm:∀p q:Int,(n-i)*(n-i)*p+i*i*q=(n-(n-i))*(n-(n-i))*q+(n-i)*(n-i)*p:=λp q=>by grind
 unfold Ih Lv;simp only;rw[key _ _ _ _ V,key _ _ _ _ X,key _ _ _ _ Y,comm,comm,comm];omega
def Q1w {dir:Int}:∀(k:Nat) (bI:Bool) (a b:Spk),∃l,A0 dir k bI a b=l++[b]
 |0,_,_,b=>⟨[],rfl⟩
 |k+1,bI,a,b=>by
  unfold A0;split
  ·simp
  obtain⟨l,D⟩:=Q1w (dir:=dir) k false (AS a b dir bI) b
  grind
theorem Zcs {it:Itm} (h:Cb it) (D:it.aP=3) (p:Pt):Bo it (Av it p)=Am p:=by
 obtain⟨G,I,L⟩:=FK it.aG it.ce;unfold Bo Av;unfold dU dW
 grind [spP,plU,plW,plH,Am]
theorem Ycg {it:Itm} (h:Cb it):∃l,BE it=l++[Am it.to]:=by
 unfold BE;by_cases D:it.aP=3
 ·rw[ac D];unfold Dh;obtain⟨l,G⟩:=Q1w 16 it.bI (Av it it.fr) (Av it it.to);rw[G];refine⟨(Av it it.fr::l).map (Bo it),?_⟩
  grind [Zcs]
 rw[ab D];exact⟨[Am it.fr],rfl⟩
def Ye8 {aA:List Itm} {frm:Int} (h:Cb (vE aA i)) (D: ¬0<=BP aA i):∃l,BL aA i frm=l++[Am (vE aA i).to]:=by
 unfold BL;by_cases c:smI (vE aA i)
 ·rw[ac c];unfold GJ;rw[ab D];unfold BE;rw[ab (by have:=c.1;omega)];exact⟨_,rfl⟩
 simp_all [Ycg]
theorem Zea (l:List Pt) (q:Pt) (s:List Sgm×Int×Pt):((l++[q]).foldl (Bd a u b) s).2.2=q:=by grind [Bd]
def Q8x (aU:Int) (a:Pt) (g:Sgm):Prop:=bd B24 g.to/\g.to≠a/\g.len=AB a g.to/\aU<=g.aU/\(0<=g.aZ/\g.aZ<=16777216)/\(0<=g.aX/\g.aX<=16777216)
def LB (aU:Int) (a:Pt):List Sgm->Prop
 |[]=>True
 |g::l=>Q8x aU a g/\LB g.aU g.to l
def Zcu (last n:Int) (m:Mrk):Prop:=last<=m.at_/\m.at_<=n/\(1<=m.aP/\m.aP<=6)/\0<=m.aU
def PC (last n:Int):List Mrk->Prop
 |[]=>True
 |m::l=>Zcu last n m/\PC m.at_ n l
def Zaf (p:Pth):Prop:=bd B24 p.aQ/\LB 0 p.aQ p.aF/\PC 0 (AJ p.aF) p.aD
structure okW (R : Nat) (s : Spk) : Prop where
 ok:okS s
 u:s.u.natAbs<=R
 w:s.w.natAbs<=R
 r:s.r<=R
def Z0v {a b:Spk} (D:okW i a) (hb:okW i b) {dir:Int} (hd:dir=1\/dir= -1) (bI:Bool):okW i (AS a b dir bI):=by
 have G:=NE D.ok hb.ok hd bI;have L:=Qee D.ok.2.2.1 hb.ok.2.2.1;have I:hf a.r b.r<=i:=by have:=D.r;have:=hb.r;unfold hf;omega
 refine⟨Qax D.ok hb.ok hd bI,?_,?_,?_⟩;all_goals
  grind [AS,DC,Qep]
theorem Qgd {R:Nat} {dir:Int} (hd:dir=1\/dir= -1):∀(k:Nat) (bI:Bool) {a b:Spk},okW R a->okW R b->∀s∈A0 dir k bI a b,okW R s
 |0,_,a,b,_,hb,s,D=>by grind [A0]
 |k+1,bI,a,b,G,hb,s,D=>by
  unfold A0 at D;have I:=Z0v G hb hd bI;split at D
  ·grind
  rcases bt.1 D with D|D
  ·exact Qgd hd k false G I s D
  exact Qgd hd k false I hb s D
def Qqh {it:Itm} {c:Nat} (D:bd 1048576 it.ce) (G:bd 1048576 d) (O:(dU it d).natAbs<=c) (U:(dW it d).natAbs<=c):okW (32*c+1) (Av it d):=by
 obtain⟨g1,g2,L,M⟩:=PP D G;refine⟨P6 D G,?_,?_,?_⟩
 ·show(dU it d*16).natAbs<=_;omega
 ·show(dW it d*16).natAbs<=_;omega
 show Fo _<=_;obtain⟨n,hn⟩:=bh L;have hle:n<=(32*c)*(32*c):=by
  have V:=B3 (x:=dU it d*16) (A:=16*c) (by omega);have X:=B3 (x:=dW it d*16) (A:=16*c) (by omega);have e:(32*c)*(32*c)=4*(16*c*(16*c)):=by grind
  unfold sq2 at hn;omega
 rw[hn]at M⊢;obtain⟨r,I,N⟩:=LT n;rw[Pu (Sh I N)];have:=jq.1 (co I hle)
 grind
def Ycc {it:Itm} (h:Made it) (N:bd 40004 it.fr) (U:bd 40004 it.to):∀p∈BE it,bd 1000000 p:=by
 have V:=Zhv h (AH N (by omega)) (AH U (by omega));intro p G;unfold BE at G;by_cases O:it.aP=3
 ·rw[ac O]at G;obtain⟨D,hd,hc,-⟩:=V.2.2.2 O;have X:=h.arc O;obtain⟨-,Y⟩:=WI X (by omega) N;obtain⟨r,k,t,g,x,e1,e2,e3,e4,e5,e6,e7,e8,e9,a3,a4,L,a0⟩:=X.ends;obtain⟨⟨r1,r2⟩,r3,r4⟩:=L7 (r:=r) (k:=k) (by omega);obtain⟨⟨r5,r6⟩,r7,r8⟩:=L7 (r:=r+g) (k:=k+t) (by omega);have a1:(dU it it.fr).natAbs<=20/\(dW it it.fr).natAbs<=20:=by unfold dU dW;rw[L,(CI D).1,(CI D).2.1];omega
  have a2:(dU it it.to).natAbs<=20/\(dW it it.to).natAbs<=20:=by unfold dU dW;rw[L,a0,(CI D).1,(CI D).1,(CI D).2.1,(CI D).2.1];omega
  have k1:=Qqh hc V.2.1 a1.1 a1.2;have k2:=Qqh hc V.2.2.1 a2.1 a2.2;simp only[bj]at G;obtain⟨s,I,rfl⟩:=G
  have hh:∀s∈Dh it,s.h.natAbs<=640064:=by
   have key:∀(k:Nat) (bI:Bool) (a b:Spk),a.h.natAbs<=640064->b.h.natAbs<=640064->∀s∈A0 it.dir k bI a b,s.h.natAbs<=640064:=by
    intro k;induction k with
    |zero=>grind [A0]
    |succ k ih=>
     intro bI a b X hb s I;have hm:(AS a b it.dir bI).h.natAbs<=640064:=by
      unfold AS DC;split
      ·simp
      show(hf a.h b.h).natAbs<=_
      grind [hf]
     grind [A0]
   have f1:=(FL (pl:=it.aG) N).2.2;have f2:=(FL (pl:=it.aG) U).2.2;have b1:(Av it it.fr).h.natAbs<=640064:=by show(plH it.aG it.fr*16).natAbs<=_;omega
   have b2:(Av it it.to).h.natAbs<=640064:=by show(plH it.aG it.to*16).natAbs<=_;omega
   intro s I;rcases be.1 I with rfl|I
   ·exact b1
   grind
  have M:okW (32*20+1) s:=by
   rcases be.1 I with rfl|I
   ·exact k1
   grind [Qgd]
  have a5:=hh s I;obtain⟨c1,c2,-⟩:=FL (pl:=it.aG) (C7 Y);have u1:=M.u;have u2:=M.w;have:(8:Int).toNat=8:=rfl;unfold Bo;exact Qgp (by omega) (by omega) (by omega)
 rw[ab O]at G;simp at G;rcases G with rfl|rfl
 ·exact AH (C7 N) (by decide)
 exact AH (C7 U) (by decide)
def Ycz {aA:List Itm} (M:i<aA.length) (N:Aw (vE aA i)) (G:∀it∈aA,(Aw it/\Made it/\Gb it/\bd 40004 it.fr/\bd 40004 it.to)\/Oth it) (hf:Lq aA i a) (I:∀k<aA.length,Aw (vE aA k)->drawn (vE aA k)):
  ∀p∈BL aA i a,bd B24 p:=by
 have L:=G _ (Tu M);have hd:=I i M N;have O:∀p∈BE (vE aA i),bd B24 p:=by
  rcases L with⟨-,g1,-,g2,U⟩|g
  ·exact λp D=>AH (Ycc g1 g2 U p D) (by decide)
  grind [Pf]
 intro p D;unfold BL at D;by_cases V:smI (vE aA i)
 ·rw[ac V]at D;rcases bt.1 D with D|D
  ·rcases bt.1 D with D|D
   ·unfold Hq at D;rcases hf with rfl|⟨f,rfl,X,Y⟩
    ·grind
    rw[ac]at D
    grind [JL]
   simp at D;subst D;exact KN hd.1.2.1 hd.1.2.2.1
  unfold GJ at D;by_cases h:0<=BP aA i
  ·rw[ac h]at D
   grind [Tx,JL]
  grind
 grind
def Oy:Int->List Sgm->Int
 |k,[]=>k
 |_,g::l=>Oy g.aU l
def Zle {g:Sgm}:∀{l:List Sgm} {aU:Int} {a:Pt},LB aU a l->Q8x (Oy aU l) (Eb a l) g->LB aU a (l++[g])
 |[],_,_,_,h=>⟨h,trivial⟩
 |_::_,_,_,D,h=>⟨D.1,Zle D.2 h⟩
theorem Qo2 {g:Sgm}:∀{l:List Sgm} {aU:Int},Oy aU (l++[g])=g.aU
 |[],_=>rfl
 |_::l,_=>Qo2 (l:=l)
def WU {aQ:Pt} {aU aZ aX:Int} (hf:0<=aZ/\aZ<=16777216) (I:0<=aX/\aX<=16777216):∀(D:List Pt) (s:List Sgm×Int×Pt),(∀p∈D,bd B24 p)->LB 0 aQ s.1->Eb aQ s.1=s.2.2->Oy 0 s.1<=aU->
  LB 0 aQ (D.foldl (Bd aU aZ aX) s).1/\Oy 0 (D.foldl (Bd aU aZ aX) s).1<=aU
 |[],s,_,h,_,G=>⟨h,G⟩
 |q::D,s,L,h,N,G=>by
  rw[iq];have O:=L q (by simp);unfold Bd;by_cases c:q=s.2.2
  ·rw[ac c];exact WU hf I D s (λp M=>L p (by grind)) h N G
  rw[ab c];refine WU hf I D _ (λp M=>L p (by grind)) ?_ (Pa _ _ _) (by grind [Qo2]);exact Zle h ⟨O,by grind,by rw[N],G,hf,I⟩
def Qjr:Int->List Mrk->Int
 |k,[]=>k
 |_,m::l=>Qjr m.at_ l
def Qb9 {m:Mrk} {n D:Int} (hn:n<=D):∀{l:List Mrk} {last:Int},PC last n l->Zcu (Qjr last l) D m->PC last D (l++[m])
 |[],_,_,h=>⟨h,trivial⟩
 |k::l,_,⟨⟨G,N,I,L⟩,M⟩,h=>⟨⟨G,by omega,I,L⟩,Qb9 hn M h⟩
def Qd9 {n:Int}:∀{l:List Mrk} {last:Int},last<=n->PC last n l->Qjr last l<=n
 |[],_,h,_=>h
 |m::l,_,_,⟨D,G⟩=>Qd9 (l:=l) D.2.1 G
def Zyi {it:Itm} (hf:it.aP=1\/1<=it.aZ/\it.aZ<=60000000) (G:0<=a/\a<=30000):0<=Ge it a/\Ge it a<=16777216:=by
 unfold Ge;by_cases D:it.aP=1
 ·omega
 rw[ab D]
 grind [mx,AA,mn]
def Yex {it:Itm} (hf:syI it->0<=it.aZ/\it.aZ<=60000000):0<=Kb it/\Kb it<=16777216:=by grind [Kb,mn]
structure VInv (i : Nat) (s : BSt) : Prop where
 bK:s.bK=true->bd B24 s.aQ/\LB 0 s.aQ s.aF/\Oy 0 s.aF<=i
 aD:PC 0 s.len s.aD
def Zyf (aA:List Itm) (i:Nat):1<=Of aA i/\Of aA i<=6:=by
 have D:∀l:List Itm,Gu l=1\/Gu l=2:=by
  intro l;induction l with
  |nil=>right;rfl
  |cons it l G=>grind [Gu]
 grind [Of]
def Ztc (it:Itm):1<=Ni it/\Ni it<=6:=by grind [Ni]
def Yck {aA:List Itm} {s:BSt} (hi:i<aA.length) (D:∀j<aA.length,¬Ci (vE aA j)) (M:Aw (vE aA i)->∀p∈BL aA i s.frm,bd B24 p) (G:BOK aA i s) (N:BInv s) (h:VInv i s):VInv (i+1) (E3 aA i s):=by
 have O:=λk U L=>(Ia (D k U) L).1;unfold E3;by_cases L:Aw (vE aA i)
 ·rw[ac L];have I:=Ia (D i hi) L;have hd:=I.1;have hr:=Zyi I.2 G.aS;have hl:=Yex (it:=vE aA i) λhs=>by rcases hs with h|h<;>have:=I.2<;>omega
  have V:=M L;obtain⟨p1,p2⟩:=T0 hd G.frm O;have ha:bd 67108864 (if s.bK=true then s.at_ else Am (vE aA i).fr):=by
   by_cases hb:s.bK=true
   ·rw[ac hb];exact G.at_ hb
   rw[ab hb];exact AH (C7 hd.1.2.1) (by decide)
  obtain⟨-,a2,-,-⟩:=R_ (BL aA i s.frm) (s.aF,s.len,if s.bK=true then s.at_ else Am (vE aA i).fr) p1 ha G.len.1;refine⟨λ_=> ?_,?_⟩
  ·unfold Eo;by_cases hb:s.bK=true
   ·rw[ac hb,ac hb];obtain⟨g1,g2,X⟩:=h.bK hb;obtain⟨k1,k2⟩:=WU (aU:=i) hr hl (BL aA i s.frm) (s.aF,s.len,s.at_) V g2 (N.bK hb).2.2.1 X
    grind
   rw[ab hb,ab hb];obtain⟨g1,g2,X⟩:=N.empty (by grind);rw[g1];obtain⟨k1,k2⟩:=WU (aU:=i) hr hl (BL aA i s.frm) ([],s.len,Am (vE aA i).fr) V trivial rfl (by grind [Oy]);exact⟨AH (C7 hd.1.2.1) (by decide),k1,by grind⟩
  have Y:=Qd9 G.len.1 h.aD;have U:=Zyf aA i;have:s.len<=(Eo aA i s).2.1:=a2;exact Qb9 this h.aD ⟨by grind,by simp,U,by simp⟩
 rw[ab L];refine⟨λhb=> ?_,?_⟩
 ·obtain⟨g1,g2,X⟩:=h.bK hb
  grind
 have Y:=Qd9 G.len.1 h.aD;have U:=Ztc (vE aA i);exact Qb9 (fa _) h.aD ⟨by omega,by simp,U,by simp⟩
def Qyx {aA:List Itm} (h:Items 40004 d aA) (D:aA.length<=15):∀j<aA.length,¬Ci (vE aA j):=(L9 (Wt (by omega) h (by omega))).2
def Qrb {p:Pt} {aA:List Itm} (h:Items 40004 p aA) (L:aA.length<=15):∀i,i<=aA.length->VInv i (Ay aA i)
 |0,_=>by rw[Ay];exact⟨λh=>(by cases h),trivial⟩
 |i+1,N=>by
  have D:=Qyx h L;have G:=Nr D i (by omega);exact Yck (by omega) D (λI=>Ycz (by omega) I h.made G.frm λk M I=>(Ia (D k M) I).1) G (Po D i (by omega)) (Qrb h L i (by omega))
def Zz5 {aA:List Itm} (h:Items 40004 d aA) (L:aA.length<=15):Zaf (A7 aA):=by
 have D:=Qyx h L;have G:=Qrb h L aA.length (dm _);have I:=Po D aA.length (dm _);have M:=Qtp D;unfold Zaf;rw[M];unfold A7;by_cases hb:(Ay aA aA.length).bK=true
 ·obtain⟨g1,g2,-⟩:=G.bK hb
  grind [G.aD]
 obtain⟨g1,g2,N⟩:=I.empty (by grind);refine⟨?_,?_,G.aD⟩
 ·grind [bd]
 simp only[g1];trivial
def Qtl {l:List Itm} (h:Items A d l) (D:A<=i):Items i d l:=
 ⟨h.link,λit G=>(h.made it G).imp (fun⟨I,L,M,N,O⟩=>⟨I,L,M,AH N D,AH O D⟩) id⟩
def prs (P:Pt->Pt->Prop):Pt->List Pt->Prop
 |_,[]=>True
 |x,y::l=>P x y/\prs P y l
def Zjj {P:Pt->Pt->Prop} {m:Pt} {I:List Pt}:∀{x:Pt} {L:List Pt},prs P x (L++[m])->prs P m I->prs P x (L++[m]++I)
 |_,[],D,G=>⟨D.1,G⟩
 |_,_::_,D,G=>⟨D.1,Zjj D.2 G⟩
def Qji {P:Pt->Pt->Prop} {Q:Pt->Prop} (h:∀a b,Q a->Q b->P a b):∀{x:Pt} {l:List Pt},Q x->(∀q∈l,Q q)->prs P x l
 |_,[],_,_=>trivial
 |_,y::_,G,D=>⟨h _ _ G (D y (by simp)),Qji h (D y (by simp)) λq I=>D q (by grind)⟩
def K1 (it:Itm) (W:Int) (p q:Pt):Prop:=
 (it.aP≠3/\∃m k k',NearL (Am it.fr) (Am it.to) p m k W/\NearL (Am it.fr) (Am it.to) q m k' W)\/(it.aP=3/\∃x y,Vz it x y/\p=Bo it x/\q=Bo it y)
def OnL (it:Itm) (W m:Int) (p:Pt):Prop:=∃k,NearL (Am it.fr) (Am it.to) p m k W
def Qc5 {it:Itm} (D:it.aP≠3) (a b:Pt) (G:OnL it W m a) (hb:OnL it W m b):K1 it W a b:=by
 obtain⟨k,h⟩:=G;obtain⟨k',h'⟩:=hb;exact .inl ⟨D,m,k,k',h,h'⟩
theorem Q2z {it:Itm} (D:0<=W) (G:0<m):OnL it W (2*m) (AQ it):=by
 refine⟨m,Jb (by omega) ⟨by omega,by omega,?_⟩ D⟩;unfold AQ Am
 grind
def Qs5 (it:Itm):(2*(AQ it).x=(Am it.fr).x+(Am it.to).x)/\(2*(AQ it).y=(Am it.fr).y+(Am it.to).y)/\(2*(AQ it).z=(Am it.fr).z+(Am it.to).z):=by grind [AQ,Am]
def Qv7 {it:Itm} (D:bd 100000 it.fr) (G:bd 100000 it.to):bd 4000000 (AQ it)/\bd 4000000 (Am it.fr)/\bd 4000000 (Am it.to):=by
 unfold bd AQ Am at*;simp only;omega
def Ztw {n:Int} (h:JM n):∃j:Nat,n=2*j/\n.toNat=2*j/\1<=j:=by
 rcases h with rfl|rfl|rfl|rfl|rfl|rfl
 ·exact⟨1,by decide,by decide,by decide⟩
 ·exact⟨2,by decide,by decide,by decide⟩
 ·exact⟨4,by decide,by decide,by decide⟩
 ·exact⟨8,by decide,by decide,by decide⟩
 ·exact⟨16,by decide,by decide,by decide⟩
 exact⟨32,by decide,by decide,by decide⟩
def Qx5 {A B:Itm} (U:bd 100000 A.fr) (V:bd 100000 A.to) (X:bd 100000 B.fr) (Y:bd 100000 B.to) (I:B.fr=A.to) (ht:0<=a) (hW:a+4<=W):
  (∃m,0<m/\∀p∈(Ea (AQ A) (Am A.to) (AQ B) a).take ((Ea (AQ A) (Am A.to) (AQ B) a).length/2+1),OnL A W (2*m) p)/\
  (∃m,0<m/\∀p∈(Ea (AQ A) (Am A.to) (AQ B) a).drop ((Ea (AQ A) (Am A.to) (AQ B) a).length/2),OnL B W (2*m) p):=by
 obtain⟨ca,a0,G⟩:=Qv7 U V;obtain⟨cb,a1,a2⟩:=Qv7 X Y;obtain⟨tx,ty,tz⟩:=Qs5 A;obtain⟨ux,uy,uz⟩:=Qs5 B;unfold Ea;by_cases h:Cp (AQ A) (Am A.to) (AQ B) a=0
 ·rw[ac h];constructor
  ·refine⟨1,by omega,λp D=> ?_⟩;simp at D;subst D;exact⟨_,Jb (by omega) (PL (Am A.fr) (Am A.to) (m:=2*1) (by omega)).2 (by omega)⟩
  refine⟨1,by omega,λp D=> ?_⟩;simp at D;subst D;rw[<-I];exact⟨_,Jb (by omega) (PL (Am B.fr) (Am B.to) (m:=2*1) (by omega)).1 (by omega)⟩
 rw[ab h];obtain⟨n1,n2,S,T,hb⟩:=Z7j ca G cb h;obtain⟨-,-,h3,h4,h5,-⟩:=Xn h;obtain⟨m1,m2⟩:=Tl (AB (AQ A) (Am A.to)) (AB (Am A.to) (AQ B));generalize Cp (AQ A) (Am A.to) (AQ B) a=d at*;obtain⟨j,hj,a3,a4⟩:=Ztw (RW (AE (Am A.to) (AQ A) d) (Am A.to) (AE (Am A.to) (AQ B) d));generalize JQ (AE (Am A.to) (AQ A) d) (Am A.to) (AE (Am A.to) (AQ B) d)=n at*;have hlen:((List.range (n.toNat+1)).map fun(i:Nat)=>Ih n i (AE (Am A.to) (AQ A) d) (Am A.to) (AE (Am A.to) (AQ B) d)).length=2*j+1:=by simp;omega
 have L:0<n*n:=dk;have hS:0<S:=by have:=hb.hd;omega
 have hT:0<T:=by have:=hb.hd;omega
 constructor
 ·refine⟨S*(n*n),dk hS L,λp D=> ?_⟩;rw[<-List.map_take,bj]at D;obtain⟨i,M,rfl⟩:=D;rw[List.mem_take_iff_getElem]at M;obtain⟨O,h1,N⟩:=M;simp at h1 N;subst N;have:=Yd2 ca G n1 ht hb tx ty tz (i:=(O:Int)) ⟨by omega,by omega⟩;rw[show 2*S*(n*n)=2*(S*(n*n)) by grind]at this;exact⟨_,Jb (by omega) this hW⟩
 refine⟨T*(n*n),dk hT L,λp D=> ?_⟩;rw[<-List.map_drop,bj]at D;obtain⟨i,M,rfl⟩:=D;rw[List.mem_drop_iff_getElem]at M;obtain⟨O,h1,N⟩:=M;simp at h1 N;subst N;rw[I]at ux uy uz;have:=Z6v (B:=Am B.to) cb G n2 ht hb (by omega) (by omega) (by omega) (i:=((j+O:Nat):Int)) ⟨by omega,by omega⟩;refine⟨n*(n-2*(n-((j+O:Nat):Int)))*d,Jb (E:=a+4) (by omega) ?_ hW⟩
 grind
theorem Qs2 {it:Itm} {W:Int} (D:it.aP=3):∀{x:Spk} {l:List Spk},Dq (Vz it) x l->prs (K1 it W) (Bo it x) (l.map (Bo it))
 |_,[],_=>trivial
 |_,_::_,h=>⟨.inr ⟨D,_,_,h.1,rfl,rfl⟩,Qs2 D h.2⟩
noncomputable def Lb (l:List Pt):Pt:=l.getD (l.length/2) ⟨0,0,0⟩
def Zun {l:List Pt} (h:l≠[]):∃r,l.drop (l.length/2)=Lb l::r:=by
 have D:=js.2 h;refine⟨l.drop (l.length/2+1),?_⟩
 grind [NX,Lb]
def Zwo {l:List Pt} (h:l≠[]):∃r,l.take (l.length/2+1)=r++[Lb l]:=by
 refine⟨l.take (l.length/2),?_⟩
 grind [List.take_succ_eq_append_getElem,Lb]
def Z4p (a c b:Pt) (tol:Int):Ea a c b tol≠[]:=by
 unfold Ea;split
 ·simp
 simp
def Qyk (aA:List Itm) (i k:Nat):Fm aA i k≠[]:=Z4p _ _ _ _
structure MotOK (it : Itm) (W : Int) : Prop where
 valid:Cb it
 fr:bd 100000 it.fr
 to:bd 100000 it.to
 bJ:0<=it.bJ/\it.bJ*16+4<=W
 arc:it.aP=3->CU it.aG/\(it.dir=1\/it.dir= -1)/\∃R0 R1,ArcEnds it R0 R1/\ArcMore it R0
noncomputable def IT (aA:List Itm) (i:Nat) (frm:Int):Pt:=if 0<=frm/\smI (vE aA i)then Lb (Fm aA frm.toNat i)else Am (vE aA i).fr
def Z1r {aA:List Itm} (G:MotOK (vE aA i) W)
  (hf:∀f:Nat,a=f->MotOK (vE aA f) W/\(vE aA i).fr=(vE aA f).to)
  (hs:∀k:Nat,BP aA i=k->MotOK (vE aA k) W/\(vE aA k).fr=(vE aA i).to):
  ∃rest,BL aA i a=IT aA i a::rest/\prs (K1 (vE aA i) W) (IT aA i a) rest:=by
 have V:0<=W:=by have:=G.bJ;omega
 unfold BL IT;by_cases c:smI (vE aA i)
 ·rw[ac c];have I:(vE aA i).aP≠3:=by have:=c.1;omega
  have D:BE (vE aA i)=[Am (vE aA i).fr,Am (vE aA i).to]:=by unfold BE;rw[ab I]
  have M:∃Y r O,Hq aA i a=Y::r/\Y=(if 0<=a/\smI (vE aA i)then Lb (Fm aA a.toNat i)else Am (vE aA i).fr)/\0<O/\∀p∈Y::r,OnL (vE aA i) W (2*O) p:=by
   unfold Hq;by_cases L:0<=a
   ·obtain⟨f,rfl⟩:=bh L;obtain⟨g1,g2⟩:=hf f rfl;rw[ac L,ac ⟨L,c⟩,ag];obtain⟨r,hr⟩:=Zun (Qyk aA f i);obtain⟨-,O,a0,X⟩:=Qx5 (B:=vE aA i) (W:=W) g1.fr g1.to G.fr G.to g2 (by grind [g1.bJ]) g1.bJ.2;refine⟨_,r,O,hr,rfl,a0,?_⟩;rw[<-hr];exact X
   rw[ab L,ab (λh=>L h.1),D];refine⟨_,[],1,rfl,rfl,by omega,λp U=> ?_⟩;simp at U;subst U;exact⟨_,Jb (by omega) (PL _ _ (m:=2*1) (by omega)).1 V⟩
  have N:∃mt,0<mt/\∀p∈GJ aA i,OnL (vE aA i) W (2*mt) p:=by
   unfold GJ;by_cases L:0<=BP aA i
   ·obtain⟨k,hk⟩:=bh L;obtain⟨g1,g2⟩:=hs k hk;rw[ac L,hk,ag];exact(Qx5 (A:=vE aA i) (B:=vE aA k) (W:=W) G.fr G.to g1.fr g1.to g2 (by grind [G.bJ]) G.bJ.2).1
   rw[ab L,D];refine⟨1,by omega,λp U=> ?_⟩;simp at U;subst U;exact⟨_,Jb (by omega) (PL _ _ (m:=2*1) (by omega)).2 V⟩
  obtain⟨Y,r,O,e1,e2,e3,e4⟩:=M;obtain⟨mt,t1,t2⟩:=N;rw[e1,<-e2];refine⟨r++[AQ (vE aA i)]++GJ aA i,rfl,Zjj (Qji (Qc5 (m:=2*O) I) (e4 _ (by simp)) λq hq=> ?_) (Qji (Qc5 (m:=2*mt) I) (Q2z V t1) t2)⟩
  grind [Q2z]
 rw[ab c,ab (λh=>c h.2)];by_cases I:(vE aA i).aP=3
 ·obtain⟨U,hd,R0,R1,he,a1⟩:=G.arc I;have a2:=Zqj hd he a1;have D:BE (vE aA i)=Bo (vE aA i) (Av (vE aA i) (vE aA i).fr)::(A0 (vE aA i).dir 16 (vE aA i).bI (Av (vE aA i) (vE aA i).fr) (Av (vE aA i) (vE aA i).to)).map (Bo (vE aA i)):=by
   unfold BE Dh;rw[ac I,bz]
  rw[D,<-Zcs G.valid I (vE aA i).fr];simp_all [Qs2]
 have D:BE (vE aA i)=[Am (vE aA i).fr,Am (vE aA i).to]:=by unfold BE;rw[ab I]
 rw[D];refine⟨_,rfl,Qc5 (m:=1) I _ _ ⟨_,Jb (by omega) (PL _ _ (m:=1) (by omega)).1 V⟩ ⟨_,Jb (by omega) (PL _ _ (m:=1) (by omega)).2 V⟩,trivial⟩
def Yc7 {aA:List Itm} {frm:Int} (D:0<=BP aA i):∃l,BL aA i frm=l++[Lb (Fm aA i (BP aA i).toNat)]:=by
 have c:smI (vE aA i):=by
  rcases KQ aA i with h|h
  ·omega
  grind
 unfold BL GJ;obtain⟨r,G⟩:=Zwo (Qyk aA i (BP aA i).toNat)
 grind
end Go.Bm
namespace Go.Bm
def VB (D:0<=a) (h:a<=b):a*a<=b*b:=ai D h
def Zeo {p q e f:Int} (D:0<=q) (he:0<=e) (hf:e<=f) (h:Gr p q e):Gr p q f:=by
 have G:=VB he hf;unfold Gr at*;rw[show 4*e*e=4*(e*e)from jr ..]at h;rw[show 4*f*f=4*(f*f)from jr ..];generalize e*e=s at*;generalize f*f=t at*;by_cases c:p-q-t<=0
 ·omega
 right;rcases h with h|h
 ·omega
 have I:=VB (a:=p-q-t) (b:=p-q-s) (by omega) (by omega);have L:=ap (show 4*s<=4*t by omega) D;omega
theorem Zzf {u w x y e f:Int} (he:0<=e) (hf:e<=f) (h:Ho u w x y e):Ho u w x y f:=by
 have D:=VB he hf;have G:0<=u*u:=by rw[<-bv];omega
 have I:0<=w*w:=by rw[<-bv];omega
 refine⟨h.1,dh h.2 (ap D ?_)⟩
 grind [sq2]
def Zlr (u w:Int):0<=sq2 u w:=by
 have D:0<=u*u:=by rw[<-bv];omega
 have G:0<=w*w:=by rw[<-bv];omega
 grind [sq2]
theorem Zwx {a b p:Pt} {e f:Int} (he:0<=e) (hf:e<=f) (h:IU a b p e):IU a b p f:=by
 have G:=VB he hf;unfold IU at*;split
 ·grind
 rename_i c;rw[ab c]at h;split
 ·grind
 rename_i D;rw[ab D]at h;refine dh (ap ?_ ?_) h
 ·omega
 omega
def Z5j {it:Itm} {e f:Int} (he:0<=e) (hf:e<=f) (h:FR it q e):FR it q f:=by
 refine⟨h.1,?_⟩;have G:=h.2;by_cases D:it.aP=3
 ·rw[ac D]at*;obtain⟨a1,a2,a3,a4,a5⟩:=G;refine⟨Zeo (Zlr _ _) he hf a1,Zeo ?_ he hf a2,by omega,by omega,?_⟩
  ·have:=Zlr (pU it (Am it.fr)) (pW it (Am it.fr));omega
  grind [Zzf]
 rw[ab D]at*
 grind [Zwx]
def Zti (aA:List Itm) (i:Nat) (h:i<aA.length):nth [] (aA.map Ag) i=Ag aA[i]:=IS _ _ _ _ h
def Zvm {aA:List Itm} (N:∀it∈aA,∃v,M (Ag it++[I q.x,I q.y,I q.z,I e])=some [B v]/\(v=true↔FR it q e)) (hl:aA.length<=1000):
  ∃v,Qec M (Ak (Tt M)) [.vC Ae (aA.map Ag),I q.x,I q.y,I q.z,I e]=some [B v]/\(v=true↔∃it∈aA,FR it q e):=by
 have key:∀i:Nat,(i<=aA.length/\∀j (h:j<aA.length),j<i-> ¬FR aA[j] q e)->∃o,Ak (Tt M) [I e, .vC Ae (aA.map Ag),I aA.length,I i,I q.x,I q.y,I q.z]=some o/\o.1≠0/\
   ((o=(1,[B true])/\∃it∈aA,FR it q e)\/(o=(2,[])/\ ¬∃it∈aA,FR it q e)):=by
  refine ZI (S:=Nat) (λi=>[I e, .vC Ae (aA.map Ag),I aA.length,I i,I q.x,I q.y,I q.z]) _ (λi=>aA.length-i) _ ?_;rintro i ⟨hi,O⟩;rw[Z6x];simp only[go_sem,ag,aj];by_cases c:i<aA.length
  case neg=>
   rw[ab]
   grind [List.mem_iff_getElem]
  rw[ac,ac];have U:aA[i]∈aA:=dl c;obtain⟨V,e1,G⟩:=N _ U;have L:=Zti aA i c;simp at e1 L;simp only[L,go_sem,e1];by_cases X:V=true
  ·grind
  rw[ab X,Ad];refine .inl ⟨i+1,rfl,⟨by omega,λj hj Y=> ?_⟩,by omega⟩
  grind
 obtain⟨o,G,h2,h3⟩:=key 0 ⟨by omega,λj _ h=>by omega⟩;rw[Z2b];simp only[aj];have D:Ak (Tt M) [I e, .vC Ae (aA.map Ag),I aA.length,I 0,I q.x,I q.y,I q.z]=some o:=G;rw[D];rcases h3 with⟨rfl,h⟩|⟨rfl,h⟩
 ·simp only[go_sem];grind
 simp only[go_sem];grind
def Yan {aA:List Itm} (D:bd 33554432 q) {e:Int} (he:0<=e/\e<=32000) (G:aA.length<=1000):
  ∃v,NH [.vC Ae (aA.map Ag),I q.x,I q.y,I q.z,I e]=some [B v]/\(v=true↔∃it∈aA,FR it q e):=
 Zvm (λit _=>Z85 it D he) G
end Go.Bm
