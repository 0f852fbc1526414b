/- laid together -/
import Derived.Test.YtommijghjlikkaaGreatPrJf
import Derived.Test.YtommijghjlikkaaGreatMy1
import Derived.Test.YtommijghjlikkaaGreatMx3
import Derived.Test.YtommijghjlikkaaGreatPrAtF
set_option linter.unusedVariables false
set_option linter.unusedSimpArgs false
set_option maxRecDepth 100000
noncomputable section
open Go.IntKind (wrap)
namespace Go.Bm
theorem Z0a {ME MR MG' MB MP MO MU MS MN MX MT MV:Fn} {N3 N16:Lp} {K:Kf} {c:Cv} {E:List Evn}
  (h3:N3 (.view kPt (E.map evR)::I (E.map evR).length::I 0::(Ej++Ad K (IB c)))=some (1,Ej++Ad K (BY c E)))
  (hT:∀c,MT (Ad K c)=some [B (IH K c)]) (hX:∀(c:Cv) (ramp:Int),MX [I c.s0,I c.s1,I c.s2,I c.s3,I ramp]=some [I (spS c ramp).s0,I (spS c ramp).s1,I (spS c ramp).s2,I (spS c ramp).s3])
  (hN:∀c,MN (Ad K c)=some [I (AE c)]) (hS:∀c:Cv,MS [I c.m0,I c.m1,I c.m2,I c.m3,I c.m4,I c.m5]=some [B (FA c)])
  (h1:∀o:Nat×List AC,(∃e,o.2=Ej++Ad K e)->ID N16 o MR ME (I (AE (BY c E))) (Ad K (CA K c E))=some (tkC K c E++Ad K (Ch K c E))):
  ZL ME MR MG' MB MP MO MU MS MN MX MT MV N3 N16 (.view kPt (E.map evR)::Ad K c)=some (tkC K c E++Ad K (Ch K c E)):=by
 refine Eq.trans (Zeh ME MR MG' MB MP MO MU MS MN MX MT MV N3 N16 (E.map evR) K c) ?_;refine eB h3 (eT rfl ?_);unfold CA at h1;generalize tkC K c E=tk at*;generalize Ch K c E=sc at*;generalize BY c E=d at*
 have rest:∀b:Cv,El d=b->AE b=AE d->FA b=FA d->
   ((MT (Ad K (Ce b))).bind fun o => bif !bA o 0 then (MX [I b.s0, I b.s1, I b.s2, I b.s3, I K.ramp]).bind fun o2 => (MN (Ad K { Ce b with s0 := gA o2 0, s1 := gA o2 1, s2 := gA o2 2, s3 := gA o2 3 })).bind fun o3 => (MS [I d.m0, I d.m1, I d.m2, I d.m3, I d.m4, I d.m5]).bind fun o4 => ID N16 (1, Ej ++ Ad K d) MR ME (jA o3 0) (Ad K { Ce b with s0 := gA o2 0, s1 := gA o2 1, s2 := gA o2 2, s3 := gA o2 3, aM := bA o4 0 })
    else(MN (Ad K (Ce b))).bind fun o3=>(MS [I d.m0,I d.m1,I d.m2,I d.m3,I d.m4,I d.m5]).bind fun o4=>ID N16 (1,Ej++Ad K d) MR ME (jA o3 0) (Ad K {Ce b with aM:=bA o4 0}))=some (tk++Ad K sc):=fun b hb hu hs=>by
  have h1:=h1 (1,Ej++Ad K d) ⟨d,rfl⟩;rw[hb]at h1;refine eB (hT (Ce b)) ?_;cases ht:IH K (Ce b)
  ·have e1:EN K (Ce b)=spS (Ce b) K.ramp:=by unfold EN;rw[if_neg (by rw[ht];simp)]
   rw[e1]at h1;refine eT rfl (eB (hX b K.ramp) ?_);refine Eq.trans (congrArg (fun z=>Option.bind z _) (hN (spS (Ce b) K.ramp))) (eB rfl (eB (hS d) ?_));have e2:AE (spS (Ce b) K.ramp)=AE d:=hu;have e3:({spS (Ce b) K.ramp with aM:=FA d}:Cv)=J6 (spS (Ce b) K.ramp):=by
    unfold J6;rw[show FA (spS (Ce b) K.ramp)=FA b from rfl,hs]
   rw[<-e3,<-e2]at h1;exact h1
  ·have e1:EN K (Ce b)=Ce b:=by unfold EN;rw[if_pos ht]
   rw[e1]at h1;refine eF rfl ?_;refine Eq.trans (congrArg (fun z=>Option.bind z _) (hN (Ce b))) (eB rfl (eB (hS d) ?_));have e2:AE (Ce b)=AE d:=hu;have e3:({Ce b with aM:=FA d}:Cv)=J6 (Ce b):=by
    unfold J6;rw[show FA (Ce b)=FA b from rfl,hs]
   rw[<-e3,<-e2]at h1;exact h1
 refine eC (fun t=> ?_) fun t=>eC (fun q=> ?_) fun q=> ?_
 ·have t:d.aH=true:=t;exact rest {d with o2:=true} (by unfold El;rw[if_pos (.inl t)]) rfl rfl
 ·have q:d.g0≠0:=fun e=>by
   have:(d.g0 !=0)=true:=q;rw[bnF e]at this;cases this
  exact rest {d with o2:=true} (by unfold El;rw[if_pos (.inr q)]) rfl rfl
 ·have t:d.aH=false:=t;have q:d.g0=0:=Decidable.byContradiction fun e=>by
   have:(d.g0 !=0)=false:=q;rw[bnT e]at this;cases this
  exact rest d (by unfold El;rw[if_neg (fun w=>by rcases w with w|w;rw[t]at w;cases w;exact w q)]) rfl rfl
structure Kp (c d : Cv) : Prop where
 way:d.way=c.way
 aL:d.aL=c.aL
 aK:d.aK=c.aK
 outs:d.outs=c.outs
theorem Kp.rfl {c:Cv}:Kp c c:=⟨Eq.refl _,Eq.refl _,Eq.refl _,Eq.refl _⟩
theorem Kp.trans {a b c:Cv} (h:Kp a b) (g:Kp b c):Kp a c:=⟨g.way.trans h.way,g.aL.trans h.aL,g.aK.trans h.aK,g.outs.trans h.outs⟩
structure Sm (c d : Cv) : Prop where
 kp:Kp c d
 m0:d.m0=c.m0
 m1:d.m1=c.m1
 m2:d.m2=c.m2
 m3:d.m3=c.m3
 m4:d.m4=c.m4
 on:d.on=c.on
 idx:d.idx=c.idx
 aI:d.aI=c.aI
 aH:d.aH=c.aH
 next:d.next=c.next
theorem Sm.trans {a b c:Cv} (h:Sm a b) (g:Sm b c):Sm a c:=
 ⟨h.kp.trans g.kp,g.m0.trans h.m0,g.m1.trans h.m1,g.m2.trans h.m2,g.m3.trans h.m3,g.m4.trans h.m4,g.on.trans h.on,g.idx.trans h.idx,g.aI.trans h.aI,g.aH.trans h.aH,g.next.trans h.next⟩
theorem Sm.rfl {c:Cv}:Sm c c:=⟨Kp.rfl,Eq.refl _,Eq.refl _,Eq.refl _,Eq.refl _,Eq.refl _,Eq.refl _,Eq.refl _,Eq.refl _,Eq.refl _,Eq.refl _⟩
theorem Gd.sm {K:Kf} {n:Int} {c d:Cv} (g:Gd K n c) (h:Sm c d):Gd K n d:=g.same h.kp.way h.kp.aK h.on h.idx h.m0 h.m1 h.m2
theorem Zmb (c:Cv) (k n:Int):Sm c (evC c k n):=⟨⟨Eq.refl _,Eq.refl _,Eq.refl _,Eq.refl _⟩,Eq.refl _,Eq.refl _,Eq.refl _,Eq.refl _,Eq.refl _,Eq.refl _,Eq.refl _,Eq.refl _,Eq.refl _,Eq.refl _⟩
theorem Q9p:∀(E:List Evn) (c:Cv),Sm c (E.foldl (fun c e=>evC c e.kind e.n) c)
 |[],_=>Sm.rfl
 |e::E,c=>(Zmb c e.kind e.n).trans (Q9p E _)
theorem Zu (c:Cv) (E:List Evn):Sm (IB c) (BY c E):=Q9p E _
theorem Z7t (c:Cv):Sm c (El c):=by
 unfold El;split
 ·exact⟨⟨rfl,rfl,rfl,rfl⟩,rfl,rfl,rfl,rfl,rfl,rfl,rfl,rfl,rfl,rfl⟩
 ·exact Sm.rfl
theorem Zpw (K:Kf) (c:Cv):Sm c (EN K c):=by
 unfold EN;split
 ·exact Sm.rfl
 ·exact⟨⟨rfl,rfl,rfl,rfl⟩,rfl,rfl,rfl,rfl,rfl,rfl,rfl,rfl,rfl,rfl⟩
theorem Td (K:Kf) (c:Cv) (E:List Evn):Sm (IB c) (CA K c E):=
 (Zu c E).trans ((Z7t _).trans (Sm.trans (b:=Ce (El (BY c E))) ⟨⟨rfl,rfl,rfl,rfl⟩,rfl,rfl,rfl,rfl,rfl,rfl,rfl,rfl,rfl,rfl⟩ ((Zpw K _).trans ⟨⟨rfl,rfl,rfl,rfl⟩,rfl,rfl,rfl,rfl,rfl,rfl,rfl,rfl,rfl,rfl⟩)))
theorem Gd.clear {K:Kf} {n:Int} {c:Cv} (g:Gd K n c):Gd K n (IB c):=⟨g.way,g.pass,g.task,g.mo,g.m0⟩
theorem XJ {K:Kf} {n:Int} {c:Cv} (g:Gd K n c) (E:List Evn):Gd K n (CA K c E):=g.clear.sm (Td K c E)
theorem Zma {K:Kf} {n:Int} {c:Cv} (g:Gd K n c):Gd K n (Iz K c).2/\Kp c (Iz K c).2:=by
 have done:∀d:Cv,Gd K n d->Kp c d->Gd K n (H0 d)/\Kp c (H0 d):=fun d g k=>⟨⟨g.way,g.pass,fun h=>(by cases h),g.mo,g.m0⟩,k.trans ⟨rfl,rfl,rfl,rfl⟩⟩;have cmd:∀n' sp:Int,Gd K n (Kw c n' sp)/\Kp c (Kw c n' sp):=fun n' sp=>⟨⟨g.way,g.pass,g.task,g.mo,g.m0⟩,⟨rfl,rfl,rfl,rfl⟩⟩;unfold Iz;split
 ·split
  ·exact done c g Kp.rfl
  ·exact⟨g,Kp.rfl⟩
 ·split
  ·exact done c g Kp.rfl
  ·split
   ·split
    ·exact⟨g,Kp.rfl⟩
    ·exact done c g Kp.rfl
   ·split
    ·split
     ·exact done _ (cmd _ _).1 (cmd _ _).2
     ·exact cmd _ _
    ·split
     ·exact⟨⟨g.way,g.pass,g.task,g.mo,g.m0⟩,⟨rfl,rfl,rfl,rfl⟩⟩
     ·exact done c g Kp.rfl
theorem Qzk {K:Kf} {n:Int} {c:Cv} (g:Gd K n c):Gd K n (Ck K c).2/\Kp c (Ck K c).2:=by
 have h:=Zma (K:=K) (c:=CZ c) ⟨g.way,g.pass,g.task,g.mo,g.m0⟩;exact⟨h.1,h.2.way,h.2.aL,h.2.aK,h.2.outs⟩
theorem Zb3 {K:Kf} {n:Int} {c:Cv} (g:Gd K n c) {i:Int} (h0:0<=i) (h1:i<K.p.aD.length):Gd K n (D0 K c i).2/\Kp c (D0 K c i).2:=by
 have h:=Qzk (K:=K) (c:={c with on:=true,idx:=i,aN:=F9 K c i,cnt:=0}) ⟨g.way,g.pass,fun _=>⟨h0,h1⟩,g.mo,g.m0⟩;exact⟨h.1,⟨h.2.way,h.2.aL,h.2.aK,h.2.outs⟩⟩
theorem My {K:Kf} {n:Int} {c:Cv} (g:Gd K n c):Gd K n (Ds c)/\Kp c (Ds c):=by
 unfold Ds;split
 ·exact⟨⟨g.way,g.pass,g.task,g.mo,g.m0⟩,⟨rfl,rfl,rfl,rfl⟩⟩
 ·exact⟨g,Kp.rfl⟩
theorem Z3t (K:Kf) (c:Cv) (l:Int):Kp c (EM K c l):=⟨rfl,rfl,rfl,rfl⟩
theorem Gd.e0 {K:Kf} {n:Int} {c:Cv} (g:Gd K n c) (x:Int):Gd K n {c with e0:=x}:=⟨g.way,g.pass,g.task,g.mo,g.m0⟩
theorem Gd.s3 {K:Kf} {n:Int} {c:Cv} (g:Gd K n c) (x:Int):Gd K n {c with s3:=x}:=⟨g.way,g.pass,g.task,g.mo,g.m0⟩
theorem Qsg {K:Kf} {n:Int} {c:Cv} (h:KOK K) (g:Gd K n c) (hn:0<=n/\n<=10000) (l:Int) {s:Sgm} (hs:i64 s.lead):Gd K (n+1) (F1 K c l s)/\Kp c (F1 K c l s):=by
 have gp:=Qq7 h g hn l;unfold F1;split
 ·exact⟨gp.s3 _,⟨rfl,rfl,rfl,rfl⟩⟩
 ·obtain⟨-,v,s',b,z,y,e,h2,h3⟩:=Qcq h g l hs;have gm:Gd K (n+1) (Kx c (thO K c l s.lead)):=by
   have e1:gA (thO K c l s.lead) 1=v:=by rw[h2];rfl
   have:=g.move h hn h3;unfold Kx RY;rw[e1];generalize thO K c l s.lead=o;exact this.same rfl rfl rfl rfl rfl rfl rfl
  unfold J4;split
  ·exact⟨gp.e0 3,⟨rfl,rfl,rfl,rfl⟩⟩
  ·split
   ·exact⟨(My gm).1,Kp.trans (b:=Kx c (thO K c l s.lead)) ⟨rfl,rfl,rfl,rfl⟩ (My gm).2⟩
   ·exact⟨gm,⟨rfl,rfl,rfl,rfl⟩⟩
theorem Zgm {K:Kf} {n:Int} {c:Cv} (h:KOK K) (g:Gd K n c) (hn:0<=n/\n<=10000) (l:Int):Gd K (n+1) (F7 K c l)/\Kp c (F7 K c l):=by
 unfold F7;split
 ·exact⟨Qq7 h g hn l,Z3t K c l⟩
 ·rename_i hx;have hl:(sgK K c).lead≠0:=fun e=>hx (.inl e);split
  ·exact Qsg h g hn l (GC h hl).2.2
  ·split
   ·have:=Qsg h (g.go (sgK K c)) hn l (GC h hl).2.2;exact⟨this.1,Kp.trans (b:=goC K c (sgK K c)) ⟨rfl,rfl,rfl,rfl⟩ this.2⟩
   ·split
    ·exact⟨(My (g.up hn.1)).1,(My g).2⟩
    ·exact⟨g.up hn.1,Kp.rfl⟩
theorem Zrw {K:Kf} {n:Int} {c:Cv} (h:KOK K) (g:Gd K n c) (hn:0<=n/\n<=10000):Gd K (n+1) (Dw K c).2/\Kp c (Dw K c).2:=by
 have hi:=Qxu K c;unfold Dw;split
 ·split
  ·rename_i k;have k2:(Bf K c).2<K.p.aD.length:=by
    rcases hi with hi|hi
    ·omega
    ·exact hi.2.2
   have gb:=Zb3 (g.up hn.1) k k2;split
   ·exact⟨(My gb.1).1,gb.2.trans (My gb.1).2⟩
   ·exact gb
  ·split
   ·exact⟨⟨g.way,g.pass,g.task,(g.up hn.1).mo,(g.up hn.1).m0⟩,⟨rfl,rfl,rfl,rfl⟩⟩
   ·exact⟨g.up hn.1,Kp.rfl⟩
 ·exact Zgm h g hn _
theorem Q4q {K:Kf} {n:Int} {c:Cv} (h:KOK K) (g:Gd K n c) (hn:0<=n/\n<=10000):Gd K n (C6 K c).2/\Kp c (C6 K c).2:=by
 unfold C6;split
 ·exact⟨(g.stand h hn).1,⟨rfl,rfl,rfl,rfl⟩⟩
 ·split
  ·exact⟨g,Kp.rfl⟩
  ·split
   ·exact⟨⟨g.way,g.pass,g.task,g.mo,g.m0⟩,⟨rfl,rfl,rfl,rfl⟩⟩
   ·split
    ·exact Qzk g
    ·exact⟨g,Kp.rfl⟩
theorem Qqf {K:Kf} {n:Int} {c:Cv} (h:KOK K) (g:Gd K n c) (hn:0<=n/\n<=10000) (E:List Evn):Gd K (n+1) (stC K c E).2/\Kp (IB c) (stC K c E).2:=by
 have gr:=Q4q h (XJ g E) hn;have kp:=(Td K c E).kp.trans gr.2;unfold stC;split
 ·have:=Zrw h gr.1 hn;exact⟨this.1,kp.trans this.2⟩
 ·exact⟨gr.1.up hn.1,kp⟩
theorem Qb7 (K:Kf) (s:Int):∀(l:List Mrk) (c:Cv),c.aK<=(Ed K s l c).2.aK/\(Ed K s l c).2.aK<=c.aK+l.length
 |[],c=>by simp[Ed]
 |m::l,c=>by
  unfold Ed;split
  ·simp only[List.length_cons];omega
  ·split
   ·have:=Qb7 K s l {c with outs:=swI c.outs (itK K m.item),aK:=c.aK+1};simp only[List.length_cons]at this⊢;omega
   ·have:=Qb7 K s l {c with aK:=c.aK+1};simp only[List.length_cons]at this⊢;omega
theorem Qrt {K:Kf} {n:Int} {c:Cv} (h:KOK K) (g:Gd K n c) (hn:0<=n/\n<=10000) (E:List Evn):Gd K (n+1) (Ch K c E):=by
 have gs:=(Qqf h g hn E).1;unfold Ch;generalize(stC K c E).2=d at*;obtain⟨n',q,e⟩:=RA K d (Bl K d);have hb:=Qb7 K (Bl K d) (K.p.aD.drop d.aK.toNat) d;rw[List.length_drop]at hb;have hb:d.aK<=(B1 K d (Bl K d)).2.aK/\(B1 K d (Bl K d)).2.aK<=d.aK+((K.p.aD.length-d.aK.toNat:Nat):Int):=hb;rw[e]at hb⊢;have hp:=gs.pass;exact⟨gs.way,by dsimp only at hb⊢;omega,gs.task,gs.mo,gs.m0⟩
theorem QR {K:Kf} {c:Cv} {n:Int} (h:KOK K) (g:Gd K n c) (hn:0<=n/\n<=10000) {E:List Evn} (hE:O4 E):
  HY (.view kPt (E.map evR)::Ad K c)=some (tkC K c E++Ad K (Ch K c E)):=by
 have gp:=XJ g E;have gr:=Q4q h gp hn;have gs:=Qqf h g hn E;have hf: -300000000000<=AE (BY c E)/\AE (BY c E)<=300000000000:=Rg (g.clear.sm (Zu c E)) (by omega);refine Z0a (Zhp hE Zyr) (Zen h) Zr8 (TX K) Z10 fun o ho=> ?_;refine Zrj (s:=stC K c E) ho (Zmq _ (Zm4 K _) (Z7w K _) (Z30 K _) (Z4u h gp) (Znc gp.way)) (fun _=>Zd7 h gr.1 hn) rfl ?_;exact Z7a h gs.1 (by omega) gs.2.aL hf
end Go.Bm
noncomputable section
namespace Go.Bm
def J3 (w v:Pt) (u:Int):Rw:=
 (bif v.x !=w.x then [[I u,I 0,I (wrap .i64 (v.x-w.x))]]else [])++((bif v.y !=w.y then [[I u,I 1,I (wrap .i64 (v.y-w.y))]]else [])++(bif v.z !=w.z then [[I u,I 2,I (wrap .i64 (v.z-w.z))]]else []))
def BJ (M:Int->Pt) (f:Int):Nat->Rw
 |0=>[]
 |n+1=>BJ M f n++J3 (M (f+n)) (M (f+n+1)) (f+n+1)
theorem Zkt (w v:Pt) (u:Int):(J3 w v u).length<=3:=by
 unfold J3;cases(v.x !=w.x)<;>cases(v.y !=w.y)<;>cases(v.z !=w.z)<;>simp
theorem Rq (M:Int->Pt) (f:Int):∀n:Nat,(BJ M f n).length<=3*n
 |0=>by simp[BJ]
 |n+1=>by
  have h1:=Rq M f n;have h2:=Zkt (M (f+n)) (M (f+n+1)) (f+n+1);simp only[BJ,List.length_append];omega
theorem Q6l (M:Int->Pt) (f:Int) (n:Nat):∀m:Nat,BJ M f (n+m)=BJ M f n++BJ M (f+n) m
 |0=>by simp[BJ]
 |m+1=>by
  have e:f+((n+m:Nat):Int)=f+n+m:=by omega
  show BJ M f (n+m)++J3 (M (f+((n+m:Nat):Int))) (M (f+((n+m:Nat):Int)+1)) (f+((n+m:Nat):Int)+1)=_;rw[Q6l M f n m,e];simp only[BJ,List.append_assoc]
def clp (t:Trk) (u:Int):Int:=mx 0 (mn u t.length)
theorem RC {t:Trk} (ht:0<=t.length) (u:Int):0<=clp t u/\clp t u<=t.length:=by
 unfold clp mx mn
 (repeat' split)<;>omega
theorem KZ {t:Trk} (ht:0<=t.length) {u v:Int} (h:u<=v):clp t u<=clp t v/\clp t v-clp t u<=v-u:=by
 unfold clp mx mn
 (repeat' split)<;>omega
def CE (M:Int->Pt) (t:Trk) (a b:Int):Rw:=BJ M (clp t a) (clp t b-clp t a).toNat
theorem Zmp {M:Int->Pt} {t:Trk} (ht:0<=t.length) {a b c:Int} (h1:a<=b) (h2:b<=c):CE M t a c=CE M t a b++CE M t b c:=by
 have m1:=KZ ht h1;have m2:=KZ ht h2;unfold CE;have e:(clp t c-clp t a).toNat=(clp t b-clp t a).toNat+(clp t c-clp t b).toNat:=by omega
 rw[e,Q6l];have e2:clp t a+((clp t b-clp t a).toNat:Int)=clp t b:=by omega
 rw[e2]
theorem Qzd {M:Int->Pt} {t:Trk} (ht:0<=t.length) {a b:Int} (h:a<=b):((CE M t a b).length:Int)<=3*(b-a):=by
 have m:=KZ ht h;have l:=Rq M (clp t a) (clp t b-clp t a).toNat;unfold CE;omega
theorem Z6k {M:Fn} {P:Int->Pt} {p:Pth} {x:Ax3} {t:Trk} (hM:∀u,M (pxt p x t [I u])=some (ptR (P u))) (ht:0<=t.length/\t.length<=900000000000000) (a b:Int) (hd:b-a<=1000000000000):
  Sy M (An (P8 M)) (pxt p x t [I a,I b])=some [.view kPt (CE P t a b)]:=by
 rw[Qt9];have hf:=RC ht.1 a;have he:=RC ht.1 b;have hd:clp t b-clp t a<=1000000000000:=by
  by_cases h:a<=b
  ·have:=KZ ht.1 h;omega
  ·have:=KZ (u:=b) (v:=a) ht.1 (by omega);omega
 unfold CE;unfold clp at*;generalize mx 0 (mn a t.length)=f at*;generalize mx 0 (mn b t.length)=e at*;refine eB (hM f) ?_;have key:Out (fun o=>o=(1,[.view kPt (BJ P f (e-f).toNat)])) (An (P8 M) (.view kPt (BJ P f 0)::I e::I (f+((0:Nat):Int))::pxt p x t [I (P (f+((0:Nat):Int))).x,I (P (f+((0:Nat):Int))).y,I (P (f+((0:Nat):Int))).z])):=by
  refine CB (fun n:Nat=> .view kPt (BJ P f n)::I e::I (f+n)::pxt p x t [I (P (f+n)).x,I (P (f+n)).y,I (P (f+n)).z]) (fun n=>n<=(e-f).toNat) (fun n=>(e-f).toNat-n) _ ?_ 0 (by omega);intro n hn;rw[Q0y];try dsimp only[Ls]
  refine .cond (fun c=> ?_) (fun c=> ?_)
  ·have c:=Bp c;rw[Ae (x:=f+(n:Int)+1) (by omega)];refine .bind (p:=fun o=>o=_) ⟨_,hM (f+(n:Int)+1),rfl⟩ fun o e=> ?_;subst e;have e1:wrap .i64 (0+1)=1:=Ae (by omega);have e2:wrap .i64 (1+1)=2:=Ae (by omega);rw[e1,e2];have hl:=Rq P f n;have hs:BJ P f (n+1)=BJ P f n++J3 (P (f+n)) (P (f+n+1)) (f+n+1):=rfl;have hu:f+((n+1:Nat):Int)=f+n+1:=by omega
   unfold J3 at hs;show Out _ (bif(P (f+(n:Int)+1)).x !=(P (f+n)).x then _ else _);generalize BJ P f n=v at*;have fin:∀{y:List AC},y= .view kPt (BJ P f (n+1))::I e::I (f+n+1)::pxt p x t [I (P (f+n+1)).x,I (P (f+n+1)).y,I (P (f+n+1)).z]->Out (fun o:Nat×List AC=>(o.1=0/\∃s':Nat,o.2= .view kPt (BJ P f s')::I e::I (f+s')::pxt p x t [I (P (f+s')).x,I (P (f+s')).y,I (P (f+s')).z]/\s'<=(e-f).toNat/\(e-f).toNat-s'<(e-f).toNat-n)\/(o.1≠0/\o=(1,[.view kPt (BJ P f (e-f).toNat)]))) (some (0,y)):=fun hy=>by
    subst hy;exact .some (.inl ⟨rfl,n+1,by rw[hu],by omega,by omega⟩)
   have big:∀{y:Rw},y.length<=v.length+3->(y.length*24).ble 140737488355328=true:=fun h=>B0 (by omega);generalize BJ P f (n+1)=z at*;generalize P (f+(n:Int)+1)=q at*;generalize P (f+(n:Int))=w at*;refine .cond (fun cx=> ?_) fun cx=> ?_
   ·refine .cond (fun _=> ?_) fun c=>by rw[big (by simp)]at c;cases c
    refine .cond (fun cy=> ?_) fun cy=> ?_
    ·have cy:(q.y !=w.y)=true:=cy;refine .cond (fun _=> ?_) fun c=>by rw[big (by simp)]at c;cases c
     refine .cond (fun cz=> ?_) fun cz=> ?_
     ·have cz:(q.z !=w.z)=true:=cz;refine .cond (fun _=>fin ?_) fun c=>by rw[big (by simp)]at c;cases c
      rw[hs,cx,cy,cz];simp[ptR,gA,nth,Af]
     ·have cz:(q.z !=w.z)=false:=cz;refine fin ?_;rw[hs,cx,cy,cz];simp[ptR,gA,nth,Af]
    ·have cy:(q.y !=w.y)=false:=cy;refine .cond (fun cz=> ?_) fun cz=> ?_
     ·have cz:(q.z !=w.z)=true:=cz;refine .cond (fun _=>fin ?_) fun c=>by rw[big (by simp)]at c;cases c
      rw[hs,cx,cy,cz];simp[ptR,gA,nth,Af]
     ·have cz:(q.z !=w.z)=false:=cz;refine fin ?_;rw[hs,cx,cy,cz];simp[ptR,gA,nth,Af]
   ·refine .cond (fun cy=> ?_) fun cy=> ?_
    ·have cy:(q.y !=w.y)=true:=cy;refine .cond (fun _=> ?_) fun c=>by rw[big (by simp)]at c;cases c
     refine .cond (fun cz=> ?_) fun cz=> ?_
     ·have cz:(q.z !=w.z)=true:=cz;refine .cond (fun _=>fin ?_) fun c=>by rw[big (by simp)]at c;cases c
      rw[hs,cx,cy,cz];simp[ptR,gA,nth,Af]
     ·have cz:(q.z !=w.z)=false:=cz;refine fin ?_;rw[hs,cx,cy,cz];simp[ptR,gA,nth,Af]
    ·have cy:(q.y !=w.y)=false:=cy;refine .cond (fun cz=> ?_) fun cz=> ?_
     ·have cz:(q.z !=w.z)=true:=cz;refine .cond (fun _=>fin ?_) fun c=>by rw[big (by simp)]at c;cases c
      rw[hs,cx,cy,cz];simp[ptR,gA,nth,Af]
     ·have cz:(q.z !=w.z)=false:=cz;refine fin ?_;rw[hs,cx,cy,cz];simp[ptR,gA,nth,Af]
  ·have c:=Bt c;have e1:n=(e-f).toNat:=by omega
   rw[<-e1];exact .some (.inr ⟨by simp,rfl⟩)
 obtain⟨o,h1,rfl⟩:=key;rw[show f+((0:Nat):Int)=f by omega]at h1;exact eB h1 rfl
theorem Qkt {p:Pth} {x:Ax3} {t:Trk} (h:Fix p x t) (a b:Int) (hd:b-a<=1000000000000):G0 (pxt p x t [I a,I b])=some [.view kPt (CE (B4 p x t) t a b)]:=
 Z6k (S9 h) h.t.q.len a b hd
theorem Z2b {K:Kf} (h:KOK K) {a b:Int} (hd:b-a<=1000000000000):JF K a b=CE (B4 K.p K.x K.t) K.t a b:=by
 unfold JF;rw[Qkt h.f a b hd];rfl
end Go.Bm
noncomputable section
namespace Go.Bm
theorem Z5i (a b c:Int) {d:Int} (h:d<=0):GO [I a,I b,I c,I d]=some [I 0]:=by
 show R5 _=_;rw[Xi,Bi (decide_eq_true h)]
theorem Zzx {a b c:Int} (h:Plan3 a b c):Gu [I a,I b,I c,I 0,I 0]=some [B true]:=by
 have key:∀{M:Fn},(∀d:Int,d<=0->M [I a,I b,I c,I d]=some [I 0])->QP M [I a,I b,I c,I 0,I 0]=some [B true]:=by
  intro M hM;have ha:=h.a;have hb:=h.b
  rw[Qjp,Ae (x:=0-a) (by omega)];refine eF (decide_eq_false (by omega)) (eF (decide_eq_false (by omega)) (eT rfl (eF (decide_eq_false (by omega)) ?_)));refine eB (hM _ (by decide)) (eT rfl (eB (hM 0 (by omega)) ?_));rfl
 exact key fun d hd=>Z5i a b c hd
theorem Z4e {a b c:Int} (h:Plan3 a b c):Kz [I a,I b,I c,I 0,I 0]=some [.view Aa [],B true]:=by
 have key:∀{MB MR MV:Fn},MV [I a,I b,I c]=some [B true]->MR [I a,I b,I c,I 0,I 0]=some [B true]->Qu MB MR MV (An (Is MB MR MV)) [I a,I b,I c,I 0,I 0]=some [.view Aa [],B true]:=by
  intro MB MR MV h1 h2;rw[Qnw];refine eB h1 (eF rfl (eB h2 (eF rfl ?_)));have hs:Is MB MR MV [.view Aa [],I 0,I 0,I a,I b,I c]=some (2,[.view Aa []]):=by
   rw[Pz];rfl
  exact eB (A3 hs (by simp)) rfl
 refine key ?_ (Zzx h);rw[PB,decide_eq_true];exact⟨h.a.1,h.a.2,h.b.1,h.b.2,h.c.1,h.c.2⟩
theorem Znd {a b c:Int} (h:Plan3 a b c) (x3 x6 x7 x8:Int):E7 [I a,I b,I c,I x3,I 0,I 0,I x6,I x7,I x8]=some [.view Aa [],B true]:=by
 have key:∀{M:Fn},M [I a,I b,I c,I 0,I 0]=some [.view Aa [],B true]->PV M (An (Mc M)) [I a,I b,I c,I x3,I 0,I 0,I x6,I x7,I x8]=some [.view Aa [],B true]:=by
  intro M h1;rw[Zx];have hs:Mc M [.view Aa [],I x3, .view Aa [],I 0,I 0]=some (1,[.view Aa []]):=by
   rw[Qyk];rfl
  exact eB h1 (eF rfl (eT rfl (eT rfl (eB (A3 hs (by simp)) rfl))))
 exact key (Z4e h)
theorem Z3z {K:Kf} (h:Plan3 K.pa K.pb K.pc) {c:Cv} (h1:c.m1=0) (h2:c.m2=0):SZ K c=c.m0:=by
 have key:∀{M:Fn},M [I K.pa,I K.pb,I K.pc,I c.m0,I 0,I 0,I c.m3,I c.m4,I c.m5]=some [.view Aa [],B true]->On M [I K.pa,I K.pb,I K.pc,I c.m0,I 0,I 0,I c.m3,I c.m4,I c.m5]=some [I c.m0,B true]:=by
  intro M hM;rw[Vg];exact eB hM (eF rfl (eT rfl rfl))
 have e:FB [I K.pa,I K.pb,I K.pc,I c.m0,I 0,I 0,I c.m3,I c.m4,I c.m5]=some [I c.m0,B true]:=key (Znd h _ _ _ _);unfold SZ one;rw[h1,h2,e];rfl
abbrev TJ:Axs:=⟨8,10,10,10,-16777216,16777216,0,0,0,[]⟩
theorem ZK:AxOK TJ:=⟨by decide,by decide,by decide,fun h=>absurd rfl h,⟨fun x h=>(by cases h),fun i h=>(by simp at h)⟩,by decide,by decide⟩
abbrev KY:Ax3:=⟨TJ,TJ,TJ⟩
theorem machX:MachOK KY 9 3 100 1 0:=⟨⟨ZK,ZK,ZK⟩,⟨by decide,by decide,by decide⟩,by decide,by decide⟩
abbrev BV:Itm:=⟨12,0,⟨0,0,0⟩,⟨0,0,0⟩,0,⟨0,0,0⟩,0,false,0,false,0,0,0,0,0,false⟩
theorem Qw8:Items 4084 ⟨0,0,0⟩ []:=⟨trivial,fun it h=>by cases h⟩
theorem Zg9:Items 4084 ⟨0,0,0⟩ [BV]:=by
 have h:=O0 Qw8 (it:=BV) (fun h=>by unfold AG at h;simp at h) (.inr ⟨by decide,fun h=>by simp at h,fun h=>by simp at h,fun h=>by simp at h⟩);exact h
abbrev kX (l:List Itm):Kf:=kfP KY 9 3 100 1 0 l true
theorem Qk7 {l:List Itm} (h:(A6 l).aF=[]) (c:Cv):IH (kX l) c=false:=by
 unfold IH Fv;rw[h];rfl
theorem gd0 (l:List Itm):Gd (kX l) 0 Cn:=⟨rfl,⟨by decide,by simp⟩,fun h=>(by cases h),Yj machX.plan,by decide⟩
theorem Qdp:A6 []=⟨⟨0,0,0⟩,[],[]⟩:=rfl
theorem T_:A6 [BV]=⟨⟨0,0,0⟩,[],[⟨0,3,0⟩]⟩:=by
 have e:Aw [BV] 1=⟨[],[⟨0,3,0⟩],0,0,-1,false,⟨0,0,0⟩,⟨0,0,0⟩⟩:=by
  rw[Aw,Aw];unfold Fy;rw[if_neg (by decide)];rfl
 show Pth.mk (Aw [BV] 1).start (Aw [BV] 1).aF (Aw [BV] 1).aD=_;rw[e]
theorem Q7f {p:Pth} (h:p.aF=[]):ER p KY ⟨1,1,1⟩ 0 (AX p.aF)=⟨[],0,0,⟨1,1,1⟩⟩:=by
 unfold ER;rw[h];rfl
theorem kX0:kX []=⟨KY,9,3,100,1,0,[],true,⟨⟨0,0,0⟩,[],[]⟩,0,Jh [],⟨[],0,0,⟨1,1,1⟩⟩⟩:=by
 show Kf.mk _ _ _ _ _ _ _ _ _ _ _ _=_;rw[Q7f (p:=A6 []) (by rw[Qdp]),Qdp];rfl
theorem kX1:kX [BV]=⟨KY,9,3,100,1,0,[BV],true,⟨⟨0,0,0⟩,[],[⟨0,3,0⟩]⟩,0,Jh [BV],⟨[],0,0,⟨1,1,1⟩⟩⟩:=by
 show Kf.mk _ _ _ _ _ _ _ _ _ _ _ _=_;rw[Q7f (p:=A6 [BV]) (by rw[T_]),T_];rfl
abbrev Jj:Cv:={Cn with aM:=true}
theorem Qsq {K:Kf} (ht:∀c,IH K c=false) (hr:K.ramp=1):CA K Cn []=Jj:=by
 show J6 (EN K (Ce (El Cn)))=_;unfold EN;rw[if_neg (by rw[ht];simp),hr];rfl
theorem Zpt:(stC (kX []) Cn []).1=7:=by
 have e:=Qsq (Qk7 (l:=[]) (by rw[Qdp])) rfl;have er:C6 (kX []) Jj=(0,Jj):=rfl;unfold stC;rw[e,er,if_pos rfl];have el:Bf (kX []) Jj=(0,-1):=by
  rw[kX0];unfold Bf BO;rfl
 unfold Dw;rw[el];rfl
abbrev Kb:Cv:={Jj with on:=true,idx:=0,aN:=true,cnt:=1}
theorem st1:stC (kX [BV]) Cn []=(2,Kb):=by
 have e:=Qsq (Qk7 (l:=[BV]) (by rw[T_])) rfl;have er:C6 (kX [BV]) Jj=(0,Jj):=rfl;unfold stC;rw[e,er,if_pos rfl];have el:Bf (kX [BV]) Jj=(0,0):=by
  have e2:=Z3z (K:=kX [BV]) machX.plan (c:=Jj) rfl rfl;unfold Bf;rw[e2,kX1];rfl
 unfold Dw;rw[el,kX1];rfl
theorem Q67:Ch (kX [BV]) Cn []=Kb:=by
 unfold Ch;rw[st1,kX1];rfl
theorem Z0x:(stC (kX [BV]) Kb [⟨0,4,0⟩]).1=3:=by
 have ht:=Qk7 (l:=[BV]) (by rw[T_]);have e:CA (kX [BV]) Kb [⟨0,4,0⟩]=J6 (spS (Ce (El (BY Kb [⟨0,4,0⟩]))) 1):=by
  unfold CA EN;rw[if_neg (by rw[ht];simp)]
 unfold stC;rw[e,kX1];rfl
theorem Qq6 (K:Kf) (c:Cv) (E:List Evn) (l:List AC):gA (tkC K c E++l) 2=(stC K c E).1:=rfl
theorem Q1a:O4 []:=⟨by simp,fun e h=>by cases h⟩
theorem Zrk {MS MN:Fn}
  (h0:MN (AF KY++[I 9,I 3,I 100,I 1,I 0]++[.view Al (([]:List Itm).map Ah),B true])=some (I 0::Ad (kX []) Cn))
  (h1:MN (AF KY++[I 9,I 3,I 100,I 1,I 0]++[.view Al ([BV].map Ah),B true])=some (I 0::Ad (kX [BV]) Cn))
  (hs0:∃l,MS (.view kPt (([]:List Evn).map evR)::Ad (kX []) Cn)=some l/\gA l 2=7)
  (hs1:∃l,MS (.view kPt (([]:List Evn).map evR)::Ad (kX [BV]) Cn)=some (l++Ad (kX [BV]) Kb)/\l.length=9/\gA l 2=2)
  (hs2:∃l,MS (.view kPt ([(⟨0,4,0⟩:Evn)].map evR)::Ad (kX [BV]) Kb)=some l/\gA l 2=3):
  Wj MS MN []=some [B true]:=by
 rw[Z3x];obtain⟨l0,s0,m0⟩:=hs0;obtain⟨l1,s1,n1,m1⟩:=hs1;obtain⟨l2,s2,m2⟩:=hs2
 match l1,n1 with
 |[a0,a1,a2,a3,a4,a5,a6,a7,a8],_=>
  refine eB h0 (eB h1 (eF rfl (eF rfl (eB s0 (eT (beT m0) (eB s1 (eT (beT m1) (eB s2 ?_))))))));rw[m2];rfl
theorem Q0e:OQ []=some [B true]:=by
 have n0:=Qbs machX (aA:=[]) (by simp) Qw8 true;have n1:=Qbs machX (aA:=[BV]) (by simp) Zg9 true;have z0:=QR n0.2 (gd0 []) (by omega) Q1a;have z1:=QR n1.2 (gd0 [BV]) (by omega) Q1a;have g1:Gd (kX [BV]) 1 Kb:=by
  have:=Qrt n1.2 (gd0 [BV]) (by omega) [];rw[Q67]at this;exact this
 have z2:=QR n1.2 g1 (by omega) (E:=[⟨0,4,0⟩]) ⟨by simp,fun e h=>by simp at h;subst h;simp⟩;rw[Q67]at z1;exact Zrk n0.1 n1.1 ⟨_,z0,(Qq6 _ _ _ _).trans Zpt⟩ ⟨_,z1,rfl,by show(stC (kX [BV]) Cn []).1=2;rw[st1]⟩ ⟨_,z2,(Qq6 _ _ _ _).trans Z0x⟩
end Go.Bm
noncomputable section
namespace Go.Bm
theorem Zdh (K:Kf) (c:Cv) (E:List Evn):Bl K (Ch K c E)=Bl K (stC K c E).2/\Nc K (Ch K c E)=Nc K (stC K c E).2/\(Ch K c E).g0=(stC K c E).2.g0/\(Ch K c E).g1=(stC K c E).2.g1/\(Ch K c E).m0=(stC K c E).2.m0:=by
 unfold Ch;obtain⟨n,q,e⟩:=RA K (stC K c E).2 (Bl K (stC K c E).2);rw[e];exact⟨rfl,rfl,rfl,rfl,rfl⟩
theorem Z1q {c d:Cv} (h:Sm c d):AE d=AE c:=by
 show wrap .i64 (d.m0.tdiv 256)=wrap .i64 (c.m0.tdiv 256);rw[h.m0]
abbrev atE (E:List Evn) (k:Int):List Evn:=E.filter fun e=>e.cycle==k
theorem R4 {E:List Evn} {k:Int} {e:Evn} (h:e∈atE E k):e∈E:=(List.mem_filter.1 h).1
theorem Zgb (E:List Evn) (k:Int):(atE E k).length<=E.length:=List.length_filter_le _ _
structure Tk (K : Kf) (o : List AC) (c : Cv) (s : Int) (m : Pt) : Prop where
 ex:∃(pul outs:Rw) (mode sp ft:Int),o=O7 pul outs mode s m sp ft++Ad K c
def CN (K:Kf) (E:List Evn):Nat->Cv
 |0=>Cn
 |k+1=>Ch K (CN K E k) (atE E k)
theorem gdK {K:Kf} (h:KOK K):Gd K 0 Cn:=⟨rfl,⟨by decide,by simp⟩,fun h=>(by cases h),Yj h.plan,by decide⟩
theorem Q4 {K:Kf} (h:KOK K) (E:List Evn):∀k:Nat,k<=10000->Gd K k (CN K E k)
 |0,_=>gdK h
 |k+1,hk=>Qrt h (Q4 h E k (by omega)) (by omega) _
end Go.Bm
noncomputable section
namespace Go.Bm
structure Cm (c : Cv) : Prop where
 on:c.on=true->c.m1=0
 aI:c.aI≠0->c.m1=0
 aH:c.aH=false
structure Mt (c d : Cv) : Prop where
 m0:d.m0=c.m0
 m1:d.m1=c.m1
 m2:d.m2=c.m2
 aH:d.aH=c.aH
 g0:d.g0=c.g0
 g1:d.g1=c.g1
 g2:d.g2=c.g2
 o2:d.o2=c.o2
theorem Mt.rfl {c:Cv}:Mt c c:=⟨Eq.refl _,Eq.refl _,Eq.refl _,Eq.refl _,Eq.refl _,Eq.refl _,Eq.refl _,Eq.refl _⟩
theorem Mt.trans {a b c:Cv} (h:Mt a b) (g:Mt b c):Mt a c:=
 ⟨g.m0.trans h.m0,g.m1.trans h.m1,g.m2.trans h.m2,g.aH.trans h.aH,g.g0.trans h.g0,g.g1.trans h.g1,g.g2.trans h.g2,g.o2.trans h.o2⟩
theorem Mt.cm {c d:Cv} (h:Mt c d) (h1:c.m1=0) (ht:c.aH=false):Cm d:=
 ⟨fun _=>h.m1.trans h1,fun _=>h.m1.trans h1,h.aH.trans ht⟩
theorem Zeu (K:Kf) (c:Cv):Mt c (Iz K c).2:=by
 have done:∀d:Cv,Mt c d->Mt c (H0 d):=fun d k=>k.trans ⟨rfl,rfl,rfl,rfl,rfl,rfl,rfl,rfl⟩;have cmd:∀n' sp:Int,Mt c (Kw c n' sp):=fun n' sp=>⟨rfl,rfl,rfl,rfl,rfl,rfl,rfl,rfl⟩;unfold Iz;split
 ·split
  ·exact done c Mt.rfl
  ·exact Mt.rfl
 ·split
  ·exact done c Mt.rfl
  ·split
   ·split
    ·exact Mt.rfl
    ·exact done c Mt.rfl
   ·split
    ·split
     ·exact done _ (cmd _ _)
     ·exact cmd _ _
    ·split
     ·exact⟨rfl,rfl,rfl,rfl,rfl,rfl,rfl,rfl⟩
     ·exact done c Mt.rfl
theorem Ta (K:Kf) (c:Cv):Mt c (Ck K c).2:=Mt.trans (b:=CZ c) ⟨rfl,rfl,rfl,rfl,rfl,rfl,rfl,rfl⟩ (Zeu K _)
theorem Qmm (K:Kf) (c:Cv) (i:Int):Mt c (D0 K c i).2:=Mt.trans (b:={c with on:=true,idx:=i,aN:=F9 K c i,cnt:=0}) ⟨rfl,rfl,rfl,rfl,rfl,rfl,rfl,rfl⟩ (Ta K _)
structure Os (c d : Cv) : Prop where
 on:d.on=c.on
 aI:d.aI=c.aI
 aH:d.aH=c.aH
 gu:(d.g0=c.g0/\d.g1=c.g1/\d.g2=c.g2)\/(c.g0=0/\d.g0=1/\d.g1=18)
theorem Os.trans {a b c:Cv} (h:Os a b) (g:Os b c):Os a c:=by
 refine⟨g.on.trans h.on,g.aI.trans h.aI,g.aH.trans h.aH,?_⟩;rcases h.gu with⟨h0,h1,h2⟩|⟨h0,h1,h2⟩<;>rcases g.gu with⟨k0,k1,k2⟩|⟨k0,k1,k2⟩
 ·exact .inl ⟨k0.trans h0,k1.trans h1,k2.trans h2⟩
 ·exact .inr ⟨h0.symm.trans k0,k1,k2⟩
 ·exact .inr ⟨h0,k0.trans h1,k1.trans h2⟩
 ·omega
theorem Xn (c:Cv):Os c (Ds c):=by
 unfold Ds;split
 ·rename_i h;exact⟨rfl,rfl,rfl, .inr ⟨h,rfl,rfl⟩⟩
 ·exact⟨rfl,rfl,rfl, .inl ⟨rfl,rfl,rfl⟩⟩
theorem Qeu (K:Kf) (c:Cv) (l:Int):Os c (EM K c l):=⟨rfl,rfl,rfl, .inl ⟨rfl,rfl,rfl⟩⟩
theorem Q92 (c:Cv) (o:List AC):Os c (Kx c o):=⟨rfl,rfl,rfl, .inl ⟨rfl,rfl,rfl⟩⟩
theorem Q0z (K:Kf) (c:Cv) (l:Int) (s:Sgm):Os c (F1 K c l s):=by
 unfold F1;split
 ·exact(Qeu K c l).trans ⟨rfl,rfl,rfl, .inl ⟨rfl,rfl,rfl⟩⟩
 ·unfold J4;split
  ·exact(Qeu K c l).trans ⟨rfl,rfl,rfl, .inl ⟨rfl,rfl,rfl⟩⟩
  ·split
   ·exact(Q92 c _).trans (Xn _)
   ·exact Q92 c _
theorem Zm3 (K:Kf) (c:Cv) (l:Int):Os c (F7 K c l):=by
 unfold F7;split
 ·exact Qeu K c l
 ·split
  ·exact Q0z K c l _
  ·split
   ·exact Os.trans (b:=goC K c (sgK K c)) ⟨rfl,rfl,rfl, .inl ⟨rfl,rfl,rfl⟩⟩ (Q0z K _ l _)
   ·split
    ·exact Xn c
    ·exact⟨rfl,rfl,rfl, .inl ⟨rfl,rfl,rfl⟩⟩
def Gg (c:Cv):Prop:=(c.g0=0/\c.g1=0/\c.g2= -1)\/(c.g0=1/\c.g1=18)
theorem Os.gg {c d:Cv} (h:Os c d) (g:Gg c):Gg d:=by
 rcases h.gu with⟨h0,h1,h2⟩|⟨h0,h1,h2⟩
 ·unfold Gg;rw[h0,h1,h2];exact g
 ·exact .inr ⟨h1,h2⟩
theorem Mt.gg {c d:Cv} (h:Mt c d) (g:Gg c):Gg d:=by unfold Gg;rw[h.g0,h.g1,h.g2];exact g
theorem Os.cm {c d:Cv} (h:Os c d) (h1:c.on=false) (h2:c.aI=0) (ht:c.aH=false):Cm d:=
 ⟨fun e=>(by rw[h.on,h1]at e;cases e),fun e=>absurd (h.aI.trans h2) e,h.aH.trans ht⟩
theorem Z2e (K:Kf) {c:Cv} (hs:c.aM=true->c.m1=0) (h1:c.on=false) (h2:c.aI=0) (ht:c.aH=false):Cm (Dw K c).2/\(Gg c->Gg (Dw K c).2):=by
 unfold Dw;split
 ·rename_i h;have m:=hs h.1;split
  ·split
   ·have b:=Qmm K c (Bf K c).2;have f:=Xn (D0 K c (Bf K c).2).2;refine⟨?_,fun g=>f.gg (b.gg g)⟩;have e:(Ds (D0 K c (Bf K c).2).2).m1=0:=by
     unfold Ds;split
     ·exact b.m1.trans m
     ·exact b.m1.trans m
    exact⟨fun _=>e,fun _=>e,f.aH.trans (b.aH.trans ht)⟩
   ·have b:=Qmm K c (Bf K c).2;exact⟨b.cm m ht,b.gg⟩
  ·split
   ·exact⟨⟨fun _=>m,fun _=>m,ht⟩,id⟩
   ·exact⟨⟨fun _=>m,fun _=>m,ht⟩,id⟩
 ·have o:=Zm3 K c (Bf K c).1;exact⟨o.cm h1 h2 ht,o.gg⟩
theorem Zo1 (K:Kf) (c:Cv) (E:List Evn):(CA K c E).aM=true->(CA K c E).m1=0:=by
 unfold CA J6;generalize EN K (Ce (El (BY c E)))=d;intro h;have h:FA d=true:=h;unfold FA at h;rw[Bool.and_eq_true]at h;exact eq_of_beq h.1
theorem Zb9 {K:Kf} {c:Cv} (h:Cm c) (E:List Evn):Cm (CA K c E):=by
 have s:=Td K c E;exact⟨fun e=>s.m1.trans (h.on (s.on.symm.trans e)),fun e=>s.m1.trans (h.aI fun q=>e (s.aI.trans q)),s.aH.trans h.aH⟩
theorem Zs2 {K:Kf} {c:Cv} (h:Cm c) (E:List Evn):Cm (stC K c E).2/\(Gg (CA K c E)->Gg (stC K c E).2):=by
 have hp:=Zb9 (K:=K) h E;have hs:=Zo1 K c E;unfold stC;generalize CA K c E=d at*;unfold C6;by_cases c1:d.g0=2
 ·rw[if_pos c1,if_neg (by simp)];exact⟨⟨fun _=>rfl,fun _=>rfl,hp.aH⟩,id⟩
 ·rw[if_neg c1];by_cases c2:d.aI≠0
  ·rw[if_pos c2,if_neg c2];exact⟨hp,id⟩
  ·rw[if_neg c2,if_neg (show¬(d.aH=true/\d.aM=true)from fun w=>by have:=w.1;rw[hp.aH]at this;cases this)];by_cases c3:d.on=true
   ·rw[if_pos c3,if_neg (show¬(Ck K d).1=0 from Qwv K _)];exact⟨(Ta K d).cm (hp.on c3) hp.aH,(Ta K d).gg⟩
   ·rw[if_neg c3,if_pos rfl];exact Z2e K hs (by simpa using c3) (Decidable.not_not.1 c2) hp.aH
theorem Zve {K:Kf} {c:Cv} (h:Cm c) (E:List Evn):Cm (Ch K c E)/\(Gg (CA K c E)->Gg (Ch K c E)):=by
 have hs:=Zs2 (K:=K) h E;unfold Ch;generalize(stC K c E).2=d at*;obtain⟨n,q,e⟩:=RA K d (Bl K d);rw[e];exact⟨⟨hs.1.on,hs.1.aI,hs.1.aH⟩,hs.2⟩
theorem Zv6 {c:Cv} {k n:Int} (hk:k<=6):(evC c k n).g0=c.g0/\(evC c k n).g1=c.g1/\(evC c k n).g2=c.g2:=by
 have hs:Hw k n=false:=by
  unfold Hw;rw[beF (show k≠9 by omega),beF (show k≠8 by omega)];rfl
 refine⟨?_,?_,?_⟩
 ·show(if k=10 then 2 else if k=11 then 0 else if Hw k n=true then(if c.g0=2 then 2 else 1)else c.g0)=_;rw[if_neg (by omega),if_neg (by omega),if_neg (by rw[hs];simp)]
 ·show(if k=10 then 22 else if k=11 then 0 else if Hw k n=true/\c.g0≠2/\c.g1=0 then(if k=9 then 21 else 20)else c.g1)=_;rw[if_neg (by omega),if_neg (by omega),if_neg (by rw[hs];simp)]
 ·show(if k=10 then-1 else if k=11 then-1 else if Hw k n=true/\c.g0≠2/\c.g1=0 then(if k=9 then-1 else n)else c.g2)=_;rw[if_neg (by omega),if_neg (by omega),if_neg (by rw[hs];simp)]
theorem Q0l:∀(E:List Evn) (c:Cv),(∀e∈E,e.kind<=6)->(E.foldl (fun c e=>evC c e.kind e.n) c).g0=c.g0/\(E.foldl (fun c e=>evC c e.kind e.n) c).g1=c.g1/\(E.foldl (fun c e=>evC c e.kind e.n) c).g2=c.g2
 |[],c,_=>⟨rfl,rfl,rfl⟩
 |e::E,c,hk=>by
  have h:=Q0l E (evC c e.kind e.n) fun x hx=>hk x (by simp[hx]);have g:=Zv6 (c:=c) (k:=e.kind) (n:=e.n) (hk e (by simp));exact⟨h.1.trans g.1,h.2.1.trans g.2.1,h.2.2.trans g.2.2⟩
theorem Zhi (K:Kf) (c:Cv) (E:List Evn):(CA K c E).g0=(BY c E).g0/\(CA K c E).g1=(BY c E).g1/\(CA K c E).g2=(BY c E).g2/\((BY c E).g0≠0->(CA K c E).o2=true):=by
 unfold CA;generalize BY c E=d;have h1:(El d).g0=d.g0/\(El d).g1=d.g1/\(El d).g2=d.g2/\(d.g0≠0->(El d).o2=true):=by
  unfold El;split
  ·exact⟨rfl,rfl,rfl,fun _=>rfl⟩
  ·rename_i h;exact⟨rfl,rfl,rfl,fun e=>absurd (.inr e) h⟩
 have h2:∀d:Cv,(EN K d).g0=d.g0/\(EN K d).g1=d.g1/\(EN K d).g2=d.g2/\(EN K d).o2=d.o2:=fun d=>by
  unfold EN;split
  ·exact⟨rfl,rfl,rfl,rfl⟩
  ·exact⟨rfl,rfl,rfl,rfl⟩
 have h3:=h2 (Ce (El d));exact⟨h3.1.trans h1.1,h3.2.1.trans h1.2.1,h3.2.2.1.trans h1.2.2.1,fun e=>h3.2.2.2.trans (h1.2.2.2 e)⟩
theorem Qv9 {K:Kf} {c:Cv} {E:List Evn} (hk:∀e∈E,e.kind<=6) (h:Gg c):Gg (CA K c E):=by
 have g:=Zhi K c E;have f:=Q0l E (IB c) hk;unfold Gg;rw[g.1,g.2.1,g.2.2.1];unfold BY;rw[f.1,f.2.1,f.2.2];exact h
theorem cm0:Cm Cn:=⟨fun h=>(by cases h),fun _=>rfl,rfl⟩
theorem WA {K:Kf} {E:List Evn} (hk:∀e∈E,e.kind<=6):∀k:Nat,Cm (CN K E k)/\Gg (CN K E k)
 |0=>⟨cm0, .inl ⟨rfl,rfl,rfl⟩⟩
 |k+1=>by
  have h:=WA (K:=K) hk k;have s:=Zve (K:=K) h.1 (atE E k);exact⟨s.1,s.2 (Qv9 (fun e he=>hk e (R4 he)) h.2)⟩
theorem Q16 (K:Kf) (c:Cv):MY (Ad K c)=some (I c.m0::I c.m1::I c.m2::I c.m3::I c.m4::I c.m5::Ad K c):=Zer K c
end Go.Bm
noncomputable section
namespace Go.Bm
theorem Qz9 {K:Kf} (h:KOK K) {n:Int} {c:Cv} (g:Gd K n c) (hn:0<=n/\n<=10000) {v:Int} (hv:(Bg K.pa K.pb v (wrap .i64 (v-c.m1))).2=true\/∃r:Int,v=wrap .i64 (c.m1+r)/\r=AK K.pa K.pb c.m1 c.m2):c.m0<=wrap .i64 (c.m0+v):=by
 have h0:=g.m0;have hr:=It h.plan (IS.1 (Q4e h g.mo hv)).1;rw[Ae (by omega)];omega
theorem Q7v {K:Kf} (h:KOK K) {n:Int} {c:Cv} (g:Gd K n c) (hn:0<=n/\n<=10000) (l:Int):c.m0<=(EM K c l).m0:=Qz9 h g hn (Qpv h g l).2
theorem W2 (c:Cv):(Ds c).m0=c.m0:=by unfold Ds;split<;>rfl
theorem Q5k {K:Kf} (h:KOK K) {n:Int} {c:Cv} (g:Gd K n c) (hn:0<=n/\n<=10000) (l:Int) {s:Sgm} (hs:i64 s.lead):c.m0<=(F1 K c l s).m0:=by
 have gp:=Q7v h g hn l;unfold F1;split
 ·exact gp
 ·unfold J4;split
  ·exact gp
  ·obtain⟨-,v,s',b,z,y,e,h2,h3⟩:=Qcq h g l hs;have e1:gA (thO K c l s.lead) 1=v:=by rw[h2];rfl
   have up:=Qz9 h g hn h3;have e2:(Kx c (thO K c l s.lead)).m0=wrap .i64 (c.m0+v):=by
    show wrap .i64 (c.m0+gA (thO K c l s.lead) 1)=_;rw[e1]
   split
   ·rw[W2,e2];exact up
   ·rw[e2];exact up
theorem Z3e {K:Kf} (h:KOK K) {n:Int} {c:Cv} (g:Gd K n c) (hn:0<=n/\n<=10000) (l:Int):c.m0<=(F7 K c l).m0:=by
 unfold F7;split
 ·exact Q7v h g hn l
 ·rename_i hx;have hl:(sgK K c).lead≠0:=fun e=>hx (.inl e);split
  ·exact Q5k h g hn l (GC h hl).2.2
  ·split
   ·exact Q5k h (g.go (sgK K c)) hn l (GC h hl).2.2
   ·split
    ·rw[W2];exact Int.le_refl _
    ·exact Int.le_refl _
theorem Zrf {K:Kf} (h:KOK K) {n:Int} {c:Cv} (g:Gd K n c) (hn:0<=n/\n<=10000):c.m0<=(Dw K c).2.m0:=by
 unfold Dw;split
 ·have b:=Qmm K c (Bf K c).2;split
  ·split
   ·rw[W2,b.m0];exact Int.le_refl _
   ·rw[b.m0];exact Int.le_refl _
  ·split
   ·exact Int.le_refl _
   ·exact Int.le_refl _
 ·exact Z3e h g hn _
theorem Zin {K:Kf} (h:KOK K) {n:Int} {c:Cv} (g:Gd K n c) (hn:0<=n/\n<=10000) (E:List Evn) (hg:(CA K c E).g0≠2):c.m0<=(stC K c E).2.m0:=by
 have gd:=XJ g E;have e0:(CA K c E).m0=c.m0:=(Td K c E).m0;rw[<-e0];unfold stC;generalize CA K c E=d at*;unfold C6;rw[if_neg hg];by_cases c2:d.aI≠0
 ·rw[if_pos c2,if_neg c2];exact Int.le_refl _
 ·rw[if_neg c2];by_cases c4:d.aH=true/\d.aM=true
  ·rw[if_pos c4,if_neg (by simp)];exact Int.le_refl _
  ·rw[if_neg c4];by_cases c3:d.on=true
   ·rw[if_pos c3,if_neg (show¬(Ck K d).1=0 from Qwv K _),(Ta K d).m0];exact Int.le_refl _
   ·rw[if_neg c3,if_pos rfl];exact Zrf h gd hn
theorem Gg.ne2 {c:Cv} (h:Gg c):c.g0≠2:=by rcases h with h|h<;>omega
theorem Q02 {K:Kf} (h:KOK K) {n:Int} {c:Cv} (g:Gd K n c) (hn:0<=n/\n<=10000) {E:List Evn} (hk:∀e∈E,e.kind<=6) (hg:Gg c):
  c.m0<=(Ch K c E).m0/\JF K (AE (BY c E)) (AE (stC K c E).2)=CE (B4 K.p K.x K.t) K.t (AE c) (AE (Ch K c E)):=by
 have up:=Zin h g hn E (Qv9 (K:=K) hk hg).ne2;have e0:=(Zdh K c E).2.2.2.2;have eu:AE (Ch K c E)=AE (stC K c E).2:=by
  show wrap .i64 ((Ch K c E).m0.tdiv 256)=wrap .i64 ((stC K c E).2.m0.tdiv 256);rw[e0]
 refine⟨by rw[e0];exact up,?_⟩;have b1:=Rg g (by omega);have b2:=Rg (Qqf h g hn E).1 (by omega);rw[eu,show AE (BY c E)=AE c from Z1q (c:=IB c) (Zu c E)];exact Z2b h (by omega)
theorem Q97 {K:Kf} {n m:Int} {c d:Cv} (gc:Gd K n c) (gd:Gd K m d) (hn:0<=n/\n<=10000) (hm:0<=m/\m<=10000) (h0:0<=c.m0) (h:c.m0<=d.m0):0<=AE c/\AE c<=AE d/\AE d<=65536*m:=by
 have h1:=gc.m0;have h2:=gd.m0;have e1:AE c=c.m0/256:=by
  show wrap .i64 (c.m0.tdiv 256)=_;rw[Int.tdiv_eq_ediv_of_nonneg h0,Ae (by omega)]
 have e2:AE d=d.m0/256:=by
  show wrap .i64 (d.m0.tdiv 256)=_;rw[Int.tdiv_eq_ediv_of_nonneg (by omega),Ae (by omega)]
 omega
end Go.Bm
noncomputable section
namespace Go.Bm
theorem Zra {x0 x1 x2:Rw} (h0:Src x0) (h1:Src x1) (h2:Src x2) (hl:x2.length<=100000) {most:Int} (hm:most<=12) (fin:Bool) (closed:Bool):
  ∃K:Kf,KOK K/\LX [.view Aa x1, .view Aa x2]=some (AF K.x++[I K.pa,I K.pb,I K.pc,I K.ramp,I K.lag])/\La [.view Aa x0,I most,B fin]=some [.view Al (K.aA.map Ah)]/\
   Ie (AF K.x++[I K.pa,I K.pb,I K.pc,I K.ramp,I K.lag]++[.view Al (K.aA.map Ah),B closed])=some (I 0::Ad K Cn):=by
 obtain⟨x,a,b,c,ramp,lag,hQ,hM⟩:=Z7j h1 h2 hl;obtain⟨p,aA,hI,hit,hlen,-⟩:=Zm0 h0 (most:=most) (by omega) fin;have hn:=Qbs hM (aA:=aA) (by omega) hit closed;exact⟨kfP x a b c ramp lag aA closed,hn.2,hQ,hI,hn.1⟩
end Go.Bm
noncomputable section
namespace Go.Bm
theorem Za3 {t:Trk} (ht:0<=t.length) (u:Int):mn (mx u 0) t.length=mx 0 (mn u t.length):=by
 unfold mx mn
 (repeat' split)<;>omega
theorem Z3h {M:Fn} {P:Int->Pt} {p:Pth} {x:Ax3} {t:Trk} (hM:∀u,M (pxt p x t [I u])=some (ptR (P u))) (ht:0<=t.length/\t.length<=900000000000000) (a b:Int) (hd:b-a<=1000000000000):
  Qd3 M (An (Rs M)) (pxt p x t [I a,I b])=some [.view kPt (CE P t a b)]:=by
 rw[Zq3,Za3 ht.1,Za3 ht.1];have hf:=RC ht.1 a;have he:=RC ht.1 b;have hd:clp t b-clp t a<=1000000000000:=by
  by_cases h:a<=b
  ·have:=KZ ht.1 h;omega
  ·have:=KZ (u:=b) (v:=a) ht.1 (by omega);omega
 unfold CE;unfold clp at*;generalize mx 0 (mn a t.length)=f at*;generalize mx 0 (mn b t.length)=e at*;rw[Ae (x:=f+1) (by omega)];refine eB (hM f) ?_;have key:Out (fun o=>o=(1,[.view kPt (BJ P f (e-f).toNat)])) (An (Rs M) (.view kPt (BJ P f 0)::I e::I (f+((0:Nat):Int)+1)::pxt p x t [I (P (f+((0:Nat):Int))).x,I (P (f+((0:Nat):Int))).y,I (P (f+((0:Nat):Int))).z])):=by
  refine CB (fun n:Nat=> .view kPt (BJ P f n)::I e::I (f+n+1)::pxt p x t [I (P (f+n)).x,I (P (f+n)).y,I (P (f+n)).z]) (fun n=>n<=(e-f).toNat) (fun n=>(e-f).toNat-n) _ ?_ 0 (by omega);intro n hn;rw[Zdk];try dsimp only[NA]
  refine .cond (fun c=> ?_) (fun c=> ?_)
  ·have c:=Bp c;rw[Ae (x:=f+(n:Int)+1+1) (by omega)];refine .bind (p:=fun o=>o=_) ⟨_,hM (f+(n:Int)+1),rfl⟩ fun o e=> ?_;subst e;have e1:wrap .i64 (0+1)=1:=Ae (by omega);have e2:wrap .i64 (1+1)=2:=Ae (by omega);rw[e1,e2];have hl:=Rq P f n;have hs:BJ P f (n+1)=BJ P f n++J3 (P (f+n)) (P (f+n+1)) (f+n+1):=rfl;have hu:f+((n+1:Nat):Int)=f+n+1:=by omega
   unfold J3 at hs;show Out _ (bif(P (f+(n:Int)+1)).x !=(P (f+n)).x then _ else _);generalize BJ P f n=v at*;have fin:∀{y:List AC},y= .view kPt (BJ P f (n+1))::I e::I (f+n+1+1)::pxt p x t [I (P (f+n+1)).x,I (P (f+n+1)).y,I (P (f+n+1)).z]->Out (fun o:Nat×List AC=>(o.1=0/\∃s':Nat,o.2= .view kPt (BJ P f s')::I e::I (f+s'+1)::pxt p x t [I (P (f+s')).x,I (P (f+s')).y,I (P (f+s')).z]/\s'<=(e-f).toNat/\(e-f).toNat-s'<(e-f).toNat-n)\/(o.1≠0/\o=(1,[.view kPt (BJ P f (e-f).toNat)]))) (some (0,y)):=fun hy=>by
    subst hy;exact .some (.inl ⟨rfl,n+1,by rw[hu],by omega,by omega⟩)
   have big:∀{y:Rw},y.length<=v.length+3->(y.length*24).ble 140737488355328=true:=fun h=>B0 (by omega);generalize BJ P f (n+1)=z at*;generalize P (f+(n:Int)+1)=q at*;generalize P (f+(n:Int))=w at*;refine .cond (fun cx=> ?_) fun cx=> ?_
   ·refine .cond (fun _=> ?_) fun c=>by rw[big (by simp)]at c;cases c
    refine .cond (fun cy=> ?_) fun cy=> ?_
    ·have cy:(q.y !=w.y)=true:=cy;refine .cond (fun _=> ?_) fun c=>by rw[big (by simp)]at c;cases c
     refine .cond (fun cz=> ?_) fun cz=> ?_
     ·have cz:(q.z !=w.z)=true:=cz;refine .cond (fun _=>fin ?_) fun c=>by rw[big (by simp)]at c;cases c
      rw[hs,cx,cy,cz];simp[ptR,gA,nth,Af]
     ·have cz:(q.z !=w.z)=false:=cz;refine fin ?_;rw[hs,cx,cy,cz];simp[ptR,gA,nth,Af]
    ·have cy:(q.y !=w.y)=false:=cy;refine .cond (fun cz=> ?_) fun cz=> ?_
     ·have cz:(q.z !=w.z)=true:=cz;refine .cond (fun _=>fin ?_) fun c=>by rw[big (by simp)]at c;cases c
      rw[hs,cx,cy,cz];simp[ptR,gA,nth,Af]
     ·have cz:(q.z !=w.z)=false:=cz;refine fin ?_;rw[hs,cx,cy,cz];simp[ptR,gA,nth,Af]
   ·refine .cond (fun cy=> ?_) fun cy=> ?_
    ·have cy:(q.y !=w.y)=true:=cy;refine .cond (fun _=> ?_) fun c=>by rw[big (by simp)]at c;cases c
     refine .cond (fun cz=> ?_) fun cz=> ?_
     ·have cz:(q.z !=w.z)=true:=cz;refine .cond (fun _=>fin ?_) fun c=>by rw[big (by simp)]at c;cases c
      rw[hs,cx,cy,cz];simp[ptR,gA,nth,Af]
     ·have cz:(q.z !=w.z)=false:=cz;refine fin ?_;rw[hs,cx,cy,cz];simp[ptR,gA,nth,Af]
    ·have cy:(q.y !=w.y)=false:=cy;refine .cond (fun cz=> ?_) fun cz=> ?_
     ·have cz:(q.z !=w.z)=true:=cz;refine .cond (fun _=>fin ?_) fun c=>by rw[big (by simp)]at c;cases c
      rw[hs,cx,cy,cz];simp[ptR,gA,nth,Af]
     ·have cz:(q.z !=w.z)=false:=cz;refine fin ?_;rw[hs,cx,cy,cz];simp[ptR,gA,nth,Af]
  ·have c:=Bt c;have e1:n=(e-f).toNat:=by omega
   rw[<-e1];exact .some (.inr ⟨by simp,rfl⟩)
 obtain⟨o,h1,rfl⟩:=key;rw[show f+((0:Nat):Int)=f by omega]at h1;exact eB h1 rfl
theorem Qud {p:Pth} {x:Ax3} {t:Trk} (h:Fix p x t) (a b:Int) (hd:b-a<=1000000000000):OG (pxt p x t [I a,I b])=some [.view kPt (CE (B4 p x t) t a b)]:=
 Z3h (fun u=>Z34 h.p h.x h.t u) h.t.q.len a b hd
theorem Q2g {l:Rw} (hl:l.length<=1000000000):Nn [.view kPt l, .view kPt l]=some [B true]:=by
 show VD (An TM) _=_;rw[Zpn];refine eF (bnF rfl) ?_;have key:Out (fun o=>o=(2,[])) (An TM [.view kPt l, .view kPt l,I (l.length:Int),I ((0:Nat):Int)]):=by
  refine CB (fun k:Nat=>[.view kPt l, .view kPt l,I (l.length:Int),I (k:Int)]) (fun k=>k<=l.length) (fun k=>l.length-k) _ ?_ 0 (by omega);intro k hk;rw[Zbb];refine .cond (fun c=> ?_) fun _=> .some (.inr ⟨by simp,rfl⟩);have c:(k:Int)<(l.length:Int):=Bp c;rw[Ae (x:=(k:Int)+1) (by omega)];refine .cond (fun _=> ?_) fun e=>(inB (by omega) c e).elim;refine .cond (fun _=> ?_) fun e=>(inB (by omega) c e).elim;refine .cond (fun e=> ?_) fun _=> .some (.inl ⟨rfl,k+1,rfl,by omega,by omega⟩);simp at e
 obtain⟨o,h1,rfl⟩:=key;exact eB h1 rfl
theorem Q0n {K:Kf} (h:KOK K) (c:Cv):No (Ad K c)=some (AH K.p++Ad K c):=by
 have h1:=h.f.p.count;have h2:=h.count;refine(Zvc K c).trans ?_;exact eT (B0 (by rw[List.length_map];omega)) (eT (B0 (by rw[List.length_map];omega)) rfl)
theorem Q39 {K:Kf} (h:KOK K) (c:Cv):Oa (Ad K c)=some (AS K.t++Ad K c):=by
 have h1:=h.f.t.q.count;refine(Zfm K c).trans ?_;exact eT (B0 (by rw[List.length_map];omega)) rfl
theorem Qjc {K:Kf} (h:KOK K) {E:List Evn} (hk:∀e∈E,e.kind<=6):∀k:Nat,k<=9999->0<=(CN K E k).m0
 |0,_=>Int.le_refl _
 |k+1,hn=>Int.le_trans (Qjc h hk k (by omega)) (Q02 h (Q4 h E k (by omega)) (by omega) (E:=atE E k) (fun e he=>hk e (R4 he)) (WA hk k).2).1
theorem Zuo {M0 M1 M2 M3 M4 M5 MS MA M8 M9 M10 M11 M12 M13 M14 M15:Fn} {K:Kf} {E:List Evn} (h:KOK K) (hE:E.length<=60) (hk:∀e∈E,e.kind<=6)
  (hA:∀k,MA [.view kPt (E.map evR),I k]=some [.view kPt ((atE E k).map evR)])
  (hS:∀(c:Cv) (n:Int) (E:List Evn),Gd K n c->0<=n/\n<=10000->O4 E->MS (.view kPt (E.map evR)::Ad K c)=some (tkC K c E++Ad K (Ch K c E))):
  Out (fun o=>o=(1, .view kPt (CE (B4 K.p K.x K.t) K.t 0 (AE (CN K E 120)))::(AF K.x++([I K.pa,I K.pb,I K.pc,I K.ramp,I K.lag]++Ad K (CN K E 120)))))
   (An (S5 M0 M1 M2 M3 M4 M5 MS MA M8 M9 M10 M11 M12 M13 M14 M15) (.view kPt (CE (B4 K.p K.x K.t) K.t 0 (AE (CN K E 0))):: .view kPt (E.map evR)::I ((0:Nat):Int)::(AF K.x++([I K.pa,I K.pb,I K.pc,I K.ramp,I K.lag]++Ad K (CN K E 0))))):=by
 refine CB (fun k:Nat=> .view kPt (CE (B4 K.p K.x K.t) K.t 0 (AE (CN K E k))):: .view kPt (E.map evR)::I (k:Int)::(AF K.x++([I K.pa,I K.pb,I K.pc,I K.ramp,I K.lag]++Ad K (CN K E k)))) (fun k=>k<=120) (fun k=>120-k) _ ?_ 0 (by omega);intro k hk1;refine Out.eqv (Zrg M0 M1 M2 M3 M4 M5 MS MA M8 M9 M10 M11 M12 M13 M14 M15 _ (E.map evR) k _ _ _ _ _ _ _ _ _ _ _ _ _ _ _ _ _ _ _ _ _ _ _ _ _ _ _ _ _ _ _ _ _ _ _ K (CN K E k)) ?_;refine .cond (fun c=> ?_) fun c=> ?_
 ·have c:(k:Int)<120:=Bp c;have g:=Q4 h E k (by omega);have g2:=Q4 h E (k+1) (by omega);have calm:O4 (atE E k):=⟨by have:=Zgb E k;omega,fun e he=>by have:=hk e (R4 he);omega⟩;have cp:=Q02 h g (by omega) (E:=atE E k) (fun e he=>hk e (R4 he)) (WA hk k).2;have um:=Q97 g g2 (by omega) (by omega) (Qjc h hk k (by omega)) cp.1;refine .bind (p:=fun o=>o=_) ⟨_,hA k,rfl⟩ fun o e=> ?_;subst e;refine .bind (p:=fun o=>o=_) ⟨_,hS (CN K E k) k (atE E k) g (by omega) calm,rfl⟩ fun o e=> ?_;subst e;have ep:wA (tkC K (CN K E k) (atE E k)++Ad K (Ch K (CN K E k) (atE E k))) 0=CE (B4 K.p K.x K.t) K.t (AE (CN K E k)) (AE (Ch K (CN K E k) (atE E k))):=cp.2;have ej:CE (B4 K.p K.x K.t) K.t 0 (AE (CN K E k))++CE (B4 K.p K.x K.t) K.t (AE (CN K E k)) (AE (Ch K (CN K E k) (atE E k)))=CE (B4 K.p K.x K.t) K.t 0 (AE (CN K E (k+1))):=
   (Zmp h.f.t.q.len.1 um.1 um.2.1).symm
  rw[ep,ej,Ae (x:=(k:Int)+1) (by omega)];have hl:=Qzd (M:=B4 K.p K.x K.t) h.f.t.q.len.1 (a:=0) (b:=AE (CN K E (k+1))) (by omega);refine .cond (fun _=> ?_) fun e=>by rw[B0 (by omega)]at e;cases e
  exact .some (.inl ⟨rfl,k+1,rfl,by omega,by omega⟩)
 ·have c: ¬(k:Int)<120:=Bt c;have e:k=120:=by omega
  subst e;exact .some (.inr ⟨by simp,rfl⟩)
theorem Q9z {MB MZ MW MT MH MM MS MA MN MC ME MI MD MQ MF MV:Fn} {K:Kf} {E:List Evn} {x0 x1 x2 x3:Rw} {x4:Int} (hE:E.length<=60)
  (hV:MV []=some [B true]) {q:Bool} (hF:MF [.view Aa x0, .view Aa x1, .view Aa x2, .view Aa x3]=some [B q])
  (hyp : q = true -> KOK K /\ MQ [.view Aa x1, .view Aa x2] = some (AF K.x ++ [I K.pa, I K.pb, I K.pc, I K.ramp, I K.lag]) /\ MD [I x4, I 7] = some [I (x4 % 7)] /\ MI [.view Aa x0, I (x4 % 7), B true] = some [.view Al (K.aA.map Ah)] /\
   ME [.view Aa x3]=some [.view kPt (E.map evR)]/\MC [.view kPt (E.map evR)]=some [.view kPt ((E.filter fun e=>decide (e.kind<=6)).map evR)]/\
   MN (AF K.x++[I K.pa,I K.pb,I K.pc,I K.ramp,I K.lag]++[.view Al (K.aA.map Ah),B true])=some (I 0::Ad K Cn))
  (hA:∀(E:List Evn) (k:Int),E.length<=60->MA [.view kPt (E.map evR),I k]=some [.view kPt ((atE E k).map evR)])
  (hM:∀c:Cv,MM (Ad K c)=some (I c.m0::I c.m1::I c.m2::I c.m3::I c.m4::I c.m5::Ad K c))
  (hP:KOK K->∀c:Cv,MH (Ad K c)=some (AH K.p++Ad K c)) (hT:KOK K->∀c:Cv,MT (Ad K c)=some (AS K.t++Ad K c))
  (hB:KOK K->∀a b:Int,b-a<=1000000000000->MW (pxt K.p K.x K.t [I a,I b])=some [.view kPt (CE (B4 K.p K.x K.t) K.t a b)])
  (hR:KOK K->∀a b:Int,b-a<=1000000000000->MB (pxt K.p K.x K.t [I a,I b])=some [.view kPt (CE (B4 K.p K.x K.t) K.t a b)])
  (hZ:∀{l:Rw},l.length<=1000000000->MZ [.view kPt l, .view kPt l]=some [B true])
  (hS:KOK K->∀(c:Cv) (n:Int) (E:List Evn),Gd K n c->0<=n/\n<=10000->O4 E->MS (.view kPt (E.map evR)::Ad K c)=some (tkC K c E++Ad K (Ch K c E))):
  Qqq MB MZ MW MT MH MM MS MA MN MC ME MI MD MQ MF MV (An (S5 MB MZ MW MT MH MM MS MA MN MC ME MI MD MQ MF MV)) [.view Aa x0, .view Aa x1, .view Aa x2, .view Aa x3,I x4]=some [B true]:=by
 rw[Zkp];refine eB hV (eF rfl (eB hF ?_));cases q
 ·rfl
 obtain⟨h,hQ,hD,hI,hE',hC,hN⟩:=hyp rfl;have hS:=hS h;refine eF rfl (eB hQ (eB hD (eB hI (eB hE' (eB hC ?_)))));generalize hcalm:(E.filter fun e=>decide (e.kind<=6))=F at*;have hlen:F.length<=60:=by rw[<-hcalm];exact Nat.le_trans (List.length_filter_le _ _) hE
 have hk:∀e∈F,e.kind<=6:=fun e he=>by rw[<-hcalm]at he;exact of_decide_eq_true (List.mem_filter.1 he).2
 refine eB hN (eF rfl ?_);obtain⟨o,hl,rfl⟩:=Zuo (M0:=MB) (M1:=MZ) (M2:=MW) (M3:=MT) (M4:=MH) (M5:=MM) (M8:=MN) (M9:=MC) (M10:=ME) (M11:=MI) (M12:=MD) (M13:=MQ) (M14:=MF) (M15:=MV) h hlen hk (fun k=>hA F k hlen) hS;have e0:CE (B4 K.p K.x K.t) K.t 0 (AE (CN K F 0))=[]:=by
  show BJ (B4 K.p K.x K.t) (clp K.t 0) (clp K.t (AE Cn)-clp K.t 0).toNat=[];rw[show AE Cn=0 from rfl,Int.sub_self];rfl
 rw[e0]at hl;refine eB hl (eT rfl ?_);have g:=Q4 h F 120 (by omega);have up:=Qjc h hk 120 (by omega);have um:=Q97 g g (by omega) (by omega) up (Int.le_refl _);have hb:=Qzd (M:=B4 K.p K.x K.t) h.f.t.q.len.1 um.1;generalize CN K F 120=c at*;have hZ:=hZ (l:=CE (B4 K.p K.x K.t) K.t 0 (AE c)) (by omega);refine eB (hM c) (eB (hP h c) (eB (hT h c) (eB (hB h 0 (AE c) (by omega)) (eB hZ (eT rfl (eB (hP h c) (eB (hT h c) (eB (hR h 0 (AE c) (by omega)) (eB hZ ?_)))))))));rfl
theorem Zfj {x0 x1 x2 x3:Rw} {x4:Int} (h0:Src x0) (h1:Src x1) (h2:Src x2) (h3:Src x3) (h4:i64 x4):
  Q6q [.view Aa x0, .view Aa x1, .view Aa x2, .view Aa x3,I x4]=some [B true]:=by
 obtain⟨q,hF,hq⟩:=Zce x0 x1 x2 x3;cases q
 ·exact Q9z (K:=kX []) (E:=[]) (MS:=HY) (MA:=LF) (by simp) Q0e hF (fun h=>by cases h) (fun E k hE=>Q08 (by omega) k) (Q16 _) Q0n Q39 (fun h=>Qkt h.f) (fun h=>Qud h.f) Q2g (fun h c n E g hn hE=>QR h g hn hE)
 ·obtain⟨l0,l1,l2,l3⟩:=hq rfl;have hm:0<=x4%7/\x4%7<7:=⟨Int.emod_nonneg _ (by decide),Int.emod_lt_of_pos _ (by decide)⟩;obtain⟨K,hK,hQ,hI,hN⟩:=Zra h0 h1 h2 (by omega) (most:=x4%7) (by omega) true true;obtain⟨E,hV,hE,-⟩:=Zxd h3 l3;exact Q9z (K:=K) (E:=E) hE Q0e hF (fun _=>⟨hK,hQ,Qv3 h4 (by omega),hI,hV,Ztf (by omega),hN⟩) (fun E k hE=>Q08 (by omega) k) (Q16 _) Q0n Q39 (fun h=>Qkt h.f) (fun h=>Qud h.f) Q2g (fun h c n E g hn hE=>QR h g hn hE)
end Go.Bm
namespace Go.Bm
theorem Qvw {r:List AC} (h:okR Aa r):i64 (Af (nth .dead r 0)):=by
 match r,h with
 |[],h=>exact h.elim
 |a::_,h=>exact Z57 h.1
theorem TE {r:List AC} (h:okR [Kd.sl Aa] r):Src (BI (nth .dead r 0)):=by
 match r,h with
 |[],h=>exact h.elim
 |a::_,h=>
  have h1:=h.1;unfold okC at h1;refine⟨?_,fun c hc=>Qvw (h1.2 c hc).1⟩;have h2:=h1.1;simp only[maxLen]at h2;show(BI a).length<=_;omega
end Go.Bm
