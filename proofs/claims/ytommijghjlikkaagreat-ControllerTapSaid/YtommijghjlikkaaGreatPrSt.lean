/- laid together -/
import Derived.Test.YtommijghjlikkaaGreatMx3
import Derived.Test.YtommijghjlikkaaGreatPrLd
import Derived.Test.YtommijghjlikkaaGreatPrTk4
set_option linter.unusedVariables false
set_option linter.unusedSimpArgs false
set_option maxRecDepth 100000
open Go.IntKind (wrap)
namespace Go.Bm
structure KOK (K : Kf) : Prop where
 f:Fix K.p K.x K.t
 plan:Plan3 K.pa K.pb K.pc
 aF:∀g∈K.p.aF,0<=g.item/\g.item<K.aA.length/\i64 g.lead
 aD:∀m∈K.p.aD,0<=m.item/\m.item<K.aA.length/\i64 m.at_
 count:K.p.aD.length<=1000000
 speed:∀it∈K.aA,it.kind=8->i64 it.speed
 len:i64 K.len
 set:i64 K.set
theorem T1 (K:Kf) (c:Cv):D6 (Ad K c)=some [I (wrap .i64 (c.m0.tdiv 256))]:=by
 show V2 (Ad K c)=_;rw[Q78]
abbrev A6 (c:Cv):Int:=wrap .i64 (c.m0.tdiv 256)
theorem Zzc {MP MU:Fn} {K:Kf} {c:Cv} {s:Int} (hU:MU (Ad K c)=some [I (A6 c)]) (hP:MP (Bo K.t++[I (A6 c)])=some [I s]):Xd MP MU (Ad K c)=some [I s]:=by
 rw[Zkg,hU];simp only[Option.bind_some,gA,wA,bA,jA,CV,Dp];rw[hP];rfl
abbrev Av (K:Kf) (c:Cv):Int:=AQ K.t (A6 c)
theorem SX {K:Kf} (h:KOK K) (c:Cv):EF (Ad K c)=some [I (Av K c)]:=Zzc (T1 K c) (OK h.f.t.q (A6 c))
theorem Ziv (K:Kf) (c:Cv):L5 (Ad K c)=some (I 3::Ad K {c with next:=wrap .i64 (c.idx+1),on:=false,idx:=0,aN:=false,cnt:=0}):=by
 show UU (Ad K c)=_;rw[Zl0]
theorem Zmk (K:Kf) (c:Cv):GT (Ad K c)=some (Ad K (if c.g0=0 then{c with o2:=true,g0:=1,g1:=18,g2:= -1}else c)):=by
 show Qmy (Ad K c)=_;rw[Zjy];cases h:(c.g0==0)
 ·rw[if_neg (by simpa using h)];rfl
 ·rw[if_pos (by simpa using h)];rfl
end Go.Bm
noncomputable section
namespace Go.Bm
def nxL (K:Kf) (c:Cv) (l:Int):List AC:=pxt K.p K.x K.t [I K.pa,I K.pb,I K.pc,I c.o0,I c.o1,B c.o2,B c.o3,B c.o4,I c.m0,I c.m1,I c.m2,I c.m3,I c.m4,I c.m5,I l]
def nxV (K:Kf) (c:Cv) (l:Int):Int:=gA ((EK (nxL K c l)).getD []) 1
def Mo (K:Kf) (c:Cv):Prop:=(AH K.pa K.pb c.m1 c.m2).2=true
theorem Mo.ready {K:Kf} {c:Cv} (h:Mo K c):Ci K.pa K.pb c.m1 c.m2:=(F_.1 h).1
theorem Qw8 {K:Kf} {c:Cv} {l:Int} {Q R:Int->Prop} (h:Out (LX c.m0 c.m1 c.m3 c.m4 Q R) (EK (nxL K c l))):Q (nxV K c l)\/∃r:Int,nxV K c l=wrap .i64 (c.m1+r)/\R r:=by
 obtain⟨o,h1,v,rfl,h2⟩:=h;have e:nxV K c l=v:=by unfold nxV;rw[h1];rfl
 rw[e];exact h2
theorem Z7 {K:Kf} {c:Cv} (hp:Plan3 K.pa K.pb K.pc) (hz:Mo K c) {v:Int} (hv:v=wrap .i64 (c.m1+AD K.pa K.pb c.m1 c.m2)):v=c.m1+AD K.pa K.pb c.m1 c.m2/\wrap .i64 (v-c.m1)=AD K.pa K.pb c.m1 c.m2/\(AH K.pa K.pb v (wrap .i64 (v-c.m1))).2=true:=by
 have r1:=EB hp hz.ready;have r2:=EB hp (closed hp hz.ready).1;rw[Ae (by omega)]at hv;have e:wrap .i64 (v-c.m1)=AD K.pa K.pb c.m1 c.m2:=by rw[hv,Ae (by omega)];omega
 refine⟨hv,e,?_⟩;rw[e,hv];exact(TW hp hz).1
theorem O0 {K:Kf} {c:Cv} (hp:Plan3 K.pa K.pb K.pc) (hz:Mo K c):Out (fun o=>∃r:Int,o=[I r]/\r=AD K.pa K.pb c.m1 c.m2) (Fp [I K.pa,I K.pb,I K.pc,I c.m1,I c.m2]):=
 ⟨_,Q3i hp hz.ready,_,rfl,rfl⟩
theorem Qxf {p:Pth} {x:Ax3} {t:Trk} (h:Fix p x t) (a b c o0 o1:Int) (b0 b1 b2:Bool) (m0 m1 m2 m3 m4 m5:Int):Out (fun o=>bA o 0=true->True) (JC (Dg p t [I a,I b,I c,I o0,I o1,B b0,B b1,B b2,I m0,I m1,I m2,I m3,I m4,I m5])):=
 (Out.of (Zg8 h a b c o0 o1 b0 b1 b2 m0 m1 m2 m3 m4 m5)).mono fun _ _ _=>trivial
theorem Q2r {K:Kf} (h:KOK K) {c:Cv} (hz:Mo K c) (l:Int) (b0:Bool):Out (LX c.m0 c.m1 c.m3 c.m4 (fun v=>(AH K.pa K.pb v (wrap .i64 (v-c.m1))).2=true) fun r=>r=AD K.pa K.pb c.m1 c.m2)
  (EK (pxt K.p K.x K.t [I K.pa,I K.pb,I K.pc,I c.o0,I c.o1,B b0,B c.o3,B c.o4,I c.m0,I c.m1,I c.m2,I c.m3,I c.m4,I c.m5,I l])):=
 Qfp (F:=fun _=>True) (by have:=h.plan.b;omega) (O0 h.plan hz) (fun v _ _ _=>SS h.f h.plan _ _ _ _ _ _ _) (fun v=>Qxf h.f ..) PH RO (fun _ hj=>Yo hj)
def Pj (m0 m1 m3 m4:Int) (Q R:Int->Prop) (o:List AC):Prop:=∃v s b z g e:Int,o=Eh m0 m1 m3 m4 v++[I s,I b,I z,I g,I e]/\(Q v\/∃r:Int,v=wrap .i64 (m1+r)/\R r)
theorem Qtf {MN MB MR MS MM MF MD:Fn} {p:Pth} {x:Ax3} {t:Trk} {a b c:Int} {o0 o1:Int} {b0 b1 b2:Bool} {m0 m1 m2 m3 m4 m5 l lead g0 g1 g2 g3 z0 z1:Int} {Q R:Int->Prop}
  (hN:Out (LX m0 m1 m3 m4 Q R) (MN (pxt p x t [I a,I b,I c,I o0,I o1,B false,B b1,B b2,I m0,I m1,I m2,I m3,I m4,I m5,I l])))
  (hB:Out (fun o=>∃r:Int,o=[I r]/\R r) (MB [I a,I b,I c,I m1,I m2]))
  (hR:∀a b c x3 x4 x5 x6 x7 x8,(MR [I a,I b,I c,I x3,I x4,I x5,I x6,I x7,I x8]).isSome=true)
  (hS:∀v:Int,Out (fun o=>bA o 0=true->Q v) (MS (pxt p x t [I a,I b,I c,I (wrap .i64 (m0+v)),I v,I (wrap .i64 (v-m1)),I m0,I m3,I m4,I l])))
  (hM:∀m0 m1 m2 m3 m4 m5 v,MM [I m0,I m1,I m2,I m3,I m4,I m5,I v]=some (Eh m0 m1 m3 m4 v))
  (hF:∀v,i64 v->(MF [I lead,I v]).isSome=true) (hD:∀a b,∃v,MD [I a,I b]=some [I v]/\i64 v):
  Out (Pj m0 m1 m3 m4 Q R) (Qkl MN MB MR MS MM MF MD (pxt p x t [I a,I b,I c,I o0,I o1,B b0,B b1,B b2,I m0,I m1,I m2,I m3,I m4,I m5,I l,I lead,I g0,I g1,I g2,I g3,I z0,I z1])):=by
 rw[Zhy];obtain⟨v1,e1,w1⟩:=hD z1 g2;obtain⟨v2,e2,w2⟩:=hD z0 g2;rw[e1,e2];simp only[Option.bind_some,gA,wA,bA,jA,CV,El,Dp];have next:∀s bb z g e:Int,Out (Pj m0 m1 m3 m4 Q R) ((MN (pxt p x t [I a,I b,I c,I o0,I o1,B false,B b1,B b2,I m0,I m1,I m2,I m3,I m4,I m5,I l])).bind fun o=>some [I (gA o 0),I (gA o 1),I (gA o 2),I (gA o 3),I (gA o 4),I (gA o 5),I s,I bb,I z,I g,I e]):=fun s bb z g e=>by
  refine .bind hN fun o h=> ?_;obtain⟨v,rfl,h⟩:=h;exact .some ⟨v,s,bb,z,g,e,rfl,h⟩
 refine .ibind (hF _ w1) fun f1 _=> .cond (fun _=> ?_) fun _=> .cond (fun _=> ?_) fun _=>next _ _ _ _ _
 ·refine .ibind (hF _ w2) fun f2 _=> ?_;rw[hM];generalize wrap .i64 (Af (nth AC.dead f1 0)-Af (nth AC.dead f2 0))=v;simp only[Option.bind_some,gA,wA,bA,jA,CV,El,Dp];refine .cond (fun _=> ?_) fun _=>next _ _ _ _ _
  refine .bind (hS v) fun o h=> .cond (fun c=> ?_) fun _=>next _ _ _ _ _
  exact .some ⟨v,_,_,_,_,_,rfl, .inl (h c)⟩
 ·rw[hM];generalize wrap .i64 (wrap .i64 (wrap .i64 (g1+Af (nth AC.dead f1 0))-g3)-m0)=v;simp only[Option.bind_some,gA,wA,bA,jA,CV,El,Dp];have stop:∀s bb z g e:Int,Out (Pj m0 m1 m3 m4 Q R) ((MB [I a,I b,I c,I m1,I m2]).bind fun o=>(MM [I m0,I m1,I m2,I m3,I m4,I m5,I (wrap .i64 (m1+gA o 0))]).bind fun q=>some [I (gA q 0),I (gA q 1),I (gA q 2),I (gA q 3),I (gA q 4),I (gA q 5),I s,I bb,I z,I g,I e]):=fun s bb z g e=>by
   refine .bind hB fun o h=> ?_;obtain⟨r,rfl,hr⟩:=h;rw[hM];exact .some ⟨_,s,bb,z,g,e,rfl, .inr ⟨r,rfl,hr⟩⟩
  refine .cond (fun _=> ?_) fun _=> ?_
  ·refine .bind (hS v) fun o h=> .cond (fun c=> ?_) fun _=> ?_
   ·exact .some ⟨v,_,_,_,_,_,rfl, .inl (h c)⟩
   ·refine .ibind (hR _ _ _ _ _ _ _ _ _) fun _ _=> .cond (fun _=> .cond (fun _=>stop _ _ _ _ _) fun _=>stop _ _ _ _ _) fun _=>stop _ _ _ _ _
  ·refine .ibind (hR _ _ _ _ _ _ _ _ _) fun _ _=> .cond (fun _=> .cond (fun _=>stop _ _ _ _ _) fun _=>stop _ _ _ _ _) fun _=>stop _ _ _ _ _
theorem Zz9 {K:Kf} (h:KOK K) {c:Cv} (hz:Mo K c) (l:Int) {lead:Int} (hl:i64 lead):Out (Pj c.m0 c.m1 c.m3 c.m4 (fun v=>(AH K.pa K.pb v (wrap .i64 (v-c.m1))).2=true) fun r=>r=AD K.pa K.pb c.m1 c.m2)
  (H6 (pxt K.p K.x K.t [I K.pa,I K.pb,I K.pc,I c.o0,I c.o1,B c.o2,B c.o3,B c.o4,I c.m0,I c.m1,I c.m2,I c.m3,I c.m4,I c.m5,I l,I lead,I c.e0,I c.e1,I c.e2,I c.e3,I c.before,I c.s3])):=
 Qtf (Q2r h hz l false) (O0 h.plan hz) Qrg (fun v=>SS h.f h.plan _ _ _ _ _ _ _) PH (fun _ hv=>Qpd hl hv) Qzt
theorem Qws {K:Kf} (h:KOK K) {c:Cv} (hz:Mo K c) {v:Int} (hv:(AH K.pa K.pb v (wrap .i64 (v-c.m1))).2=true\/∃r:Int,v=wrap .i64 (c.m1+r)/\r=AD K.pa K.pb c.m1 c.m2):(AH K.pa K.pb v (wrap .i64 (v-c.m1))).2=true:=by
 rcases hv with h1|⟨r,h1,h2⟩
 ·exact h1
 ·subst h2;exact(Z7 h.plan hz h1).2.2
theorem RH {a k c:Int} (hp:Plan3 a k c):(AH a k 0 0).2=true:=by
 refine F_.2 ⟨?_,by unfold BA;rw[if_pos (by omega)]⟩;have ha:=hp.a;have hb:=hp.b
 refine⟨by omega,by omega,?_,?_,fun _=>by omega⟩
 ·rw[HR (by omega)];omega
 ·rw[HR (by omega)];omega
theorem Zna (o0 o1:Int) (b1 b2:Bool) (a b c:Int) (r:List AC):L8 (I o0::I o1::B true::B b1::B b2::I a::I b::I c::AJ Ag r)=some [I 0]:=by
 rw[Qrz];show Rf _=_;rw[Q33];rfl
theorem Zqo {MO MF MP MU:Fn} {p:Pth} {t:Trk} {a b c o0 o1:Int} {b1 b2:Bool} (hO:∀r,MO (I o0::I o1::B true::B b1::B b2::I a::I b::I c::AJ Ag r)=some [I 0])
  (hF:∀s,i64 s->∃i v:Int,MF (Bp p++[I s])=some [I i,I v]/\(i= -1\/0<=i/\i<p.aF.length)/\(p.aF≠[]->0<=i)) (hP:∀u,∃s,MP (Bo t++[I u])=some [I s]/\i64 s) (hU:∀u,(MU [I u]).isSome=true) (hne:p.aF≠[]) (u:Int):
  Out (fun o=>gA o 0=0) (RN MO MF MP MU (Dg p t [I a,I b,I c,I o0,I o1,B true,B b1,B b2,I u])):=by
 rw[Qog];refine .ibind (hU _) fun q _=> ?_;obtain⟨s,h1,h2⟩:=hP (gA q 0);refine .bind (p:=fun o=>o=[I s]) ⟨_,h1,rfl⟩ fun o e=> ?_;subst e;obtain⟨i,v,g1,g2,g3⟩:=hF s h2;refine .bind (p:=fun o=>o=[I i,I v]) ⟨_,g1,rfl⟩ fun o e=> ?_;subst e;have g3:=g3 hne;refine .cond (fun _=> ?_) fun c=> ?_
 ·refine .bind (p:=fun o=>o=[I 0]) ⟨_,hO _,rfl⟩ fun o e=> ?_;subst e;exact .some rfl
 ·refine(inB (show 0<=i from g3) (show i<((p.aF.map Ay).length:Int)from ?_) c).elim;rw[List.length_map];omega
theorem Zzl {p:Pth} {x:Ax3} {t:Trk} (h:Fix p x t) (hne:p.aF≠[]) (a b c o0 o1:Int) (b1 b2:Bool) (u:Int):
  Out (fun o=>gA o 0=0) (Kx (Dg p t [I a,I b,I c,I o0,I o1,B true,B b1,B b2,I u])):=
 Zqo (fun r=>Zna o0 o1 b1 b2 a b c r) (fun _ hs=>Qwt h hs) (fun u=>⟨_,OK h.t.q u,TR h u⟩) Qkz hne u
theorem Zbp {MT MF:Fn} {p:Pth} {t:Trk} {a b c o0 o1:Int} {b1 b2:Bool} (hT:p.aF≠[]->∀u,Out (fun o=>gA o 0=0) (MT (Dg p t [I a,I b,I c,I o0,I o1,B true,B b1,B b2,I u])))
  (hF:∀a b c x3 x4 x5 x6 x7 x8,Out (fun o=>(wA o 0).length<=4096) (MF [I a,I b,I c,I x3,I x4,I x5,I x6,I x7,I x8])) (m0 m1 m2 m3 m4 m5:Int):
  Out (fun o=>bA o 0=true->m1<=0) (TU MT MF (Am (Tt MT MF)) (Dg p t [I a,I b,I c,I o0,I o1,B true,B b1,B b2,I m0,I m1,I m2,I m3,I m4,I m5])):=by
 rw[Q1k];refine .bind (hF a b c m0 m1 m2 m3 m4 m5) fun o h2=> ?_;have no:∀{x:List AC},x=[B false]->bA x 0=true->m1<=0:=fun e h=>by subst e;simp[bA,nth,CM]at h
 generalize wA o 0=sp at*;refine .cond (fun _=> .some (no rfl)) fun _=> .cond (fun _=> .some (no rfl)) fun c0=> ?_;have hne:p.aF≠[]:=by
  intro e;rw[e]at c0;simp at c0
 have hT:=hT hne;refine .bind (hT _) fun q hq=> .cond (fun _=> .some (no rfl)) fun hm=> ?_;have hm: ¬m1>gA q 0:=Bn hm;rw[hq]at hm;refine .bind (p:=fun o=>o.1=1\/o.1=2) ?_ fun o g=>by rcases g with g|g<;>rw[g]<;>exact .some fun _=>by omega
 refine CT (fun s:Int×Nat=>I s.1:: .view Aa sp::I (sp.length:Int)::I (s.2:Int)::Dg p t [I a,I b,I c,I o0,I o1,B true,B b1,B b2]) (fun s=>s.2<=sp.length) (fun s=>sp.length-s.2) _ ?_ (m0,0) (by simp);rintro⟨v,i⟩ g;dsimp only at g;rw[Q19];rw[Ae (x:=(i:Int)+1) (by omega)];refine .cond (fun c=> ?_) (fun c=> ?_)
 ·have c:=Br c;refine .cond (fun _=> ?_) fun c=>by simp at c;omega
  refine .bind (hT _) fun _ _=> .cond (fun _=> .some (.inr ⟨by simp, .inl rfl⟩)) fun _=> ?_;exact .some (.inl ⟨rfl,(_,i+1),rfl,by dsimp only;omega,by dsimp only;omega⟩)
 ·exact .some (.inr ⟨by simp, .inr rfl⟩)
theorem Zsp {p:Pth} {x:Ax3} {t:Trk} (h:Fix p x t) (a b c o0 o1:Int) (b1 b2:Bool) (m0 m1 m2 m3 m4 m5:Int):
  Out (fun o=>bA o 0=true->m1<=0) (JC (Dg p t [I a,I b,I c,I o0,I o1,B true,B b1,B b2,I m0,I m1,I m2,I m3,I m4,I m5])):=
 Zbp (fun hne u=>Zzl h hne a b c o0 o1 b1 b2 u) QH m0 m1 m2 m3 m4 m5
theorem Zaj {K:Kf} (h:KOK K) {c:Cv} (hz:Mo K c) (hh:c.o2=true) (l:Int):nxV K c l=c.m1+AD K.pa K.pb c.m1 c.m2:=by
 have hp:=h.plan;have hr:=hz.ready;have rg:=EB hp hr;have ho:Out (LX c.m0 c.m1 c.m3 c.m4 (fun v=>(AH K.pa K.pb v (wrap .i64 (v-c.m1))).2=true/\v=0/\∃k:Int,-K.pb<=k/\k<=K.pb/\v=wrap .i64 (c.m1+wrap .i64 (c.m2+k))) fun r=>r=AD K.pa K.pb c.m1 c.m2) (EK (nxL K c l)):=by
  unfold nxL;rw[hh];exact Qfp (F:=fun v=>v<=0) (by have:=hp.b;omega) (O0 hp hz) (fun v h0 h1 hk=>(SS h.f hp _ _ _ _ _ _ _).mono fun o ho hb=>⟨ho hb,by omega,hk⟩) (fun v=>Zsp h.f ..) PH RO (fun _ hj=>Yo hj)
 rcases Qw8 ho with⟨h1,h2,k,k1,k2,k3⟩|⟨r,h1,h2⟩
 ·have hb:=hp.b;have ha:=hp.a
  rw[h2]at h1 k3⊢;rw[Ae (x:=c.m2+k) (by omega),Ae (x:=c.m1+(c.m2+k)) (by omega)]at k3;rw[Ae (x:=0-c.m1) (by omega)]at h1;obtain⟨⟨q1,q2,q3,q4,q5⟩,-⟩:=F_.1 h1;have e1: -(0-c.m1)=c.m1:=by omega
  rw[e1]at q3;obtain⟨B,hB⟩:∃B,B=bs K.pb c.m1 20 (-c.m2-K.pb) (min (K.pb-c.m2) K.pa):=⟨_,rfl⟩;obtain⟨b1,b2,b3,b4,b5,b6⟩:=Qy hp hr hB;have l0:=Hl (k:=K.pb) (b:=B) (by omega);have eb:AD K.pa K.pb c.m1 c.m2= -B:=by unfold AD;rw[hB]
  rw[eb];by_cases hlt:B<c.m1
  ·rcases b5 with b5|b5
   ·omega
   ·have:=Zmo (k:=K.pb) (b:=B+1) (c:=c.m1) (by omega) (by omega);omega
  ·omega
 ·subst h2;exact(Z7 hp hz h1).1
end Go.Bm
namespace Go.Bm
theorem Q5c (K:Kf) {i:Nat} (h:i<K.aA.length):nth [] (K.aA.map Ah) i=Ah K.aA[i]:=by
 rw[BN,List.getD,List.getElem?_map,List.getElem?_eq_getElem h];rfl
theorem Zqn (K:Kf) {i:Nat} (h:i<K.p.aD.length):nth [] (K.p.aD.map At) i=At K.p.aD[i]:=by
 rw[BN,List.getD,List.getElem?_map,List.getElem?_eq_getElem h];rfl
theorem Zrf {K:Kf} (h:KOK K) (i:Nat) (hk:gA (nth [] (K.aA.map Ah) i) 0=8):i64 (gA (nth [] (K.aA.map Ah) i) 20):=by
 by_cases c:i<K.aA.length
 ·rw[Q5c K c]at hk⊢;exact h.speed _ (List.getElem_mem c) hk
 ·have e:nth [] (K.aA.map Ah) i=[]:=by
   rw[BN,List.getD,List.getElem?_eq_none (by rw[List.length_map];omega)];rfl
  rw[e];show i64 0;unfold i64;omega
structure Gd (K : Kf) (n : Int) (c : Cv) : Prop where
 way:c.way=0
 pass:0<=c.aK/\c.aK<=K.p.aD.length
 task:c.on=true->0<=c.idx/\c.idx<K.p.aD.length
 mo:Mo K c
 m0: -(16777216*n)<=c.m0/\c.m0<=16777216*n
theorem Gd.up {K:Kf} {n:Int} {c:Cv} (h:Gd K n c) (hn:0<=n):Gd K (n+1) c:=
 ⟨h.way,h.pass,h.task,h.mo,by have:=h.m0;omega⟩
theorem Gd.move {K:Kf} (h:KOK K) {n:Int} {c:Cv} (g:Gd K n c) (hn:0<=n/\n<=10000) {v:Int} (hv:(AH K.pa K.pb v (wrap .i64 (v-c.m1))).2=true\/∃r:Int,v=wrap .i64 (c.m1+r)/\r=AD K.pa K.pb c.m1 c.m2):
  Gd K (n+1) {c with m0:=wrap .i64 (c.m0+v),m1:=v,m2:=wrap .i64 (v-c.m1),m3:=c.m0,m4:=c.m3,m5:=c.m4}:=by
 have h0:=g.m0;have hq:=Qws h g.mo hv;have hr:=EB h.plan (F_.1 hq).1;refine⟨g.way,g.pass,g.task,hq,?_⟩;show-(16777216*(n+1))<=wrap .i64 (c.m0+v)/\wrap .i64 (c.m0+v)<=16777216*(n+1);rw[Ae (by omega)];omega
end Go.Bm
namespace Go.Bm
theorem Gd.same {K:Kf} {n:Int} {c c':Cv} (g:Gd K n c) (h1:c'.way=c.way) (h2:c'.aK=c.aK) (h3:c'.on=c.on) (h4:c'.idx=c.idx) (h5:c'.m0=c.m0) (h6:c'.m1=c.m1) (h7:c'.m2=c.m2):Gd K n c':=
 ⟨h1▸g.way,h2▸g.pass,by rw[h3,h4];exact g.task,by have:=g.mo;unfold Mo at*;rw[h6,h7];exact this,h5▸g.m0⟩
theorem Zu3 {K:Kf} {c:Cv} (h:c.way=0):LG (Ad K c)=some (I 0::B false::Ad K c):=by
 have key:∀{A B':Fn},UK A B' (Ad K c)=some (I 0::B false::Ad K c):=by
  intro A B';rw[Zv0,Bu (by simp[h])]
 exact key
abbrev stand (c:Cv):Cv:={c with m0:=wrap .i64 (A6 c*256),m1:=0,m2:=0,m3:=wrap .i64 (A6 c*256),m4:=wrap .i64 (A6 c*256),m5:=wrap .i64 (A6 c*256)}
theorem Q04 (u:Int):IK [I u]=some [I (wrap .i64 (u*256)),I 0,I 0,I (wrap .i64 (u*256)),I (wrap .i64 (u*256)),I (wrap .i64 (u*256))]:=by
 show Qjx [I u]=_;rw[Z1k]
theorem Zpv {MS MU:Fn} {K:Kf} {c:Cv} (hU:MU (Ad K c)=some [I (A6 c)]) (hS:∀u:Int,MS [I u]=some [I (wrap .i64 (u*256)),I 0,I 0,I (wrap .i64 (u*256)),I (wrap .i64 (u*256)),I (wrap .i64 (u*256))]):
  Ve MS MU (Ad K c)=some (if c.g0=2 then I 6::B true::Ad K (stand c)else I 0::B false::Ad K c):=by
 rw[Zyz];by_cases h:c.g0=2
 ·rw[if_pos h,Bf (by simp[h]),hU];simp only[Option.bind_some,gA,wA,bA,jA,CV,Dp];rw[hS];rfl
 ·rw[if_neg h,Bu (by simpa using h)]
theorem Zki (K:Kf) (c:Cv):KK (Ad K c)=some (if c.g0=2 then I 6::B true::Ad K (stand c)else I 0::B false::Ad K c):=Zpv (T1 K c) Q04
theorem Zgs (K:Kf) (c:Cv):KV (Ad K c)=some (I c.aI::B (c.aI !=0)::Ad K c):=by
 show YC (Ad K c)=_;rw[Zpy]
theorem Zcx (K:Kf) (c:Cv):KN (Ad K c)=some (if c.aH=true/\c.aM=true then I 8::B true::Ad K {c with aI:=8}else I 0::B false::Ad K c):=by
 show Us (Ad K c)=_;rw[Ztl];by_cases h:c.aH=true
 ·by_cases h2:c.aM=true
  ·rw[if_pos ⟨h,h2⟩,Bf (by simp[h]),Bf (by simp[h2]),h,h2]
  ·rw[if_neg (fun e=>h2 e.2),Bf (by simp[h]),Bu (by simpa using h2)]
 ·rw[if_neg (fun e=>h e.1),Bu (by simpa using h)]
theorem Q3o {a N:Int} (h: -N<=a/\a<=N): -N<=a.tdiv 256*256/\a.tdiv 256*256<=N:=by
 by_cases k:0<=a
 ·rw[Int.tdiv_eq_ediv_of_nonneg k];omega
 ·obtain⟨b,rfl⟩:∃b,a= -b:=⟨-a,by omega⟩;rw[Int.neg_tdiv,Int.tdiv_eq_ediv_of_nonneg (by omega)];omega
theorem Gd.stand {K:Kf} (h:KOK K) {n:Int} {c:Cv} (g:Gd K n c) (hn:0<=n/\n<=10000):Gd K n (stand c)/\A6 (stand c)=A6 c:=by
 have h0:=Q3o g.m0;have e:A6 c=c.m0.tdiv 256:=Ae (by omega);have e2:(Go.Bm.stand c).m0=c.m0.tdiv 256*256:=by
  show wrap .i64 (A6 c*256)=_;rw[e,Ae (by omega)]
 refine⟨⟨g.way,g.pass,g.task,RH h.plan,?_⟩,?_⟩
 ·rw[e2];omega
 ·show wrap .i64 ((Go.Bm.stand c).m0.tdiv 256)=_;rw[e2,Int.mul_tdiv_cancel _ (by omega),e,Ae (by omega)]
end Go.Bm
namespace Go.Bm
theorem Out.eqv {α:Type} {p:α->Prop} {a b:Option α} (h:a=b) (g:Out p b):Out p a:=h▸g
abbrev NT (pul outs:Rw) (mode s:Int) (m:Pt) (sp fault:Int):List AC:=[.view kPt pul, .view Aa outs,I mode,I s,I m.x,I m.y,I m.z,I sp,I fault]
abbrev EP:List AC:=[.view kPt [], .view Aa [],I 0,I 0,I 0,I 0,I 0,I 0,I 0]
theorem Qu1 {K:Kf} {n:Int} {c:Cv} (g:Gd K n c) (hn:0<=n/\n<=10010): -300000000000<=A6 c/\A6 c<=300000000000:=by
 have h:=g.m0;have h1: -300000000000<=c.m0/\c.m0<=300000000000:=by omega
 have h2:=Q3o h1;have e:A6 c=c.m0.tdiv 256:=Ae (by omega);omega
end Go.Bm
namespace Go.Bm
theorem Zdh (r k:Int):(Dn r k=r/\Do r k=0)\/(Dn r k=0/\Do r k=r)\/(Dn r k= -r/\Do r k=0)\/(Dn r k=0/\Do r k= -r):=by
 have hc:k%4=0\/k%4=1\/k%4=2\/k%4=3:=by omega
 unfold Dn Do;rcases hc with h|h|h|h<;>simp[h]
theorem Qqb (r k:Int):sq2 (Dn r k) (Do r k)=r*r:=by
 unfold sq2;rcases Zdh r k with⟨h1,h2⟩|⟨h1,h2⟩|⟨h1,h2⟩|⟨h1,h2⟩<;>rw[h1,h2]<;>grind
theorem Zzy {p q k t:Int} (ht:t=1\/t=2\/t=3) (hp:0<p) (hq:0<q):crs (Dn p k) (Do p k) (Dn q (k+t)) (Do q (k+t))≠0\/dt2 (Dn p k) (Do p k) (Dn q (k+t)) (Do q (k+t))<0:=by
 have hc:k%4=0\/k%4=1\/k%4=2\/k%4=3:=by omega
 have hpq:0<p*q:=Int.mul_pos hp hq;have hm: -p*q= -(p*q)/\p* -q= -(p*q)/\ -p* -q=p*q:=⟨Int.neg_mul ..,Int.mul_neg ..,Int.neg_mul_neg ..⟩;have e:∀j:Int,(k+t)%4=j->∀i:Int,k%4=i->crs (Dn p k) (Do p k) (Dn q (k+t)) (Do q (k+t))=(if i=0 then p else if i=2 then-p else 0)*(if j=1 then q else if j=3 then-q else 0)-(if i=1 then p else if i=3 then-p else 0)*(if j=0 then q else if j=2 then-q else 0)/\
   dt2 (Dn p k) (Do p k) (Dn q (k+t)) (Do q (k+t))=(if i=0 then p else if i=2 then-p else 0)*(if j=0 then q else if j=2 then-q else 0)+(if i=1 then p else if i=3 then-p else 0)*(if j=1 then q else if j=3 then-q else 0):=by
  intro j hj i hi;subst hj hi;exact⟨rfl,rfl⟩
 rcases ht with rfl|rfl|rfl<;>rcases hc with h1|h1|h1|h1
 ·obtain⟨e1,e2⟩:=e 1 (by omega) _ h1;simp at e1 e2;omega
 ·obtain⟨e1,e2⟩:=e 2 (by omega) _ h1;simp at e1 e2;omega
 ·obtain⟨e1,e2⟩:=e 3 (by omega) _ h1;simp at e1 e2;omega
 ·obtain⟨e1,e2⟩:=e 0 (by omega) _ h1;simp at e1 e2;omega
 ·obtain⟨e1,e2⟩:=e 2 (by omega) _ h1;simp at e1 e2;omega
 ·obtain⟨e1,e2⟩:=e 3 (by omega) _ h1;simp at e1 e2;omega
 ·obtain⟨e1,e2⟩:=e 0 (by omega) _ h1;simp at e1 e2;omega
 ·obtain⟨e1,e2⟩:=e 1 (by omega) _ h1;simp at e1 e2;omega
 ·obtain⟨e1,e2⟩:=e 3 (by omega) _ h1;simp at e1 e2;omega
 ·obtain⟨e1,e2⟩:=e 0 (by omega) _ h1;simp at e1 e2;omega
 ·obtain⟨e1,e2⟩:=e 1 (by omega) _ h1;simp at e1 e2;omega
 ·obtain⟨e1,e2⟩:=e 2 (by omega) _ h1;simp at e1 e2;omega
theorem Zlm {size:Int} {it:Itm} (h:ArcMade size it):Qav it:=by
 obtain⟨r,k,t,g,x,h1,h2,h3,h4,h5,h6,h7,h8,h9,h10,h11,h12,h13⟩:=h.ends;have hp:=h.aG;have a1:dU it it.fr=Dn r k:=by unfold dU;rw[h12,(Nw hp).1];omega
 have a2:dW it it.fr=Do r k:=by unfold dW;rw[h12,(Nw hp).2.1];omega
 have a3:dU it it.to=Dn (r+g) (k+t):=by unfold dU;rw[h12,h13,(Nw hp).1,(Nw hp).1];omega
 have a4:dW it it.to=Do (r+g) (k+t):=by unfold dW;rw[h12,h13,(Nw hp).2.1,(Nw hp).2.1];omega
 have q1:qA it=r*r:=by unfold qA;rw[a1,a2,Qqb]
 have q2:qB it=(r+g)*(r+g):=by unfold qB;rw[a3,a4,Qqb]
 have m1:64<=r*r:=by
  have:=Int.mul_le_mul h1 h1 (by omega) (by omega);omega
 have m2:64<=(r+g)*(r+g):=by
  have:=Int.mul_le_mul (show(8:Int)<=r+g by omega) (show(8:Int)<=r+g by omega) (by omega) (by omega);omega
 unfold Qav;refine⟨by omega,by omega,?_,?_,?_⟩
 ·rw[q1,q2];unfold H0;right;have hg:g*g<=16:=by
   have:=Int.mul_le_mul h8 h8 h7 (by omega);omega
  have e1:r*r+(r+g)*(r+g)-16=2*(r*(r+g))+(g*g-16):=by grind
  have hpos:0<=r*(r+g):=Int.mul_nonneg (by omega) (by omega);have hge:64<=r*(r+g):=by
   have:=Int.mul_le_mul h1 (show(8:Int)<=r+g by omega) (by omega) (by omega);omega
  have hgg:0<=g*g:=Int.mul_nonneg h7 h7;have e2:4*(r*r)*((r+g)*(r+g))=(2*(r*(r+g)))*(2*(r*(r+g))):=by grind
  rw[e1,e2];generalize 2*(r*(r+g))=m at*;exact Int.mul_self_le_mul_self (by omega) (by omega)
 ·intro hf;rw[h11]at hf;have ht:=of_decide_eq_true hf;rw[a1,a2,a3,a4,ht,h10 ht,Int.add_zero,Int.add_zero];exact⟨rfl,rfl⟩
 ·intro hf;rw[h11]at hf;have ht:=of_decide_eq_false hf;unfold cAB dAB;rw[a1,a2,a3,a4];exact Zzy (by omega) (by omega) (by omega)
theorem Zuw {it:Itm} (h:Made it) (h1:bd 1000000 it.fr) (h2:bd 1000000 it.to):Dj it:=by
 refine⟨h.kind,A7 h1 (by omega),A7 h2 (by omega),fun h3=> ?_⟩;have ha:=h.arc h3;exact⟨ha.aG,ha.dir,A7 (Qcv ha (by omega) h1).2 (by omega),Zlm ha⟩
end Go.Bm
namespace Go.Bm
open Classical
structure Oth (it : Itm) : Prop where
 kind:7<=it.kind/\it.kind<=14
 spin:it.kind=8->3<=it.n/\it.n<=5/\0<=it.speed/\it.speed<=4000
 dwell:it.kind=7->0<=it.n/\it.n<=4
 out:it.kind=10->0<=it.n/\it.n<=15
def Je:Pt->List Itm->Prop
 |_,[]=>True
 |p,it::l=>if AG it then it.fr=p/\Je it.to l else Je p l
def Qc:Pt->List Itm->Pt
 |p,[]=>p
 |p,it::l=>if AG it then Qc it.to l else Qc p l
theorem Yu {it:Itm}:∀{l:List Itm} {p:Pt},Je p l->(AG it->it.fr=Qc p l)->Je p (l++[it])
 |[],p,_,h=>by
  simp only[List.nil_append,Je];split
  ·rename_i c;exact⟨h c,trivial⟩
  ·trivial
 |a::l,p,h1,h=>by
  simp only[List.cons_append,Je]at h1⊢;unfold Qc at h;by_cases c:AG a
  ·rw[if_pos c]at h1 h⊢;exact⟨h1.1,Yu h1.2 h⟩
  ·rw[if_neg c]at h1 h⊢;exact Yu h1 h
structure Items (A : Nat) (p : Pt) (l : List Itm) : Prop where
 link:Je p l
 made:∀it∈l,(AG it/\Made it/\QI it/\bd A it.fr/\bd A it.to)\/Oth it
theorem Zqh {A:Nat} {p:Pt} {l:List Itm} {it:Itm} (h:Items A p l) (h1:AG it->it.fr=Qc p l) (h2:(AG it/\Made it/\QI it/\bd A it.fr/\bd A it.to)\/Oth it):Items A p (l++[it]):=by
 refine⟨Yu h.link h1,fun i hi=> ?_⟩;simp only[List.mem_append,List.mem_singleton]at hi;rcases hi with hi|rfl
 ·exact h.made i hi
 ·exact h2
theorem Md {it:Itm} (h:Oth it): ¬AG it:=fun g=>by have:=h.kind;have:=g.2;omega
def Fs:Itm:=⟨14,0,⟨0,0,0⟩,⟨0,0,0⟩,0,⟨0,0,0⟩,0,false,0,false,0,0,0,0,0,false⟩
theorem Sa:Oth Fs:=⟨by simp[Fs],by simp[Fs],by simp[Fs],by simp[Fs]⟩
theorem Uw {A:Nat} {aA:List Itm} (hA:A<=1000000) (hm:∀it∈aA,(AG it/\Made it/\QI it/\bd A it.fr/\bd A it.to)\/Oth it):∀(k i:Nat) (last:Int) (p:Pt),i+k=aA.length->Je p (aA.drop i)->(0<=last->(itA aA last.toNat).to=p)->ET aA k i last=0
 |0,_,_,_,_,_,_=>rfl
 |k+1,i,last,p,hi,h,hp=>by
  have hlt:i<aA.length:=by omega
  have hit:=hm _ (Q45 hlt);rw[Qfw hlt]at h;unfold Je at h;unfold ET;have hw: ¬BF (itA aA i):=by
   rcases hit with⟨h1,h2,h3,h4,h5⟩|ho
   ·have hv:=Zuw h2 (A7 h4 hA) (A7 h5 hA);have hf:=h2.feed;have hb:=h2.blend;have hk:=h2.kind;rintro(g|g|⟨-,g|g|g|g⟩|⟨g,-⟩)
    ·omega
    ·omega
    ·exact g hv
    ·omega
    ·omega
    ·omega
    ·exact g h1
   ·have hk:=ho.kind;rintro(g|g|⟨g,-⟩|⟨-,g1,g2⟩)
    ·omega
    ·omega
    ·exact Md ho g
    ·have:=ho.spin g1;omega
  rw[if_neg hw];by_cases c:AG (itA aA i)
  ·rw[if_pos c]at h⊢;rw[if_neg (fun g=>g.2 (by rw[hp g.1];exact h.1.symm))];exact Uw hA hm k (i+1) i _ (by omega) h.2 (fun _=>by rw[Int.toNat_natCast])
  ·rw[if_neg c]at h⊢;exact Uw hA hm k (i+1) last p (by omega) h hp
theorem Zkk {A:Nat} {p:Pt} {aA:List Itm} (hA:A<=1000000) (h:Items A p aA) (hl:aA.length<=20000):Cu aA=0:=by
 unfold Cu;rw[if_neg (by omega)];exact Uw hA h.made aA.length 0 (-1) p (by omega) (by rw[List.drop_zero];exact h.link) (fun h=>by omega)
end Go.Bm
namespace Go.Bm
theorem Zbl {M:Fn} (hM:∀{hi lo y:Nat},hi<y->y<w64->lo<w64->M [U hi,U lo,U y]=some [U (((hi*w64+lo)/y:Nat):Int),U (((hi*w64+lo)%y:Nat):Int)])
  {hi lo y:Nat} (hhi:hi<w64) (hlo:lo<w64) (hy0:0<y) (hy:y<w64):
  ∃qh ql:Nat,Qh9 M [U hi,U lo,U y]=some [U qh,U ql,B (decide (0<(hi*w64+lo)%y))]/\qh<w64/\ql<w64/\qh*w64+ql=(hi*w64+lo)/y:=by
 have h1:=hM (hi:=0) (lo:=hi) hy0 hy hhi;rw[Nat.zero_mul,Nat.zero_add,show((0:Nat):Int)=0 from rfl]at h1;have hm:=Nat.mod_lt hi hy0;have h2:=hM (hi:=hi%y) (lo:=lo) hm hy hlo;have e:=Nat.div_add_mod hi y;have e2:hi*w64+lo=hi%y*w64+lo+hi/y*w64*y:=by
  have:hi*w64=hi/y*w64*y+hi%y*w64:=by
   rw[<-e,Nat.mul_add_mod,Nat.mod_mod];rw[show(y*(hi/y)+hi%y)/y=hi/y from by rw[e]];rw[Nat.add_mul,Nat.mul_comm y,Nat.mul_assoc,Nat.mul_comm y,Nat.mul_assoc]
  omega
 have hq:(hi*w64+lo)/y=(hi%y*w64+lo)/y+hi/y*w64:=by rw[e2,Nat.add_mul_div_right _ _ hy0]
 have hr:(hi*w64+lo)%y=(hi%y*w64+lo)%y:=by rw[e2,Nat.add_mul_mod_self_right]
 have hlt:(hi%y*w64+lo)/y<w64:=by
  rw[Nat.div_lt_iff_lt_mul hy0];have:hi%y*w64+w64<=y*w64:=by rw[<-Nat.succ_mul];exact Nat.mul_le_mul_right _ hm
  rw[Nat.mul_comm w64];omega
 refine⟨hi/y,(hi%y*w64+lo)/y,?_,Nat.lt_of_le_of_lt (Nat.div_le_self _ _) hhi,hlt,by rw[hq];omega⟩;rw[Ztm];simp only[go_sem,h1,h2,hr];by_cases c:0<(hi%y*w64+lo)%y
 ·rw[decide_eq_true c,decide_eq_true (show(((hi%y*w64+lo)%y:Nat):Int)>0 by omega)]
 ·rw[decide_eq_false c,decide_eq_false (show¬(((hi%y*w64+lo)%y:Nat):Int)>0 by omega)]
theorem Zzd {A n t:Nat} (hn:0<n) (h1:t*t<=2*A*(2*A)/n) (h2:2*A*(2*A)/n<(t+1)*(t+1)) (down:Bool) {E:Prop} [Decidable E] (hE:E↔(2*A*(2*A)%n=0/\t*t=2*A*(2*A)/n)):
  EL A n down (if t%2=1/\(¬E\/down=false)then t/2+1 else t/2):=by
 have e4:2*A*(2*A)=4*(A*A):=by grind
 have k1:t*t*n<=2*A*(2*A):=(Nat.le_div_iff_mul_le hn).1 h1;have k2:2*A*(2*A)<(t+1)*(t+1)*n:=(Nat.div_lt_iff_lt_mul hn).1 h2;have k3:(2*A*(2*A)%n=0/\t*t=2*A*(2*A)/n)↔t*t*n=2*A*(2*A):=by
  have hd:=Nat.div_add_mod (2*A*(2*A)) n;constructor
  ·rintro⟨g1,g2⟩;rw[g2,Nat.mul_comm];omega
  ·intro g;rw[<-g];exact⟨Nat.mul_mod_left _ _,(Nat.mul_div_cancel _ hn).symm⟩
 have k4:=hE.trans k3;rw[e4]at k1 k2 k4;clear hE k3 h1 h2;generalize hQ:4*(A*A)=Q at*;unfold EL;rw[hQ];rcases Nat.mod_two_eq_zero_or_one t with ht|ht
 ·rw[if_neg (by omega)];obtain⟨m,rfl⟩:∃m,t=2*m:=⟨t/2,by omega⟩;rw[show 2*m/2=m by omega];have h5:(2*m+1)*(2*m+1)*n<=(2*m+1)*(2*m+1)*n:=Nat.le_refl _;refine⟨?_,?_⟩
  ·rcases Nat.eq_zero_or_pos m with hm|hm
   ·exact .inl hm
   ·right;have h6:(2*m-1)*(2*m-1)*n<2*m*(2*m)*n:=Nat.mul_lt_mul_of_pos_right (Nat.mul_self_lt_mul_self (by omega)) hn;split<;>omega
  ·split<;>omega
 ·obtain⟨m,rfl⟩:∃m,t=2*m+1:=⟨t/2,by omega⟩;rw[show(2*m+1)/2=m by omega];have h6:(2*m+1+1)*(2*m+1+1)*n<=(2*(m+1)+1)*(2*(m+1)+1)*n:=Ps (by omega);have h7:(2*m-1)*(2*m-1)*n<(2*m+1)*(2*m+1)*n:=Nat.mul_lt_mul_of_pos_right (Nat.mul_self_lt_mul_self (by omega)) hn;have h8:2*(m+1)-1=2*m+1:=by omega
  by_cases c: ¬E\/down=false
  ·rw[if_pos ⟨ht,c⟩,h8];refine⟨.inr ?_,?_⟩
   ·cases down
    ·simp only[Bool.false_eq_true,if_false];exact k1
    ·simp only[if_true];rcases c with c|c
     ·exact Nat.lt_of_le_of_ne k1 fun h=>c (k4.2 h)
     ·cases c
   ·split<;>omega
  ·have c1:(2*m+1)*(2*m+1)*n=Q:=by
    by_cases g:E
    ·exact k4.1 g
    ·exact absurd (.inl g) c
   have c2:down=true:=by
    cases down
    ·exact absurd (.inr rfl) c
    ·rfl
   subst c2;rw[if_neg (fun h=>c h.2)];simp only[if_true];exact⟨.inr (by omega),by omega⟩
theorem Zm6 {x d:Int}:sgn x d<0↔x*d<0:=by
 rcases Rj x d with⟨h,g⟩|⟨h,g⟩|⟨h,g⟩<;>omega
theorem Q80 {MSg MG MS MR MQ MP MK MZ:Fn} {x d:Int} {n X D h1 l1 qh ql t h2 l2:Nat} (hX:X<=2147483648) (hD:D<=2147483648) (hn:0<n/\n<=4611686018427387904)
  (z1:MZ [I x]=some [U X]) (z2:MZ [I d]=some [U D]) (hk:MK [I 2]=some [B true]) (hp1:MP [U ((2*(X*D):Nat):Int),U ((2*(X*D):Nat):Int)]=some [U h1,U l1])
  (hq1:MQ [U h1,U l1,U n]=some [U qh,U ql,B (decide (0<2*(X*D)*(2*(X*D))%n))]) (hq2:qh*w64+ql=2*(X*D)*(2*(X*D))/n) (hql:ql<w64) (hr1:MR [U qh,U ql]=some [U t]) (ht2:t<w64)
  (hp2:MP [U t,U t]=some [U h2,U l2]) (hp3:h2*w64+l2=t*t) (hl2:l2<w64) (hs:MS [I x,I d]=some [I (sgn x d)])
  (hg:∀(more:Int) (some_ neg:Bool),MG [I 2,I more,B some_,B neg]=some [B (if more>0 then true else if more=0 then !neg else false)])
  (g1:∀{n:Nat},n<9223372036854775808->MSg [U n,B false]=some [I n,B true]) (g2:∀{n:Nat},n<=9223372036854775808->MSg [U n,B true]=some [I (-(n:Int)),B true]) {J:Nat}
  (hJ1:t%2=1->(¬(2*(X*D)*(2*(X*D))%n=0/\t*t=2*(X*D)*(2*(X*D))/n)\/ ¬sgn x d<0)->J=t/2+1) (hJ3: ¬(t%2=1/\(¬(2*(X*D)*(2*(X*D))%n=0/\t*t=2*(X*D)*(2*(X*D))/n)\/ ¬sgn x d<0))->J=t/2) (hJ2:t<=9223372036854775808):
  Qd9 MSg MG MS MR MQ MP MK MZ [I x,I d,I n,I 2]=some [I (if sgn x d<0 then-(J:Int)else J),B true]:=by
 have hXD:X*D<=2147483648*2147483648:=Nat.mul_le_mul hX hD;have w1:wrap .u64 (2*wrap .u64 ((X:Int)*(D:Int)))=((2*(X*D):Nat):Int):=by
  rw[<-Int.natCast_mul,wr (by omega),show(2:Int)*((X*D:Nat):Int)=((2*(X*D):Nat):Int) by omega,wr (by omega)]
 have w2:wrap .u64 (n:Int)=n:=wr (by omega);have w3:((t:Int)).tdiv 2=((t/2:Nat):Int):=Qh2 t 2;have w4:wrap .u64 ((t/2:Nat):Int)=((t/2:Nat):Int):=wr (by rw[Bz]at ht2;omega);have w5:wrap .u64 (((t/2:Nat):Int)+1)=((t/2+1:Nat):Int):=by rw[show((t/2:Nat):Int)+1=((t/2+1:Nat):Int) by omega,wr (by rw[Bz]at ht2;omega)]
 have w6:((t:Int).tmod 2=1)=(t%2=1):=by
  rw[Int.tmod_eq_emod_of_nonneg (by omega)];exact propext ⟨by omega,by omega⟩
 have hgt:∀(neg:Bool) (k:Nat),k<9223372036854775808->MSg [U k,B neg]=some [I (if neg=true then-(k:Int)else k),B true]:=by
  intro neg k hk;cases neg
  ·exact g1 hk
  ·exact g2 (by omega)
 have key:∀(neg:Bool) (k:Nat),decide (sgn x d<0)=neg->J=k->k<9223372036854775808->MSg [U k,B neg]=some [I (if sgn x d<0 then-(J:Int)else J),B true]:=by
  intro neg k h1 h2 h3;rw[hgt neg k h3,h2];congr 3;by_cases c:sgn x d<0
  ·rw[if_pos c,if_pos (by rw[<-h1];exact decide_eq_true c)]
  ·rw[if_neg c,if_neg (by rw[<-h1];simpa using c)]
 have eqq:(h2=qh/\l2=ql)↔t*t=2*(X*D)*(2*(X*D))/n:=by
  rw[<-hp3,<-hq2];constructor
  ·rintro⟨rfl,rfl⟩;rfl
  ·intro h;have a1:∀p q u v:Nat,u<w64->v<w64->p*w64+u=q*w64+v->p=q/\u=v:=by
    intro p q u v hu hv h;rcases Nat.lt_trichotomy p q with c|c|c
    ·have:=Nat.mul_le_mul_right w64 (show p+1<=q from c);rw[Nat.succ_mul]at this;omega
    ·subst c;exact⟨rfl,by omega⟩
    ·have:=Nat.mul_le_mul_right w64 (show q+1<=p from c);rw[Nat.succ_mul]at this;omega
   exact a1 _ _ _ _ hl2 hql h
 rw[Zcc];simp only[go_sem,z1,z2,hk,w1,w2,hp1,hq1,hr1,hs,hp2,w3,w4,w5,hg];rw[if_neg (by omega),if_neg (by omega),if_neg (by omega),if_neg (by omega),if_neg (by simp)];have ht63:t/2+1<9223372036854775808:=by omega
 have hT:∀k:Nat,J=k->k<9223372036854775808->((MSg [U (k:Int),B (decide (sgn x d<0))]).bind fun o=>some [I (Af (nth .dead o 0)),B (CM (nth .dead o 1))])=some [I (if sgn x d<0 then-(J:Int)else J),B true]:=by
  intro k h1 h2;rw[key _ k rfl h1 h2];rfl
 have e3:((h2:Int)=qh/\(l2:Int)=ql/\True)=(t*t=2*(X*D)*(2*(X*D))/n):=by
  rw[<-propext eqq];exact propext ⟨fun h=>⟨by omega,by omega⟩,fun h=>⟨by omega,by omega,trivial⟩⟩
 simp only[e3,w6];have n1:((1:Int)>0)=True:=by simp
 have n2:((-1:Int)>0)=False:=by simp
 have n3:((-1:Int)=0)=False:=by simp
 have n4:((0:Int)>0)=False:=by simp
 by_cases cR:2*(X*D)*(2*(X*D))%n=0
 ·rw[if_neg (show¬0<2*(X*D)*(2*(X*D))%n by omega)];by_cases ct:t%2=1
  ·by_cases cE:t*t=2*(X*D)*(2*(X*D))/n
   ·by_cases cn:sgn x d<0
    ·have:=hJ3 (fun h=>h.2.elim (fun g=>g ⟨cR,cE⟩) fun g=>g cn);simp only[n1,n2,n3,n4,Bool.false_eq_true,ct,cE,not_true_eq_false,if_true,if_false];rw[if_neg (by simp[cn])];exact hT _ this (by omega)
    ·have:=hJ1 ct (.inr cn);simp only[n1,n2,n3,n4,Bool.false_eq_true,ct,cE,not_true_eq_false,if_true,if_false];rw[if_pos (by simp;omega)];exact hT _ this ht63
   ·have:=hJ1 ct (.inl fun g=>cE g.2);simp only[n1,n2,n3,n4,Bool.false_eq_true,ct,cE,not_true_eq_false,not_false_eq_true,if_true,if_false];exact hT _ this ht63
  ·have:=hJ3 (fun h=>ct h.1);simp only[n1,n2,n3,n4,Bool.false_eq_true,ct,if_false,ite_self];exact hT _ this (by omega)
 ·rw[if_pos (show 0<2*(X*D)*(2*(X*D))%n by omega)];by_cases ct:t%2=1
  ·have:=hJ1 ct (.inl fun g=>cR g.1);simp only[n1,n2,n3,n4,Bool.false_eq_true,ct,not_false_eq_true,if_true];exact hT _ this ht63
  ·have:=hJ3 (fun h=>ct h.1);simp only[n1,n2,n3,n4,Bool.false_eq_true,ct,not_false_eq_true,if_true,if_false];exact hT _ this (by omega)
theorem Zno {x d:Int} {n:Nat} {J:Nat} (hn:0<n) (hd:0<=d) (hi:EL (x.natAbs*d.natAbs) n (decide (x*d<0)) J):(if x*d<0 then-(J:Int)else J)=B5 x d n:=by
 unfold B5;rw[Int.natAbs_natCast];by_cases hx:x<0
 ·rw[if_pos hx];by_cases hd0:d=0
  ·subst hd0;rw[Int.mul_zero,if_neg (by omega)];rw[show x.natAbs*(0:Int).natAbs=0 from by simp]at hi⊢;have e1:EL 0 n true 0:=⟨.inl rfl,by simp⟩;rw[Q2 e1];obtain⟨h1,-⟩:=hi;rw[decide_eq_false (by simp)]at h1;simp only[Bool.false_eq_true,if_false]at h1;rcases h1 with h1|h1
   ·omega
   ·rcases Nat.eq_zero_or_pos J with hJ|hJ
    ·omega
    ·have h2:=Nat.mul_pos (Nat.mul_pos (show 0<2*J-1 by omega) (show 0<2*J-1 by omega)) hn;omega
  ·have hxd:x*d<0:=Int.mul_neg_of_neg_of_pos hx (by omega);rw[decide_eq_true hxd]at hi;rw[if_pos hxd,Q2 hi]
 ·rw[if_neg hx];have hxd: ¬x*d<0:=by have:=Int.mul_nonneg (show 0<=x by omega) hd;omega
  rw[decide_eq_false hxd]at hi;rw[if_neg hxd,Q2 hi]
theorem XL {x d n:Int} (hx:x.natAbs<=2147483648) (hd:0<=d/\d<=2147483648) (hn:0<n/\n<=4611686018427387904):If [I x,I d,I n,I 2]=some [I (B5 x d n),B true]:=by
 obtain⟨N,rfl⟩:=Int.eq_ofNat_of_zero_le (show 0<=n by omega);have hD:d.natAbs<=2147483648:=by omega
 have hXD:x.natAbs*d.natAbs<=2147483648*2147483648:=Nat.mul_le_mul hx hD;have hN:0<N/\N<=4611686018427387904:=by omega
 have hp:2*(x.natAbs*d.natAbs)<w64:=by rw[Bz];omega
 obtain⟨h1,l1,e1,e2,e3⟩:=KL hp hp;have hNw:N<w64:=by rw[Bz];omega
 have hh1:h1<w64:=by
  have:=Nat.mul_lt_mul'' hp hp;rw[<-e2]at this;by_cases c:h1<w64
  ·exact c
  ·have:=Nat.mul_le_mul_right w64 (show w64<=h1 by omega);omega
 obtain⟨qh,ql,q1,q2,q3,q4⟩:=Zbl (M:=GE) Qwm hh1 e3 hN.1 hNw;rw[e2]at q1 q4;obtain⟨t,r1,r2,r3,r4⟩:=Qro q2 q3;rw[q4]at r2 r3;obtain⟨h2,l2,p1,p2,p3⟩:=KL r4 r4;have ht:t<=9223372036854775808:=by
  have k1:t*t<=2*(x.natAbs*d.natAbs)*(2*(x.natAbs*d.natAbs)):=Nat.le_trans r2 (Nat.div_le_self _ _);have k2:=Nat.mul_self_le_mul_self_iff.1 k1;omega
 have hi:=Zzd hN.1 r2 r3 (decide (x*d<0)) (E:=2*(x.natAbs*d.natAbs)*(2*(x.natAbs*d.natAbs))%N=0/\t*t=2*(x.natAbs*d.natAbs)*(2*(x.natAbs*d.natAbs))/N) Iff.rfl;have hres:=Zno hN.1 hd.1 hi;rw[<-hres];have:= @Zm6 x d;have hif:∀a:Int,(if x*d<0 then-a else a)=if sgn x d<0 then-a else a:=by
  intro a;by_cases c:x*d<0
  ·rw[if_pos c,if_pos (this.2 c)]
  ·rw[if_neg c,if_neg (fun h=>c (this.1 h))]
 rw[hif];refine Q80 (X:=x.natAbs) (D:=d.natAbs) hx hD hN (F9 (by unfold i64;omega)) (F9 (by unfold i64;omega)) (Qiq (.inr (.inr rfl))) e1 q1 q4 q3 r1 r4 p1 p2 p3 (S0 x d) Qyb YT Qz2 (fun h1 h2=> ?_) (fun h=> ?_) ht
 ·rw[if_pos ⟨h1,h2.imp id fun h=>decide_eq_false fun g=>h (this.2 g)⟩]
 ·rw[if_neg fun g=>h ⟨g.1,g.2.imp id fun k g2=>by rw[decide_eq_false_iff_not]at k;exact k (this.1 g2)⟩]
end Go.Bm
namespace Go.Bm
theorem Qzc {a b:Pt} (ha:bd 67108864 a) (hb:bd 67108864 b):
    wrap .i64 (wrap .i64 (wrap .i64 (0+wrap .i64 (wrap .i64 (a.x-b.x)*wrap .i64 (a.x-b.x)))+wrap .i64 (wrap .i64 (a.y-b.y)*wrap .i64 (a.y-b.y)))+wrap .i64 (wrap .i64 (a.z-b.z)*wrap .i64 (a.z-b.z)))=sqD a b:=by
  have h:∀x y:Int,x.natAbs<=67108864->y.natAbs<=67108864->0<=(x-y)*(x-y)/\(x-y)*(x-y)<=18014398509481984:=by
    intro x y hx hy;exact DG (x:=x-y) (A:=134217728) (by omega)
  have h1:=h _ _ ha.1 hb.1;have h2:=h _ _ ha.2.1 hb.2.1;have h3:=h _ _ ha.2.2 hb.2.2;obtain⟨a1,a2,a3⟩:=ha;obtain⟨b1,b2,b3⟩:=hb;rw[Ae (x:=a.x-b.x) (by omega),Ae (x:=a.y-b.y) (by omega),Ae (x:=a.z-b.z) (by omega)];unfold sqD HO Gb;simp only;generalize(a.x-b.x)*(a.x-b.x)=u at*;generalize(a.y-b.y)*(a.y-b.y)=v at*;generalize(a.z-b.z)*(a.z-b.z)=w at*;rw[Ae (x:=u) (by omega),Ae (x:=0+u) (by omega),Ae (x:=v) (by omega),Ae (x:=0+u+v) (by omega),Ae (x:=w) (by omega),Ae (by omega),Int.zero_add]
theorem Zc8 {M:Fn} {a b:Pt} {n:Nat} (ha:bd 67108864 a) (hb:bd 67108864 b) (hn:sqD a b=n)
    (hM:∃r:Nat,M [I n,I 1]=some [I ((if((1:Int)=1/\r*r<n)\/((1:Int)=2/\r*r+r<n)then r+1 else r:Nat):Int),B true]/\r*r<=n/\n<(r+1)*(r+1)):
    Qcq M [I a.x,I a.y,I a.z,I b.x,I b.y,I b.z]=some [I (AB a b)]:=by
  obtain⟨r,h1,h2,h3⟩:=hM;have hu:=Q2e h2 h3;rw[Zyh,Qzc ha hb,hn];simp only[go_sem,h1];unfold AB;rw[hn,Qkk hu];congr 3;by_cases c:r*r<n
  · rw[if_pos (.inl ⟨trivial,c⟩),if_pos c]
  · rw[if_neg (by simp[c]),if_neg c]
theorem Qlj {a b:Pt} (ha:bd 67108864 a) (hb:bd 67108864 b):IS [I a.x,I a.y,I a.z,I b.x,I b.y,I b.z]=some [I (AB a b)]:=by
  have h0:=PJ a b;have h1:=O5 ha hb (Nat.le_refl _);obtain⟨n,hn⟩:=Int.eq_ofNat_of_zero_le h0;exact Zc8 ha hb hn (Qn4 (by omega) (.inl rfl))
theorem Zsu {MO:Fn} {a b:Spk} {u w:Int} (ha:okS a) (hb:okS b) (hu:u.natAbs<=100000000) (hw:w.natAbs<=100000000)
    (hO: ¬(u=0/\w=0)->MO [I u,I (hf a.r b.r),I (sq2 u w),I 2]=some [I (B5 u (hf a.r b.r) (sq2 u w)),B true]/\MO [I w,I (hf a.r b.r),I (sq2 u w),I 2]=some [I (B5 w (hf a.r b.r) (sq2 u w)),B true]):
    (bif u == 0 then
      bif w==0 then some [AC.int IntKind.i64 0,AC.int IntKind.i64 0,AC.int IntKind.i64 0,AC.int IntKind.i64 0,AC.bool false]
      else(MO [AC.int IntKind.i64 u,AC.int IntKind.i64 ((wrap .i64 (wrap .i64 (a.r+b.r)+1)).fdiv (2^min (Int.toNat 1) IntKind.i64.bits)),AC.int IntKind.i64 (wrap .i64 (wrap .i64 (u*u)+wrap .i64 (w*w))),AC.int IntKind.i64 2]).bind fun o36=>
       (MO [AC.int IntKind.i64 w,AC.int IntKind.i64 ((wrap .i64 (wrap .i64 (a.r+b.r)+1)).fdiv (2^min (Int.toNat 1) IntKind.i64.bits)),AC.int IntKind.i64 (wrap .i64 (wrap .i64 (u*u)+wrap .i64 (w*w))),AC.int IntKind.i64 2]).bind fun o37=>
       some [AC.int IntKind.i64 (Af (nth AC.dead o36 0)),AC.int IntKind.i64 (Af (nth AC.dead o37 0)),AC.int IntKind.i64 ((wrap .i64 (wrap .i64 (a.r+b.r)+1)).fdiv (2^min (Int.toNat 1) IntKind.i64.bits)),AC.int IntKind.i64 ((wrap .i64 (wrap .i64 (a.h+b.h)+1)).fdiv (2^min (Int.toNat 1) IntKind.i64.bits)),AC.bool true]
     else(MO [AC.int IntKind.i64 u,AC.int IntKind.i64 ((wrap .i64 (wrap .i64 (a.r+b.r)+1)).fdiv (2^min (Int.toNat 1) IntKind.i64.bits)),AC.int IntKind.i64 (wrap .i64 (wrap .i64 (u*u)+wrap .i64 (w*w))),AC.int IntKind.i64 2]).bind fun o36=>
       (MO [AC.int IntKind.i64 w,AC.int IntKind.i64 ((wrap .i64 (wrap .i64 (a.r+b.r)+1)).fdiv (2^min (Int.toNat 1) IntKind.i64.bits)),AC.int IntKind.i64 (wrap .i64 (wrap .i64 (u*u)+wrap .i64 (w*w))),AC.int IntKind.i64 2]).bind fun o37=>
       some [AC.int IntKind.i64 (Af (nth AC.dead o36 0)),AC.int IntKind.i64 (Af (nth AC.dead o37 0)),AC.int IntKind.i64 ((wrap .i64 (wrap .i64 (a.r+b.r)+1)).fdiv (2^min (Int.toNat 1) IntKind.i64.bits)),AC.int IntKind.i64 ((wrap .i64 (wrap .i64 (a.h+b.h)+1)).fdiv (2^min (Int.toNat 1) IntKind.i64.bits)),AC.bool true])=
    some (C3 (Hd a b u w)++[B (decide (¬(u=0/\w=0)))]):=by
  have q1:=DG hu;have q2:=DG hw;have e:wrap .i64 (wrap .i64 (u*u)+wrap .i64 (w*w))=sq2 u w:=by
    unfold sq2;generalize u*u=x at*;generalize w*w=y at*;rw[Ae (x:=x) (by omega),Ae (x:=y) (by omega),Ae (by omega)]
  have er:(wrap .i64 (wrap .i64 (a.r+b.r)+1)).fdiv (2^min (Int.toNat 1) IntKind.i64.bits)=hf a.r b.r:=by
    have h1:=ha.2.2.1;have h2:=hb.2.2.1;rw[Ae (x:=a.r+b.r) (by omega),Ae (x:=a.r+b.r+1) (by omega),show(2^min (Int.toNat 1) IntKind.i64.bits:Int)=2 from rfl,Int.fdiv_eq_ediv_of_nonneg _ (by omega)];rfl
  have eh:(wrap .i64 (wrap .i64 (a.h+b.h)+1)).fdiv (2^min (Int.toNat 1) IntKind.i64.bits)=hf a.h b.h:=by
    have h1:=ha.2.2.2;have h2:=hb.2.2.2;rw[Ae (x:=a.h+b.h) (by omega),Ae (x:=a.h+b.h+1) (by omega),show(2^min (Int.toNat 1) IntKind.i64.bits:Int)=2 from rfl,Int.fdiv_eq_ediv_of_nonneg _ (by omega)];rfl
  simp only[er,eh,e];simp only[go_sem];unfold Hd;by_cases h:u=0/\w=0
  · rw[if_pos h.1,if_pos h.2,if_pos h]
    simp[h]
  · obtain⟨n1,n2⟩:=hO h
    rw[if_neg h];simp only[n1,n2,go_sem];have hd:decide (¬(u=0/\w=0))=true:=decide_eq_true h;rw[hd];by_cases hu0:u=0
    · rw[if_pos hu0,if_neg (fun hw0=>h ⟨hu0,hw0⟩)];try rfl
    · rw[if_neg hu0];try rfl
theorem Zug {MO MC MD:Fn} {a b:Spk} (ha:okS a) (hb:okS b) {dir:Int} (hd:dir=1\/dir= -1) (full:Bool)
    (hO:∀{u w:Int},u.natAbs<=100000000->w.natAbs<=100000000-> ¬(u=0/\w=0)->MO [I u,I (hf a.r b.r),I (sq2 u w),I 2]=some [I (B5 u (hf a.r b.r) (sq2 u w)),B true]/\MO [I w,I (hf a.r b.r),I (sq2 u w),I 2]=some [I (B5 w (hf a.r b.r) (sq2 u w)),B true])
    (hC:MC [I a.u,I a.w,I a.r,I a.h,I b.u,I b.w,I b.r,I b.h]=some [I (crs a.u a.w b.u b.w)]) (hD:MD [I a.u,I a.w,I a.r,I a.h,I b.u,I b.w,I b.r,I b.h]=some [I (dt2 a.u a.w b.u b.w)])
    (hcb:(crs a.u a.w b.u b.w).natAbs<=5000000000000000):
    Qd0 MO MC MD [I a.u,I a.w,I a.r,I a.h,I b.u,I b.w,I b.r,I b.h,I dir,B full]=some (C3 (EC a b dir full)++[B (decide (¬((Dq a b dir full).1=0/\(Dq a b dir full).2=0)))]):=by
  have key:=fun{u w:Int} (hu:u.natAbs<=100000000) (hw:w.natAbs<=100000000)=>Zsu (MO:=MO) (a:=a) (b:=b) ha hb hu hw (hO hu hw);have hbd:=Ok ha hb hd full;obtain⟨a1,a2,-⟩:=ha;obtain⟨b1,b2,-⟩:=hb;have w1:wrap .i64 (0-a.u)= -a.u:=by rw[Ae (by omega)];omega
  have w2:wrap .i64 (0-a.w)= -a.w:=by rw[Ae (by omega)];omega
  have w3:wrap .i64 (a.u+b.u)=a.u+b.u:=Ae (by omega);have w4:wrap .i64 (a.w+b.w)=a.w+b.w:=Ae (by omega);have w5:wrap .i64 (0-(a.u+b.u))= -(a.u+b.u):=by rw[Ae (by omega)];omega
  have w6:wrap .i64 (0-(a.w+b.w))= -(a.w+b.w):=by rw[Ae (by omega)];omega
  have w7:wrap .i64 (b.w-a.w)=b.w-a.w:=Ae (by omega);have w8:wrap .i64 (a.u-b.u)=a.u-b.u:=Ae (by omega);have w9:wrap .i64 (dir*(b.w-a.w))=dir*(b.w-a.w):=by rcases hd with rfl|rfl<;>exact Ae (by omega)
  have w10:wrap .i64 (dir*(a.u-b.u))=dir*(a.u-b.u):=by rcases hd with rfl|rfl<;>exact Ae (by omega)
  have w11:wrap .i64 (crs a.u a.w b.u b.w*dir)=crs a.u a.w b.u b.w*dir:=by rcases hd with rfl|rfl<;>exact Ae (by omega)
  rw[Q8g];try dsimp only[go_sem]
  unfold EC;simp only[w1,w2,w3,w4,w5,w6,w7,w8,w9,w10,hC,hD,Option.bind_some,Ho,HH,gA,jA,wA,bA,w11];have fin:∀{x:Option (List AC)},x=some (C3 (Hd a b (Dq a b dir full).1 (Dq a b dir full).2)++[B (decide (¬((Dq a b dir full).1=0/\(Dq a b dir full).2=0)))])->
      (bif dir !=1 then bif dir != -1 then some [AC.int IntKind.i64 0,AC.int IntKind.i64 0,AC.int IntKind.i64 0,AC.int IntKind.i64 0,AC.bool false]else x else x)=some (C3 (Hd a b (Dq a b dir full).1 (Dq a b dir full).2)++[B (decide (¬((Dq a b dir full).1=0/\(Dq a b dir full).2=0)))]):=by
    intro x hx;rcases hd with rfl|rfl
    · rw[Bf (by decide)];exact hx
    · rw[Bu (by decide),Bf (by decide)];exact hx
  refine fin ?_;have hk:=key hbd.1 hbd.2;unfold Dq at*;cases full
  · simp only[cond_false,Bool.false_eq_true,if_false]at hk⊢
    by_cases c1:0<dt2 a.u a.w b.u b.w
    · rw[AX (show¬dt2 a.u a.w b.u b.w<=0 by omega)]
      by_cases c2:0<crs a.u a.w b.u b.w*dir
      · rw[AX (show¬crs a.u a.w b.u b.w*dir<=0 by omega)]
        rw[if_pos ⟨c1,c2⟩]at hk⊢;exact hk
      · rw[DT (show crs a.u a.w b.u b.w*dir<=0 by omega)]
        rw[if_neg (fun h=>c2 h.2),if_pos c1]at hk⊢;exact hk
    · rw[DT (show dt2 a.u a.w b.u b.w<=0 by omega)]
      rw[if_neg (fun h=>c1 h.1),if_neg c1]at hk⊢;exact hk
  · simp only[cond_true,if_true]at hk⊢
    exact hk
theorem Zqi {u w r:Int} (hu:u.natAbs<=100000000) (hw:w.natAbs<=100000000) (hr:0<=r/\r<=50000000) (h: ¬(u=0/\w=0)):
    If [I u,I r,I (sq2 u w),I 2]=some [I (B5 u r (sq2 u w)),B true]/\If [I w,I r,I (sq2 u w),I 2]=some [I (B5 w r (sq2 u w)),B true]:=by
  have hp:=TX h;have h1:=DG hu;have h2:=DG hw;have h3:sq2 u w<=20000000000000000:=by unfold sq2;omega
  exact⟨XL (by omega) (by omega) (by omega),XL (by omega) (by omega) (by omega)⟩
theorem Q85 {a b:Spk} (ha:okS a) (hb:okS b) {dir:Int} (hd:dir=1\/dir= -1) (full:Bool):
    Ly [I a.u,I a.w,I a.r,I a.h,I b.u,I b.w,I b.r,I b.h,I dir,B full]=some (C3 (EC a b dir full)++[B (decide (¬((Dq a b dir full).1=0/\(Dq a b dir full).2=0)))]):=by
  have hc:=(Qrl ha.1 ha.2.1 hb.1 hb.2.1).2;exact Zug ha hb hd full (fun hu hw h=>Zqi hu hw (Q34 ha.2.2.1 hb.2.2.1) h)
    (UG (Gt ha.1) (Gt ha.2.1) (Gt hb.1) (Gt hb.2.1)) (YH (Gt ha.1) (Gt ha.2.1) (Gt hb.1) (Gt hb.2.1)) hc
def okT (s:Spk):Prop:=okS s/\ ¬(s.u=0/\s.w=0)/\1<=s.r
theorem Q1n {a b:Spk} (ha: ¬(a.u=0/\a.w=0)) (hb: ¬(b.u=0/\b.w=0)) {dir:Int} (hd:dir=1\/dir= -1) (full:Bool): ¬((Dq a b dir full).1=0/\(Dq a b dir full).2=0):=by
  have hp:=TX ha;unfold sq2 at hp;unfold Dq;split
  · simp only;omega
  · rename_i hf
    have key:0<dt2 a.u a.w b.u b.w-> ¬(a.u+b.u=0/\a.w+b.w=0):=by
      intro h1 ⟨h2,h3⟩;have e1:b.u= -a.u:=by omega
      have e2:b.w= -a.w:=by omega
      unfold dt2 at h1;rw[e1,e2,Int.mul_neg,Int.mul_neg]at h1;omega
    split
    · rename_i c;exact key c.1
    · split
      · rename_i c1 c2
        have:=key c2;simp only;omega
      · rename_i c1 c2
        simp only;rintro⟨h2,h3⟩;have e1:b.w=a.w/\a.u=b.u:=by rcases hd with rfl|rfl<;>omega
        unfold dt2 at c2;rw[e1.1,<-e1.2]at c2;omega
theorem Zes {u w r:Int} (hu:u.natAbs<=100000000) (hw:w.natAbs<=100000000) (hr:1<=r/\r<=50000000) (h: ¬(u=0/\w=0)): ¬(B5 u r (sq2 u w)=0/\B5 w r (sq2 u w)=0):=by
  have hp:=TX h;have h1:=DG hu;have h2:=DG hw;have h3:sq2 u w<=20000000000000000:=by unfold sq2;omega
  obtain⟨q1,q2⟩:=Qo6 u w;have key:∀x:Int,x.natAbs<=100000000->x*x<=sq2 u w->B5 x r (sq2 u w)=0->4*(x*x)<=sq2 u w:=by
    intro x hx hq h0;obtain⟨-,-,g3⟩:=Th (x:=x) (r:=r) (n:=sq2 u w) (Nat.le_trans hx (by decide)) (by omega) (by omega) hq;rw[h0]at g3;obtain⟨-,g3⟩:=g3;have g4:4*(x.natAbs*r.natAbs*(x.natAbs*r.natAbs))<=(sq2 u w).natAbs:=by
      rw[show(0:Int).natAbs=0 from rfl]at g3;split at g3<;>omega
    have e1:x.natAbs*r.natAbs*(x.natAbs*r.natAbs)=x.natAbs*x.natAbs*(r.natAbs*r.natAbs):=by grind
    have g5:x.natAbs*x.natAbs*1<=x.natAbs*x.natAbs*(r.natAbs*r.natAbs):=Nat.mul_le_mul_left _ (Nat.mul_le_mul (show 1<=r.natAbs by omega) (show 1<=r.natAbs by omega));have e2:((x.natAbs*x.natAbs:Nat):Int)=x*x:=Int.natAbs_mul_self;omega
  rintro⟨g1,g2⟩;have k1:=key u hu q1 g1;have k2:=key w hw q2 g2;unfold sq2 at*;omega
theorem Zpk {a b:Spk} (ha:okT a) (hb:okT b) {dir:Int} (hd:dir=1\/dir= -1) (full:Bool):okT (EC a b dir full):=by
  have hn:=Q1n ha.2.1 hb.2.1 hd full;have hbd:=Ok ha.1 hb.1 hd full;have h1:=ha.1.2.2.1;have h2:=hb.1.2.2.1;have h3:=ha.2.2;have h4:=hb.2.2;have hh:1<=hf a.r b.r/\hf a.r b.r<=50000000:=by unfold hf;omega
  refine⟨Q2h ha.1 hb.1 hd full,?_,?_⟩
  · unfold EC Hd
    rw[if_neg hn];exact Zes hbd.1 hbd.2 hh hn
  · unfold EC Hd
    rw[if_neg hn];exact hh.1
theorem Zly {r n:Int} (hr:0<=r/\r<=50000000):Nn [I r,I n]=some [B (decide (n<=32*r-64))]:=by
  unfold Nn;rw[Zzk,Ae (x:=8*r) (by omega),Ae (x:=8*r*4) (by omega),Ae (x:=8*r*4-64) (by omega),show 8*r*4-64=32*r-64 by omega]
theorem Zph {MF MC:Fn} {out:Rw} {a b:Spk} (ha:okS a) (hb:okS b) {dir:Int} (hd:dir=1\/dir= -1) (full:Bool)
    (hF:∀{r n:Int},(0<=r/\r<=50000000)->MF [I r,I n]=some [B (decide (n<=32*r-64))])
    (hC:MC [I a.u,I a.w,I a.r,I a.h,I b.u,I b.w,I b.r,I b.h]=some [I (crs a.u a.w b.u b.w)]) (hcb:(crs a.u a.w b.u b.w).natAbs<=5000000000000000):
    WU MF MC [.view Ej out,I a.u,I a.w,I a.r,I a.h,I b.u,I b.w,I b.r,I b.h,B full,I dir]=some [.view Ej out,B (decide (Ia a b dir full)),I dir]:=by
  have hr:0<=mn a.r b.r/\mn a.r b.r<=50000000:=by
    have h1:=ha.2.2.1;have h2:=hb.2.2.1;unfold mn;split<;>omega
  obtain⟨a1,a2,-⟩:=ha;obtain⟨b1,b2,-⟩:=hb;have x1:=H5 a1 b1;have x2:=H5 a2 b2;have q1:=DG x1;have q2:=DG x2;have e:wrap .i64 (wrap .i64 ((a.u-b.u)*(a.u-b.u))+wrap .i64 ((a.w-b.w)*(a.w-b.w)))=sq2 (a.u-b.u) (a.w-b.w):=by
    unfold sq2;generalize(a.u-b.u)*(a.u-b.u)=x at*;generalize(a.w-b.w)*(a.w-b.w)=y at*;rw[Ae (x:=x) (by omega),Ae (x:=y) (by omega),Ae (by omega)]
  have w11:wrap .i64 (crs a.u a.w b.u b.w*dir)=crs a.u a.w b.u b.w*dir:=by rcases hd with rfl|rfl<;>exact Ae (by omega)
  rw[Zqr,HK x1 (by decide),HK x2 (by decide),e];cases full
  · simp only[Bool.not_false,cond_true,hC,Option.bind_some,Ho,HH,gA,jA,wA,bA,w11,hF hr,Qay]
    by_cases c:0<crs a.u a.w b.u b.w*dir
    · rw[DT (show crs a.u a.w b.u b.w*dir>0 from c)]
      by_cases c2:sq2 (a.u-b.u) (a.w-b.w)<=32*mn a.r b.r-64
      · rw[decide_eq_true c2,decide_eq_true (show Ia a b dir false from⟨rfl,c,c2⟩)]
      · rw[decide_eq_false c2,decide_eq_false (fun h:Ia a b dir false=>c2 h.2.2)]
    · rw[AX (show¬crs a.u a.w b.u b.w*dir>0 from c),decide_eq_false (fun h:Ia a b dir false=>c h.2.1)]
  · simp only[Bool.not_true,cond_false]
    rw[decide_eq_false (fun h:Ia a b dir true=>by cases h.1)]
theorem Zpq {out:Rw} {a b:Spk} (ha:okS a) (hb:okS b) {dir:Int} (hd:dir=1\/dir= -1) (full:Bool):
    KD [.view Ej out,I a.u,I a.w,I a.r,I a.h,I b.u,I b.w,I b.r,I b.h,B full,I dir]=some [.view Ej out,B (decide (Ia a b dir full)),I dir]:=
  Zph ha hb hd full Zly (UG (Gt ha.1) (Gt ha.2.1) (Gt hb.1) (Gt hb.2.1)) (Qrl ha.1 ha.2.1 hb.1 hb.2.1).2
theorem ZO {dir:Int} (hd:dir=1\/dir= -1):∀(n k:Nat) (full:Bool) (a b:Spk) (out:List Spk),k<=16->k<n->okT a->okT b->out.length+2^k<=1000000->
    Oj n [.view Ej (out.map C3),I a.u,I a.w,I a.r,I a.h,I b.u,I b.w,I b.r,I b.h,B full,I (16-k:Int),I dir]=some [.view Ej ((out++DI dir k full a b).map C3),I dir]
  |0,k,_,_,_,_,_,hk,_,_,_=>by omega
  |n+1,0,full,a,b,out,_,_,ha,hb,ho=>by
    show R5 _ _ _ _=_;rw[Qzs,AX (by omega),Bu]
    · unfold DI
      rw[List.map_append];rfl
    · exact Nat.ble_eq_true_of_le (by simp only[List.length_append,List.length_map,List.length_cons,List.length_nil];omega)
  |n+1,k+1,full,a,b,out,hk,hn,ha,hb,ho=>by
    have hm:=Zpk ha hb hd full;have hz:=Q1n ha.2.1 hb.2.1 hd full;have e3:2^(k+1)=2^k+2^k:=by rw[Nat.pow_succ];omega
    have hp:0<2^k:=Nat.two_pow_pos _;have l1:=(Rg k false a (EC a b dir full) (dir:=dir)).2;have i1:=ZO hd n k false a (EC a b dir full) out (by omega) (by omega) ha hm (by omega);have i2:=ZO hd n k false (EC a b dir full) b (out++DI dir k false a (EC a b dir full)) (by omega) (by omega) hm hb (by rw[List.length_append];omega);have e1:=Zpq (out:=out.map C3) ha.1 hb.1 hd full;have e2:=Q85 ha.1 hb.1 hd full;rw[decide_eq_true hz]at e2;show R5 (Oj n) Ly KD _=_;generalize Oj n=MP at*;generalize Ly=MM at*;generalize KD=MS at*;rw[Qzs,DT (by omega),Ae (by omega),show(16-((k+1:Nat):Int)+1)=16-(k:Int) by omega];unfold DI;generalize EC a b dir full=m at*;generalize DI dir k false a m=p1 at*;generalize DI dir k false m b=p2 at*;simp only[List.cons_append,List.nil_append,C3]at e2;simp only[e1,e2,Option.bind_some,Ho,Ks,Lw,Ql,O4,HH,gA,jA,wA,bA,Qay,i1,i2,Qa2];by_cases c:Ia a b dir full
    · rw[if_pos c,Bf (by simp[c]),Bu]
      · rw[List.map_append];rfl
      · exact Nat.ble_eq_true_of_le (by simp only[List.length_append,List.length_map,List.length_cons,List.length_nil];omega)
    · rw[if_neg c,Bu (by simp[c]),cond_true,List.append_assoc]
end Go.Bm
namespace Go.Bm
theorem Q52 {it:Itm} {p:Pt} (hc:bd 1048576 it.ce) (hp:bd 1048576 p) (hq:64<=sq2 (dU it p) (dW it p)):okT (Ev it p):=by
 obtain⟨h1,h2,h3,h4⟩:=Qe hc hp;have e:sq2 (dU it p*16) (dW it p*16)=256*sq2 (dU it p) (dW it p):=by unfold sq2;grind
 refine⟨Sj hc hp,?_,?_⟩
 ·show¬(dU it p*16=0/\dW it p*16=0);rintro⟨g1,g2⟩;rw[show dU it p=0 by omega,show dW it p=0 by omega]at hq;simp[sq2]at hq
 ·show 1<=FE _;obtain⟨n,hn⟩:=Int.eq_ofNat_of_zero_le h3;rw[hn]at h4⊢;obtain⟨r,-,r2,r3,-⟩:=Sq (n:=n) (by omega);rw[Rb (S3 r2 r3)];have:1<=r:=by
   rcases Nat.eq_zero_or_pos r with h|h
   ·subst h;omega
   ·exact h
  split<;>omega
theorem Zxv {n:Nat} (hn:n<=2251799813685248):Jf [I n,I 2]=some [I (FE n),B true]:=by
 obtain⟨r,h1,h2,h3⟩:=Qn4 (n:=n) (mode:=2) (by omega) (.inr rfl);rw[h1,Rb (S3 h2 h3)];congr 3;by_cases c:r*r+r<n
 ·rw[if_pos (.inr ⟨rfl,c⟩),if_pos c]
 ·rw[if_neg (by simp;omega),if_neg c]
theorem Zbv {MP MQ MD ME MV:Fn} {it:Itm} (hV:∃v,MV (Ah it)=some [B v]/\(v=true↔Dj it)) (h:Dj it)
  (hE:it.kind=3->ME (Ah it)=some [I (dU it it.fr*16),I (dW it it.fr*16),I 0,I (plH it.aG it.fr*16),I (dU it it.to*16),I (dW it it.to*16),I 0,I (plH it.aG it.to*16)])
  (hD:∀p:Pt,it.kind=3->(p=it.fr\/p=it.to)->MD [I (dU it p*16),I (dW it p*16),I 0,I (plH it.aG p*16),I (dU it p*16),I (dW it p*16),I 0,I (plH it.aG p*16)]=some [I (sq2 (dU it p*16) (dW it p*16))])
  (hQ:∀p:Pt,it.kind=3->(p=it.fr\/p=it.to)->MQ [I (sq2 (dU it p*16) (dW it p*16)),I 2]=some [I (FE (sq2 (dU it p*16) (dW it p*16))),B true])
  (hP:it.kind=3->MP (.view Ej [C3 (Ev it it.fr)]::C3 (Ev it it.fr)++C3 (Ev it it.to)++[B it.full,I 0,I it.dir])=some [.view Ej ((DQ it).map C3),I it.dir]):
  W5 MP MQ MD ME MV (Ah it)=if it.kind=3 then some [.view Ej ((DQ it).map C3),B true]else some [.view Ej [],B false]:=by
 obtain⟨v,hv,hvv⟩:=hV;rw[Zxz];by_cases h3:it.kind=3
 ·have e:=hE h3;have p:=hP h3;have d1:=hD it.fr h3 (.inl rfl);have d2:=hD it.to h3 (.inr rfl);have q1:=hQ it.fr h3 (.inl rfl);have q2:=hQ it.to h3 (.inr rfl);simp only[List.cons_append,List.nil_append,Ev,C3]at p;simp only[go_sem,hv,e,d1,d2,q1,q2,p];rw[if_neg (by simp[h3]),if_neg (by simp[hvv.2 h]),if_pos h3]
 ·simp only[go_sem];rw[if_pos h3,if_neg h3]
theorem Zml {it:Itm} (h:Dj it):NX (Ah it)=if it.kind=3 then some [.view Ej ((DQ it).map C3),B true]else some [.view Ej [],B false]:=by
 have hb:it.kind=3->∀p:Pt,(p=it.fr\/p=it.to)->bd 1048576 it.ce/\bd 1048576 p:=by
  intro h3 p hp;obtain⟨-,h1,h2,ha⟩:=h;obtain⟨-,-,hc,-⟩:=ha h3;rcases hp with rfl|rfl
  ·exact⟨hc,h1⟩
  ·exact⟨hc,h2⟩
 refine Zbv (Qha it) h (fun h3=> ?_) (fun p h3 hp=> ?_) (fun p h3 hp=> ?_) fun h3=> ?_
 ·obtain⟨-,h1,h2,ha⟩:=h;obtain⟨hp,-,hc,-⟩:=ha h3;exact Qxn hp h1 h2 hc
 ·obtain⟨hc,hp2⟩:=hb h3 p hp;obtain⟨g1,g2,-⟩:=Qe hc hp2;exact YH (Nat.le_trans g1 (by decide)) (Nat.le_trans g2 (by decide)) (Nat.le_trans g1 (by decide)) (Nat.le_trans g2 (by decide))
 ·obtain⟨hc,hp2⟩:=hb h3 p hp;obtain⟨-,-,g3,g4⟩:=Qe hc hp2;obtain⟨n,hn⟩:=Int.eq_ofNat_of_zero_le g3;rw[hn]at g4⊢;exact Zxv (by omega)
 ·obtain⟨-,h1,h2,ha⟩:=h;obtain⟨hp,hd,hc,t1,t2,-⟩:=ha h3;have:=ZO hd 20 16 it.full (Ev it it.fr) (Ev it it.to) [Ev it it.fr] (by omega) (by omega) (Q52 hc h1 t1) (Q52 hc h2 t2) (show 1+2^16<=1000000 by decide);exact this
theorem Zev {u w h pl:Int} (hp:EO pl):Of [I u,I w,I h,I pl]=some (ptR (spP pl u w h)):=by
 show V1 FG _=_;have h1:=Qg8 pl;generalize FG=M at*;rw[Zao];rcases hp with rfl|rfl|rfl
 ·have e:axI 17=(0,1,2):=rfl;rw[e]at h1;rw[h1];rfl
 ·have e:axI 18=(2,0,1):=rfl;rw[e]at h1;rw[h1];rfl
 ·have e:axI 19=(1,2,0):=rfl;rw[e]at h1;rw[h1];rfl
theorem Zfd {α:Type} (pre rest:List α) (x z:α):(pre++x::rest).set pre.length z=(pre++[z])++rest:=by
 rw[List.set_append_right _ _ (Nat.le_refl _),Nat.sub_self];simp
def Er {α:Type} (f:Nat->α) (z:α) (n i:Nat):List α:=(List.range i).map f++List.replicate (n-i) z
theorem Q5u {α:Type} (f:Nat->α) (z:α) {n i:Nat} (h:i<=n):(Er f z n i).length=n:=by unfold Er;simp;omega
theorem Qzd {α:Type} (f:Nat->α) (z:α) {n i:Nat} (h:i<n):(Er f z n i).set i (f i)=Er f z n (i+1):=by
 unfold Er;have e:n-i=(n-(i+1))+1:=by omega
 rw[e,List.replicate_succ];have:=Zfd ((List.range i).map f) (List.replicate (n-(i+1)) z) z (f i);rw[List.length_map,List.length_range]at this;rw[this,List.range_succ,List.map_append];rfl
theorem Q1c {α:Type} (f:Nat->α) (z:α) (n:Nat):Er f z n n=(List.range n).map f:=by unfold Er;simp
theorem Zcv {α:Type} (l:List α) (d:α):(List.range l.length).map (fun i=>l.getD i d)=l:=by
 apply List.ext_getElem
 ·simp
 ·intro i h1 h2;simp[h2]
def Jl:Spk:=⟨0,0,0,0⟩
theorem Qx6 {MS MP MF MK MV:Fn} {it:Itm} {l:List Spk} {cu cw:Int} (hl:l.length<=65537) (hcu:cu.natAbs<=16777216) (hcw:cw.natAbs<=16777216) (hok:∀s∈l,okS s)
  (hS:∀{u w h:Int},MS [I u,I w,I h,I it.aG]=some (ptR (spP it.aG u w h))) {f:Nat->List AC} (hf:∀i,f i=ptR (spP it.aG (cu+(l.getD i Jl).u) (cw+(l.getD i Jl).w) (l.getD i Jl).h)):
  ∀(k i:Nat),i+k=l.length->Am (Nl MS MP MF MK MV) (.view kPt (Er f [I 0,I 0,I 0] l.length i)::I cu::I cw:: .view Ej (l.map C3)::I l.length::I i::Ah it)=
   some (1,[.view kPt ((List.range l.length).map f)])
 |0,i,hi=>by
  refine Bb ?_ (by simp);rw[Qpw];simp only[go_sem];rw[if_neg (by omega),show i=l.length by omega,Q1c]
 |k+1,i,hi=>by
  have hlt:i<l.length:=by omega
  have hs:Nl MS MP MF MK MV (.view kPt (Er f [I 0,I 0,I 0] l.length i)::I cu::I cw:: .view Ej (l.map C3)::I l.length::I i::Ah it)=
    some (0, .view kPt (Er f [I 0,I 0,I 0] l.length (i+1))::I cu::I cw:: .view Ej (l.map C3)::I l.length::I (i+1:Nat)::Ah it):=by
   rw[Qpw];have hr:nth [] (l.map C3) i=C3 l[i]:=I1 _ _ _ _ hlt;have ho:=hok _ (List.getElem_mem hlt);have hfl:=Q5u f [I 0,I 0,I 0] (show i<=l.length by omega);have hfi:=hf i;rw[show l.getD i Jl=l[i] by simp[hlt]]at hfi;have hset:=Qzd f [I 0,I 0,I 0] hlt;rw[hfi]at hset;generalize l[i]=s at*;obtain⟨s1,s2,-⟩:=ho;simp only[go_sem,Int.toNat_natCast,List.length_map,hr];rw[if_pos (by omega),if_pos (by omega),Ae (x:=cu+s.u) (by omega),Ae (x:=cw+s.w) (by omega),Ae (x:=(i:Int)+1) (by omega)];simp only[hS,go_sem,hfl];rw[if_pos (by omega),hset];rfl
  rw[Bw hs];exact Qx6 hl hcu hcw hok hS hf k (i+1) (by omega)
theorem Z1x {MS MP MF MK MV:Fn} {N:Lp} {it:Itm} {S:List Spk} {C:Rw} {f:Pt} {u w h:Int} (hv:MV (Ah it)=some [B true])
  (hK:MK (Ah it)=some [.view Ej (S.map C3),B true]) (hf:MF [I it.ce.x,I it.ce.y,I it.ce.z]=some (ptR f)) (hpp:MP [I f.x,I f.y,I f.z,I it.aG]=some [I u,I w,I h]) (hS:S.length<=65537)
  (hN:N [.view kPt (List.replicate S.length [I 0,I 0,I 0]),I u,I w, .view Ej (S.map C3),I S.length,I 0,I it.kind,I it.block,I it.fr.x,I it.fr.y,I it.fr.z,I it.to.x,I it.to.y,I it.to.z,I it.aG,I it.ce.x,I it.ce.y,I it.ce.z,I it.dir,B it.full,I it.feed,B it.perRev,I it.side,I it.radius,I it.blend,I it.n,I it.speed,B it.on]=some (1,[.view kPt C])):
  RR MS MP MF MK MV N (Ah it)=some [.view kPt C,B true]:=by
 rw[X1];simp only[go_sem,hv,hK,hf,hpp,List.length_map,Int.toNat_natCast,hN];rw[if_neg (by simp),if_neg (by simp),if_pos (by omega)]
theorem Zwq {MS MP MF MK MV:Fn} {it:Itm} (hV:∃v,MV (Ah it)=some [B v]/\(v=true↔Dj it)) (h:Dj it)
  (hK:MK (Ah it)=if it.kind=3 then some [.view Ej ((DQ it).map C3),B true]else some [.view Ej [],B false])
  (hF:∀{p:Pt},bd 100000000 p->MF [I p.x,I p.y,I p.z]=some (ptR (Ax p))) (hP:EO it.aG->∀{p:Pt},MP [I p.x,I p.y,I p.z,I it.aG]=some [I (plU it.aG p),I (plW it.aG p),I (plH it.aG p)])
  (hS:EO it.aG->∀{u w h:Int},MS [I u,I w,I h,I it.aG]=some (ptR (spP it.aG u w h))):
  RR MS MP MF MK MV (Am (Nl MS MP MF MK MV)) (Ah it)=some [.view kPt ((B0 it).map ptR),B true]:=by
 obtain⟨v,hv,hvv⟩:=hV;rw[X1];have hv1:=hvv.2 h;subst hv1;obtain⟨-,h1,h2,ha⟩:=id h;by_cases h3:it.kind=3
 ·obtain⟨hp,hd,hc,-⟩:=ha h3;rw[if_pos h3]at hK;obtain⟨c1,c2,c3⟩:=Ir (pl:=it.aG) (Ff hc);have hsl:=(Qwq it).2;have hl:=Qx6 (MS:=MS) (MP:=MP) (MF:=MF) (MK:=MK) (MV:=MV) (it:=it) (l:=DQ it) (cu:=plU it.aG (Ax it.ce)) (cw:=plW it.aG (Ax it.ce)) hsl c1 c2 (Q4p h h3) (hS hp)
   (f:=fun i=>ptR (I7 it ((DQ it).getD i Jl))) (fun _=>rfl) (DQ it).length 0 (by omega)
  have hres:(List.range (DQ it).length).map (fun i=>ptR (I7 it ((DQ it).getD i Jl)))=((DQ it).map (I7 it)).map ptR:=by
   rw[List.map_map]
   conv=>rhs;rw[<-Zcv (DQ it) Jl]
   rw[List.map_map];rfl
  rw[hres]at hl;have hf0:Er (fun i=>ptR (I7 it ((DQ it).getD i Jl))) [I 0,I 0,I 0] (DQ it).length 0=List.replicate (DQ it).length [I 0,I 0,I 0]:=by unfold Er;simp
  rw[hf0]at hl;have hf:=hF (A7 hc (by decide));have hpp:= @hP hp (Ax it.ce);have:=Z1x (MS:=MS) (N:=Am (Nl MS MP MF MK MV)) hv hK hf hpp hsl hl;rw[X1]at this;unfold B0;rw[if_pos h3];exact this
 ·rw[if_neg h3]at hK;have f1:=hF (A7 h1 (by decide));have f2:=hF (A7 h2 (by decide));unfold B0;rw[if_neg h3];simp only[go_sem,hv,hK,f1,f2];simp
theorem Zu7 {it:Itm} (h:Dj it):Qh (Ah it)=some [.view kPt ((B0 it).map ptR),B true]:=
 Zwq (Qha it) h (Zml h) Q3h (fun hp=>Q2n hp) (fun hp=>Zev hp)
end Go.Bm
namespace Go.Bm
theorem Z03 {MO:Fn} {c a:Pt} {d:Int} (hc:bd B24 c) (ha:bd B24 a) (hne:a≠c) (hd:0<=d/\d<=33554432)
  (hN:∀{x:Int},x.natAbs<=33554432*4->x*x<=sqD a c->MO [I x,I d,I (sqD a c),I 2]=some [I (B5 x d (sqD a c)),B true]/\(B5 x d (sqD a c)).natAbs<=268435456):
  YL MO [I c.x,I c.y,I c.z,I a.x,I a.y,I a.z,I d]=some (ptR (BU c a d)++[B true]):=by
 obtain⟨q1,q2,q3⟩:=Qqh a c;have x1:=H5 ha.1 hc.1;have x2:=H5 ha.2.1 hc.2.1;have x3:=H5 ha.2.2 hc.2.2;obtain⟨n1,b1⟩:=hN (x:=a.x-c.x) (Nat.le_trans x1 (by decide)) q1;obtain⟨n2,b2⟩:=hN (x:=a.y-c.y) (Nat.le_trans x2 (by decide)) q2;obtain⟨n3,b3⟩:=hN (x:=a.z-c.z) (Nat.le_trans x3 (by decide)) q3;have h6: ¬d<0:=Int.not_lt.2 hd.1;have h7: ¬d>33554432:=Int.not_lt.2 hd.2;rw[Zcy,Qzc (A7 ha (by decide)) (A7 hc (by decide)),HK x1 (by decide),HK x2 (by decide),HK x3 (by decide)];simp only[go_sem,n1,n2,n3];rw[if_neg (fun h=>hne (Ei.2 ⟨h.1,h.2.1,h.2.2.1⟩)),if_neg h6,if_neg h7];rw[HK (QW hc.1 b1) (by decide),HK (QW hc.2.1 b2) (by decide),HK (QW hc.2.2 b3) (by decide)];rfl
theorem Wg {c a:Pt} {d:Int} (hc:bd B24 c) (ha:bd B24 a) (hne:a≠c) (hd:0<=d/\d<=33554432):
  GC [I c.x,I c.y,I c.z,I a.x,I a.y,I a.z,I d]=some (ptR (BU c a d)++[B true]):=by
 have h0:sqD a c≠0:=fun h=>hne (Ux.1 h);have h1:=PJ a c;have h2:=O5 (A7 ha (by decide)) (A7 hc (by decide)) (show 67108864<=67108864 by omega);refine Z03 hc ha hne hd fun{x} hx hq=> ?_;obtain⟨-,g2,-⟩:=Th hx (r:=d) (by omega) (n:=sqD a c) (by omega) hq;exact⟨XL (Nat.le_trans hx (by decide)) (by omega) (by omega),g2⟩
theorem Qzr {p c q:Pt} (hp:bd B24 p) (hc:bd B24 c) (hq:bd B24 q):Gw [I p.x,I p.y,I p.z,I c.x,I c.y,I c.z,I q.x,I q.y,I q.z]=some [I (HC p c q)]:=by
 have hb:=Zj3 hp hc hq;have g1:=DG hb.1;have g2:=DG hb.2.1;have g3:=DG hb.2.2;unfold Gw;unfold bd B24 at hp hc hq;have w:∀u v c:Int,u.natAbs<=16777216->v.natAbs<=16777216->c.natAbs<=16777216->wrap .i64 (wrap .i64 (u+v)-wrap .i64 (2*c))=u-c+(v-c):=by
  intro u v c h1 h2 h3;rw[Ae (x:=u+v) (by omega),Ae (x:=2*c) (by omega),Ae (by omega)];omega
 rw[Zzt,w _ _ _ hp.1 hq.1 hc.1,w _ _ _ hp.2.1 hq.2.1 hc.2.1,w _ _ _ hp.2.2 hq.2.2 hc.2.2];have e1:p.x-c.x+(q.x-c.x)=(F1 p c q).x:=rfl;have e2:p.y-c.y+(q.y-c.y)=(F1 p c q).y:=rfl;have e3:p.z-c.z+(q.z-c.z)=(F1 p c q).z:=rfl;rw[e1,e2,e3];unfold HC HO;generalize(F1 p c q).x*(F1 p c q).x=u at*;generalize(F1 p c q).y*(F1 p c q).y=v at*;generalize(F1 p c q).z*(F1 p c q).z=w at*;rw[Ae (x:=u) (by omega),Ae (x:=0+u) (by omega),Ae (x:=v) (by omega),Ae (x:=0+u+v) (by omega),Ae (x:=w) (by omega),Ae (by omega),Int.zero_add]
open Classical in
theorem Q8t {MB MT ML:Fn} {a c b:Pt} {tol d e bit:Int} (ha:bd B24 a) (hc:bd B24 c) (hb:bd B24 b) (hac:a≠c) (hbc:b≠c) (ht:0<=tol/\tol<=16000) (hd:0<=d/\d+e<=33554432) (he:0<e) (hbit:e.fdiv (2^min (Int.toNat 1) IntKind.i64.bits)=bit)
  (l3:0<=AB a c/\AB a c<=268435456) (l4:0<=AB c b/\AB c b<=268435456)
  (hT:∀{a:Pt} {d:Int},bd B24 a->a≠c->0<=d/\d<=33554432->MT [I c.x,I c.y,I c.z,I a.x,I a.y,I a.z,I d]=some (ptR (BU c a d)++[B true]))
  (hB:∀{p q:Pt},bd B24 p->bd B24 q->MB [I p.x,I p.y,I p.z,I c.x,I c.y,I c.z,I q.x,I q.y,I q.z]=some [I (HC p c q)]):
  Ma MB MT ML [I tol,I (mn (AB a c) (AB c b)-2),I d,I e,I a.x,I a.y,I a.z,I c.x,I c.y,I c.z,I b.x,I b.y,I b.z]=
   some (0,[I tol,I (mn (AB a c) (AB c b)-2),I (if GW a c b tol (d+e)then d+e else d),I bit,I a.x,I a.y,I a.z,I c.x,I c.y,I c.z,I b.x,I b.y,I b.z]):=by
 obtain⟨m1,m2⟩:=Se (AB a c) (AB c b);have ht2:0<=16*tol*tol/\16*tol*tol<=4096000000:=by
  have:=Int.mul_le_mul (show 16*tol<=256000 by omega) ht.2 ht.1 (by omega);exact⟨Int.mul_nonneg (by omega) ht.1,by omega⟩
 rw[Q6q,hbit,Ae (x:=d+e) (by omega),DT he,Ae (x:=16*tol) (by omega),Ae (x:=16*tol*tol) (by omega)];by_cases h:d+e>mn (AB a c) (AB c b)-2
 ·rw[DT h,if_neg (fun h3:GW a c b tol (d+e)=>by have:=h3.1;omega)]
 ·rw[AX h];have k1:bd B24 (BU c a (d+e)):=Kj hc ha hac (by omega);have k2:bd B24 (BU c b (d+e)):=Kj hc hb hbc (by rw[RE b c];omega);have t1:=hT (d:=d+e) ha hac (by omega);have t2:=hT (d:=d+e) hb hbc (by omega);simp only[List.cons_append,List.nil_append,ptR]at t1 t2;simp only[t1,t2,go_sem,hB k1 k2];by_cases h2:HC (BU c a (d+e)) c (BU c b (d+e))<=16*tol*tol
  ·rw[if_pos h2,if_pos (show GW a c b tol (d+e)from⟨by omega,h2⟩)]
  ·rw[if_neg h2,if_neg (fun h3:GW a c b tol (d+e)=>h2 h3.2)]
open Classical in
theorem Q1x {MB MT ML:Fn} {a c b:Pt} {tol m:Int}
  (hst : ∀ {d e bit : Int}, 0 <= d /\ d + e <= 33554432 -> 0 < e -> e.fdiv (2 ^ min (Int.toNat 1) IntKind.i64.bits) = bit -> Ma MB MT ML [I tol, I m, I d, I e, I a.x, I a.y, I a.z, I c.x, I c.y, I c.z, I b.x, I b.y, I b.z] =
   some (0,[I tol,I m,I (if GW a c b tol (d+e)then d+e else d),I bit,I a.x,I a.y,I a.z,I c.x,I c.y,I c.z,I b.x,I b.y,I b.z])):
  ∀(k:Nat) (d:Int),0<=d/\d+((2^(k+1):Nat):Int)<=33554432->
  Am (Ma MB MT ML) [I tol,I m,I d,I ((2^k:Nat):Int),I a.x,I a.y,I a.z,I c.x,I c.y,I c.z,I b.x,I b.y,I b.z]=some (1,[I (FN (GW a c b tol) k d)])
 |0,d,hd=>by
  simp only[Nat.zero_add,Nat.pow_one]at hd;have hend:∀d:Int,Am (Ma MB MT ML) [I tol,I m,I d,I 0,I a.x,I a.y,I a.z,I c.x,I c.y,I c.z,I b.x,I b.y,I b.z]=some (1,[I d]):=by
   intro d;refine Bb ?_ (by simp);rw[Q6q];rw[AX (by omega)]
  have hs:=hst (d:=d) (e:=1) (by omega) (by omega) Zs4;have e:((2^0:Nat):Int)=1:=rfl;rw[e,Bw hs,hend];rfl
 |k+1,d,hd=>by
  have hp:0<2^(k+1):=Nat.two_pow_pos _;have e3:2^(k+1+1)=2^(k+1)+2^(k+1):=by rw[Nat.pow_succ 2 (k+1)];omega
  rw[e3]at hd;have hs:=hst (d:=d) (e:=((2^(k+1):Nat):Int)) (by omega) (by omega) (Zdj k);rw[Bw hs];unfold FN;refine Q1x hst k _ ?_;split<;>omega
theorem Zlk {ML:Fn} {N:Lp} {MB MT:Fn} {a c b:Pt} {tol:Int}
  (l1:ML [I a.x,I a.y,I a.z,I c.x,I c.y,I c.z]=some [I (AB a c)]) (l2:ML [I c.x,I c.y,I c.z,I b.x,I b.y,I b.z]=some [I (AB c b)])
  (l3:0<=AB a c/\AB a c<=268435456) (l4:0<=AB c b/\AB c b<=268435456)
  (hN:a≠c->b≠c->N [I tol,I (mn (AB a c) (AB c b)-2),I 0,I 16777216,I a.x,I a.y,I a.z,I c.x,I c.y,I c.z,I b.x,I b.y,I b.z]=some (1,[I (FN (GW a c b tol) 24 0)])):
  UN MB MT ML N [I a.x,I a.y,I a.z,I c.x,I c.y,I c.z,I b.x,I b.y,I b.z,I tol]=some [I (Dh a c b tol)]:=by
 rw[Zog];have m3:0<=mn (AB a c) (AB c b)/\mn (AB a c) (AB c b)<=268435456:=by unfold mn;split<;>omega
 unfold Dh;by_cases h1:a=c
 ·rw[if_pos (.inl h1)];have h2:=Ei.1 h1;simp only[go_sem];rw[if_pos ⟨h2.1,h2.2.1,h2.2.2,trivial⟩]
 ·by_cases h2:b=c
  ·rw[if_pos (.inr h2)];have h3:=Ei.1 h2;simp only[go_sem];rw[if_neg (fun h=>h1 (Ei.2 ⟨h.1,h.2.1,h.2.2.1⟩)),if_pos ⟨h3.1,h3.2.1,h3.2.2,trivial⟩]
  ·have hl':=hN h1 h2;simp only[go_sem,l1,l2];rw[Ae (by omega)];simp only[hl',go_sem];rw[if_neg (fun h=>h1 (Ei.2 ⟨h.1,h.2.1,h.2.2.1⟩)),if_neg (fun h=>h2 (Ei.2 ⟨h.1,h.2.1,h.2.2.1⟩)),if_neg (show¬(a=c\/b=c)from fun h=>h.elim h1 h2)];by_cases h3:FN (GW a c b tol) 24 0<16
   ·rw[if_pos h3,if_pos h3]
   ·rw[if_neg h3,if_neg h3]
theorem Zww {a c b:Pt} {tol:Int} (ha:bd B24 a) (hc:bd B24 c) (hb:bd B24 b) (ht:0<=tol/\tol<=16000):
  K5 [I a.x,I a.y,I a.z,I c.x,I c.y,I c.z,I b.x,I b.y,I b.z,I tol]=some [I (Dh a c b tol)]:=by
 have A:=A7 ha (show B24<=67108864 by decide);have C:=A7 hc (show B24<=67108864 by decide);have D:=A7 hb (show B24<=67108864 by decide);exact Zlk (Qlj A C) (Qlj C D) (HW A C) (HW C D)
  fun h1 h2=>Q1x (fun hd he hbit=>Q8t ha hc hb h1 h2 ht hd he hbit (HW A C) (HW C D) (fun hb hn hd=>Wg hc hb hn hd) fun hp hq=>Qzr hp hc hq) 24 0 (by decide)
theorem Zx9 {M:Fn} {p c q:Pt} (hM:M [I p.x,I p.y,I p.z,I c.x,I c.y,I c.z,I q.x,I q.y,I q.z]=some [I (HC p c q)]):
  ∀(k:Nat) (n:Int),J9 n->64<=n*2^k->Am (ON M) [I n,I p.x,I p.y,I p.z,I c.x,I c.y,I c.z,I q.x,I q.y,I q.z]=some (1,[I (KE (HC p c q) k n)]):=by
 have hst:∀n:Int,J9 n->ON M [I n,I p.x,I p.y,I p.z,I c.x,I c.y,I c.z,I q.x,I q.y,I q.z]=if n<64/\HC p c q>16*n*n*n*n*4*4 then some (0,[I (n*2),I p.x,I p.y,I p.z,I c.x,I c.y,I c.z,I q.x,I q.y,I q.z])else some (1,[I n]):=by
  intro n hn;rw[Znl];simp only[go_sem,hM];have hw:wrap .i64 (wrap .i64 (wrap .i64 (wrap .i64 (wrap .i64 (wrap .i64 (16*n)*n)*n)*n)*4)*4)=16*n*n*n*n*4*4/\wrap .i64 (n*2)=n*2:=by
   rcases hn with rfl|rfl|rfl|rfl|rfl|rfl<;>decide
  rw[hw.1,hw.2];by_cases h1:n<64
  ·rw[if_pos h1];by_cases h2:HC p c q>16*n*n*n*n*4*4
   ·rw[if_pos h2,if_pos ⟨h1,h2⟩]
   ·rw[if_neg h2,if_neg (fun h=>h2 h.2)]
  ·rw[if_neg h1,if_neg (fun h=>h1 h.1)]
 intro k;induction k with
 |zero=>
  intro n hn h64;have:n=64:=by rcases hn with rfl|rfl|rfl|rfl|rfl|rfl<;>simp at h64⊢
  subst this;refine Bb ?_ (by simp);rw[hst _ hn,if_neg (by omega)];rfl
 |succ k ih=>
  intro n hn h64;unfold KE;by_cases h:n<64/\HC p c q>16*n*n*n*n*4*4
  ·rw[if_pos h];have hs:=hst n hn;rw[if_pos h]at hs;rw[Bw hs];refine ih (n*2) ?_ ?_
   ·rcases hn with rfl|rfl|rfl|rfl|rfl|rfl<;>simp[J9]at h⊢
   ·rw[Int.pow_succ]at h64;rw[Int.mul_assoc,Int.mul_comm 2];exact h64
  ·rw[if_neg h];refine Bb ?_ (by simp);rw[hst _ hn,if_neg h]
theorem Z1d {p c q:Pt} (hp:bd B24 p) (hc:bd B24 c) (hq:bd B24 q):J1 [I p.x,I p.y,I p.z,I c.x,I c.y,I c.z,I q.x,I q.y,I q.z]=some [I (Le p c q)]:=by
 have h1:=Zx9 (Qzr hp hc hq) 5 2 (.inl rfl) (by decide);show Wj _ (Am (ON _)) _=_;generalize Gw=M at*;rw[Zbx];simp only[go_sem,h1];rfl
theorem Qsz {α:Type} (d x:α):∀(l:List α) (i:Nat),i<l.length->nth d (l.set i x) i=x
 |a::l,0,_=>rfl
 |a::l,i+1,h=>by simp only[List.set_cons_succ,nth];exact Qsz d x l i (by simpa using h)
theorem Zva {n i p c q:Int} (hn:2<=n/\n<=64) (hi:0<=i/\i<=n) (hp:p.natAbs<=B24) (hc:c.natAbs<=B24) (hq:q.natAbs<=B24):
  Bi [I (wrap .i64 (wrap .i64 (wrap .i64 (wrap .i64 (n-i)*wrap .i64 (n-i))*wrap .i64 (p-c))+wrap .i64 (wrap .i64 (i*i)*wrap .i64 (q-c)))),I 1,I (wrap .i64 (n*n)),I 2]=some [I (Bh ((n-i)*(n-i)*(p-c)+i*i*(q-c)) (n*n)),B true]:=by
 have n1:0<n*n/\n*n<=4096:=⟨Int.mul_pos (by omega) (by omega),by have:=Int.mul_le_mul hn.2 hn.2 (by omega) (by omega);omega⟩;have n2:0<=(n-i)*(n-i)/\(n-i)*(n-i)<=4096:=⟨FM _,by have:=Int.mul_le_mul (show n-i<=64 by omega) (show n-i<=64 by omega) (by omega) (by omega);omega⟩;have n3:0<=i*i/\i*i<=4096:=⟨FM _,by have:=Int.mul_le_mul (show i<=64 by omega) (show i<=64 by omega) (by omega) (by omega);omega⟩;unfold B24 at*;rw[Ae (x:=n-i) (by omega),Ae (x:=(n-i)*(n-i)) (by omega),Ae (x:=p-c) (by omega),Ae (x:=i*i) (by omega),Ae (x:=q-c) (by omega),Ae (x:=n*n) (by omega)];have m1:=Hs (x:=(n-i)*(n-i)) (y:=p-c) (A:=4096) (B:=33554432) (by omega) (by omega);have m2:=Hs (x:=i*i) (y:=q-c) (A:=4096) (B:=33554432) (by omega) (by omega);generalize(n-i)*(n-i)*(p-c)=u at*;generalize i*i*(q-c)=v at*;rw[Ae (x:=u) (by omega),Ae (x:=v) (by omega),Ae (by omega)];have h:=Rl (a:=u+v) (b:=1) (c:=n*n) (by unfold i64;omega) (by unfold i64;omega) (by omega) (by rw[show(1:Int).natAbs=1 from rfl,Nat.mul_one];omega);rw[Int.mul_one]at h;exact h
theorem Q1y {MR MP MT MC:Fn} {p c q:Pt} {N:Nat} (hN:2<=N/\N<=64) (hp:bd B24 p) (hc:bd B24 c) (hq:bd B24 q)
  (hR:∀{i p c q:Int},(0<=i/\i<=N)->p.natAbs<=B24->c.natAbs<=B24->q.natAbs<=B24->MR [I (wrap .i64 (wrap .i64 (wrap .i64 (wrap .i64 ((N:Int)-i)*wrap .i64 ((N:Int)-i))*wrap .i64 (p-c))+wrap .i64 (wrap .i64 (i*i)*wrap .i64 (q-c)))),I 1,I (wrap .i64 ((N:Int)*(N:Int))),I 2]=some [I (Bh (((N:Int)-i)*((N:Int)-i)*(p-c)+i*i*(q-c)) ((N:Int)*(N:Int))),B true])
  {f:Nat->List AC} (hf:∀i:Nat,f i=ptR (Ml N i p c q)):
  ∀(k i:Nat),i+k=N+1->Am (LS MR MP MT MC) [.view kPt (Er f [I 0,I 0,I 0] (N+1) i),I N,I (N+1:Nat),I i,I c.x,I c.y,I c.z,I p.x,I p.y,I p.z,I q.x,I q.y,I q.z]=
   some (1,[.view kPt ((List.range (N+1)).map f)])
 |0,i,hi=>by
  obtain rfl:i=N+1:=by omega
  refine Bb ?_ (by simp);rw[Q3b,Q1c,AX (by omega)]
 |k+1,i,hi=>by
  have b1:=NG (n:=N) (i:=i) (A:=B24) (by omega) (by omega) hp.1 hc.1 hq.1;have b2:=NG (n:=N) (i:=i) (A:=B24) (by omega) (by omega) hp.2.1 hc.2.1 hq.2.1;have b3:=NG (n:=N) (i:=i) (A:=B24) (by omega) (by omega) hp.2.2 hc.2.2 hq.2.2;have r1:=hR (i:=i) (by omega) hp.1 hc.1 hq.1;have r2:=hR (i:=i) (by omega) hp.2.1 hc.2.1 hq.2.1;have r3:=hR (i:=i) (by omega) hp.2.2 hc.2.2 hq.2.2;have hs:LS MR MP MT MC [.view kPt (Er f [I 0,I 0,I 0] (N+1) i),I N,I (N+1:Nat),I i,I c.x,I c.y,I c.z,I p.x,I p.y,I p.z,I q.x,I q.y,I q.z]=
    some (0,[.view kPt (Er f [I 0,I 0,I 0] (N+1) (i+1)),I N,I (N+1:Nat),I (i+1:Nat),I c.x,I c.y,I c.z,I p.x,I p.y,I p.z,I q.x,I q.y,I q.z]):=by
   have hlen:=Q5u f [I 0,I 0,I 0] (show i<=N+1 by omega);have hset:=Qzd f [I 0,I 0,I 0] (show i<N+1 by omega);rw[hf i]at hset;generalize Er f [I 0,I 0,I 0] (N+1) i=l at*;have hself:∀x:List AC,nth [] (l.set i x) i=x:=fun x=>Qsz _ _ _ _ (by omega);rw[Q3b];have hin:(0:Int)<=(i:Int)/\(i:Int)<((N+1:Nat):Int):=by omega
   simp only[go_sem,r1,r2,r3,Int.toNat_natCast,hlen,if_pos hin,List.set_set,hself,List.length_set];rw[if_pos (by omega)];unfold LZ B24 at b1 b2 b3;rw[Ae (x:=c.x+_) (by omega),Ae (x:=c.y+_) (by omega),Ae (x:=c.z+_) (by omega),Ae (x:=(i:Int)+1) (by omega)];rw[<-hset];rfl
  rw[Bw hs];exact Q1y hN hp hc hq hR hf k (i+1) (by omega)
theorem Zpl {a c b:Pt} {tol:Int} (ha:bd B24 a) (hc:bd B24 c) (hb:bd B24 b) (ht:0<=tol/\tol<=16000):
  OJ [I a.x,I a.y,I a.z,I c.x,I c.y,I c.z,I b.x,I b.y,I b.z,I tol]=some [.view kPt ((FO a c b tol).map ptR)]:=by
 show Vv _ _ _ _ (Am (LS _ _ _ _)) _=_;have e1:=Zww ha hc hb ht;have hR:= @Zva;generalize K5=MC at*;unfold FO;by_cases h:Dh a c b tol=0
 ·rw[if_pos h];rw[Qoz];simp only[go_sem,e1];rw[if_pos h];rfl
 ·rw[if_neg h];obtain⟨h1,h2,h3,h4,h5,-⟩:=UW h;obtain⟨m1,m2⟩:=Se (AB a c) (AB c b);have h0: ¬Dh a c b tol=0:=h;generalize Dh a c b tol=d at*;have k1:bd B24 (BU c a d):=Kj hc ha h1 (by omega);have k2:bd B24 (BU c b d):=Kj hc hb h2 (by rw[RE b c];omega);have t1:=Wg hc ha h1 (d:=d) (by omega);have t2:=Wg hc hb h2 (d:=d) (by omega);have p1:=Z1d k1 hc k2;have p2:=(Qe5 k1 hc k2).2;generalize Le (BU c a d) c (BU c b d)=n at*;obtain⟨N,rfl⟩:∃N:Nat,n=N:=⟨n.toNat,by rcases p2 with rfl|rfl|rfl|rfl|rfl|rfl<;>rfl⟩;have hN:2<=N/\N<=64:=by unfold J9 at p2;omega
  have hl:=Q1y (MR:=Bi) (MP:=J1) (MT:=GC) (MC:=MC) hN k1 hc k2 (fun hi hp hc hq=>hR (by omega) hi hp hc hq) (f:=fun i=>ptR (Ml N i (BU c a d) c (BU c b d))) (fun _=>rfl) (N+1) 0 (by omega);have hf0:∀f:Nat->List AC,Er f [I 0,I 0,I 0] (N+1) 0=List.replicate (N+1) [I 0,I 0,I 0]:=fun f=>by unfold Er;rw[List.range_zero,List.map_nil,List.nil_append,Nat.sub_zero]
  rw[hf0]at hl;generalize Bi=MR at*;generalize J1=MP at*;generalize GC=MT at*;generalize BU c a d=p at*;generalize BU c b d=q at*;rw[Qoz];simp only[List.cons_append,List.nil_append,ptR]at t1 t2;have hres:(List.range (N+1)).map (fun(i:Nat)=>ptR (Ml N i p c q))=((List.range ((N:Int).toNat+1)).map fun(i:Nat)=>Ml N i p c q).map ptR:=by rw[List.map_map,Int.toNat_natCast];rfl
  rw[hres]at hl;generalize((List.range ((N:Int).toNat+1)).map fun(i:Nat)=>Ml N i p c q).map ptR=C at*;generalize Am (LS MR MP MT MC)=L at*;have hl':L [.view kPt (List.replicate (N+1) [I 0,I 0,I 0]),I N,I (N+1:Nat),I 0,I c.x,I c.y,I c.z,I p.x,I p.y,I p.z,I q.x,I q.y,I q.z]=some (1,[.view kPt C]):=hl;have w1:wrap .i64 ((N:Int)+1)=((N+1:Nat):Int):=by rw[Ae (by omega)];rfl
  simp only[e1,t1,t2,p1,w1,Option.bind_some,Ho,Ks,Lw,HH,gA,jA,wA,bA,Int.toNat_natCast,List.length_replicate,Qa2];rw[Bf (by simpa using h0),DT trivial,Bu (by simp;omega),hl'];rfl
end Go.Bm
namespace Go.Bm
open Classical
theorem OL (k:Int):DK [I k]=some [B (decide (1<=k/\k<=6))]:=by
 unfold DK;rw[Zcw];by_cases h:1<=k
 ·rw[DT (show k>=1 from h)];by_cases h2:k<=6
  ·rw[decide_eq_true h2,decide_eq_true ⟨h,h2⟩]
  ·rw[decide_eq_false h2,decide_eq_false fun h3=>h2 h3.2]
 ·rw[AX (show¬k>=1 from h),decide_eq_false fun h3=>h h3.1]
theorem SR (it:Itm):EG (Ah it)=some [B (decide (smI it))]:=by
 unfold EG;rw[Zw8];by_cases h:it.kind=2
 ·rw[Bu (by simp[h])];congr 2;by_cases h2:it.fr=it.to
  ·have h3:=Ei.1 h2;rw[decide_eq_false (fun hs:smI it=>hs.2 h2)];simp[h3.1,h3.2.1,h3.2.2]
  ·rw[decide_eq_true (show smI it from⟨h,h2⟩)];have h3: ¬(it.fr.x=it.to.x/\it.fr.y=it.to.y/\it.fr.z=it.to.z):=fun h3=>h2 (Ei.2 h3);simp only[B,AC.bool.injEq,Bool.not_eq_true',Bool.and_true];by_cases a:it.fr.x=it.to.x<;>by_cases b:it.fr.y=it.to.y<;>by_cases c:it.fr.z=it.to.z<;>simp[a,b,c]at h3⊢
 ·rw[Bf (by simp[h]),decide_eq_false (fun hs:smI it=>h hs.1)]
theorem RJ {it:Itm} (h1:bd 1048576 it.fr) (h2:bd 1048576 it.to):F5 (Ah it)=some (ptR (Bd it)):=by
 obtain⟨a1,a2,a3⟩:=h1;obtain⟨b1,b2,b3⟩:=h2;unfold F5;rw[Zsy,Ae (x:=it.fr.x+it.to.x) (by omega),Ae (x:=(it.fr.x+it.to.x)*8) (by omega),Ae (x:=it.fr.y+it.to.y) (by omega),Ae (x:=(it.fr.y+it.to.y)*8) (by omega),Ae (x:=it.fr.z+it.to.z) (by omega),Ae (x:=(it.fr.z+it.to.z)*8) (by omega)];rfl
theorem Zhc {p:Pt} (h:bd 100000000 p):Mq [I p.x,I p.y,I p.z]=some (ptR (Ax p)):=by
 unfold Mq;rw[Zw1];obtain⟨h1,h2,h3⟩:=h;rw[Ae (by omega),Ae (by omega),Ae (by omega)];rfl
theorem Qvy (it:Itm):Hr (Ah it)=some [B (decide (syI it))]:=by
 unfold Hr;rw[Q7p];by_cases h5:it.kind=5
 ·rw[Bu (by simp[h5]),decide_eq_true (show syI it from .inl h5)]
 ·rw[Bf (by simp[h5])];by_cases h6:it.kind=6
  ·rw[decide_eq_true (show syI it from .inr h6)];simp[h6]
  ·rw[decide_eq_false (show¬syI it from fun h=>h.elim h5 h6)];simp[h6]
theorem Zbu {MV MM:Fn} {it:Itm} (hM:MM [I it.kind]=some [B (decide (1<=it.kind/\it.kind<=6))]) (hV:∃v,MV (Ah it)=some [B v]/\(v=true↔Dj it)):
  Qb4 MV MM (Ah it)=some [I (if BF it then 1 else 0)]:=by
 obtain⟨v,hv,hvv⟩:=hV;have hr:∀{x:Int},(BF it->x=1)->(¬BF it->x=0)->some [I x]=some [I (if BF it then 1 else 0)]:=by
  intro x h1 h2;by_cases c:BF it
  ·rw[if_pos c,h1 c]
  ·rw[if_neg c,h2 c]
 rw[Z1l];simp only[go_sem,hM,hv];unfold BF AG at hr⊢;have one:∀{P:Prop},P->(P->(1:Int)=1)/\(¬P->(1:Int)=0):=fun h=>⟨fun _=>rfl,fun g=>absurd h g⟩;have zero:∀{P:Prop},¬P->(P->(0:Int)=1)/\(¬P->(0:Int)=0):=fun h=>⟨fun g=>absurd g h,fun _=>rfl⟩;by_cases c1:it.kind<1
 ·rw[if_pos c1];exact hr (fun _=>rfl) fun g=>absurd (.inl c1) g
 rw[if_neg c1];by_cases c2:it.kind>14
 ·rw[if_pos c2];exact hr (fun _=>rfl) fun g=>absurd (.inr (.inl c2)) g
 rw[if_neg c2];by_cases c3:1<=it.kind/\it.kind<=6
 ·simp only[if_pos c3];have hk8:it.kind≠8:=by omega
  simp only[if_neg hk8];by_cases c4:Dj it
  ·rw[if_neg (by simp[hvv.2 c4])];by_cases c5:it.blend<0
   ·rw[if_pos c5];exact hr (fun _=>rfl) fun g=>absurd (.inr (.inr (.inl ⟨c3, .inr (.inr (.inl c5))⟩))) g
   rw[if_neg c5];by_cases c6:it.blend>1000
   ·rw[if_pos c6];exact hr (fun _=>rfl) fun g=>absurd (.inr (.inr (.inl ⟨c3, .inr (.inr (.inr c6))⟩))) g
   rw[if_neg c6];by_cases c7:it.kind=1
   ·rw[if_neg (show¬it.kind≠1 by omega)];refine hr (fun g=> ?_) fun _=>rfl;rcases g with g|g|⟨-,g|g|g|g⟩|g
    ·omega
    ·omega
    ·exact absurd c4 g
    ·omega
    ·omega
    ·omega
    ·omega
   ·rw[if_pos c7];by_cases c8:it.feed<1
    ·rw[if_pos c8];exact hr (fun _=>rfl) fun g=>absurd (.inr (.inr (.inl ⟨c3, .inr (.inl ⟨c7, .inl c8⟩)⟩))) g
    rw[if_neg c8];by_cases c9:it.feed>60000000
    ·rw[if_pos c9];exact hr (fun _=>rfl) fun g=>absurd (.inr (.inr (.inl ⟨c3, .inr (.inl ⟨c7, .inr c9⟩)⟩))) g
    rw[if_neg c9];refine hr (fun g=> ?_) fun _=>rfl;rcases g with g|g|⟨-,g|g|g|g⟩|g
    ·omega
    ·omega
    ·exact absurd c4 g
    ·omega
    ·omega
    ·omega
    ·omega
  ·rw[if_pos (fun h=>c4 (hvv.1 h))];exact hr (fun _=>rfl) fun g=>absurd (.inr (.inr (.inl ⟨c3, .inl c4⟩))) g
 ·simp only[if_neg c3];by_cases c4:it.kind=8
  ·rw[if_pos c4];by_cases d1:it.n<3
   ·rw[if_pos d1];exact hr (fun _=>rfl) fun g=>absurd (.inr (.inr (.inr ⟨c3,c4, .inl d1⟩))) g
   rw[if_neg d1];by_cases d2:it.n>5
   ·rw[if_pos d2];exact hr (fun _=>rfl) fun g=>absurd (.inr (.inr (.inr ⟨c3,c4, .inr (.inl d2)⟩))) g
   rw[if_neg d2];by_cases d3:it.speed<0
   ·rw[if_pos d3];exact hr (fun _=>rfl) fun g=>absurd (.inr (.inr (.inr ⟨c3,c4, .inr (.inr (.inl d3))⟩))) g
   rw[if_neg d3];by_cases d4:it.speed>30000
   ·rw[if_pos d4];exact hr (fun _=>rfl) fun g=>absurd (.inr (.inr (.inr ⟨c3,c4, .inr (.inr (.inr d4))⟩))) g
   rw[if_neg d4];refine hr (fun g=> ?_) fun _=>rfl;rcases g with g|g|⟨g,-⟩|⟨-,-,g⟩
   ·omega
   ·omega
   ·exact absurd g c3
   ·omega
  ·rw[if_neg c4];refine hr (fun g=> ?_) fun _=>rfl;rcases g with g|g|⟨g,-⟩|⟨-,g,-⟩
   ·omega
   ·omega
   ·exact absurd g c3
   ·omega
theorem Zoj (it:Itm):IX (Ah it)=some [I (if BF it then 1 else 0)]:=Zbu (OL _) (Qha it)
def C1:List Itm->Nat->Nat
 |[],k=>k
 |it::l,k=>if it.kind=10 then C1 l (k+1)else k
def C7 (aA:List Itm) (i:Nat):Nat:=C1 (aA.drop (i+1)) (i+1)
theorem WN:∀(l:List Itm) (k:Nat),k<=C1 l k/\C1 l k<=k+l.length
 |[],k=>by simp[C1]
 |it::l,k=>by
  unfold C1;split
  ·have:=WN l (k+1);simp;omega
  ·simp
theorem Q1d:∀(l:List Itm) (k:Nat),GY l k=if C1 l k-k<l.length/\smI (l.getD (C1 l k-k) it0)then(C1 l k:Int)else-1
 |[],k=>by simp[GY]
 |it::l,k=>by
  have hs:=WN l (k+1);by_cases h10:it.kind=10
  ·have e1:GY (it::l) k=GY l (k+1):=by rw[GY,if_pos h10]
   have e2:C1 (it::l) k=C1 l (k+1):=by rw[C1,if_pos h10]
   rw[e1,e2,Q1d l (k+1)];have e3:C1 l (k+1)-k=(C1 l (k+1)-(k+1))+1:=by omega
   rw[e3,List.getD_cons_succ];by_cases c:C1 l (k+1)-(k+1)<l.length
   ·have c2:C1 l (k+1)-(k+1)+1<(it::l).length:=by simp;omega
    by_cases c3:smI (l.getD (C1 l (k+1)-(k+1)) it0)
    ·rw[if_pos ⟨c,c3⟩,if_pos ⟨c2,c3⟩]
    ·rw[if_neg (fun g=>c3 g.2),if_neg (fun g=>c3 g.2)]
   ·rw[if_neg (fun g=>c g.1),if_neg (fun g=>c (by have:=g.1;simp at this;omega))]
  ·have e1:GY (it::l) k=if smI it then(k:Int)else-1:=by rw[GY,if_neg h10]
   have e2:C1 (it::l) k=k:=by rw[C1,if_neg h10]
   rw[e1,e2,Nat.sub_self,List.getD_cons_zero];by_cases c:smI it
   ·rw[if_pos c,if_pos ⟨by simp,c⟩]
   ·rw[if_neg c,if_neg (fun g=>c g.2)]
theorem Qz9 {aA:List Itm} (hl:aA.length<=1000000):∀(k i:Nat),i+k=aA.length->
  Am P6 [.view Al (aA.map Ah),I i]=some (1,[I (C1 (aA.drop i) i)])
 |0,i,hi=>by
  refine Bb ?_ (by simp);rw[Q07];simp only[go_sem,List.length_map];rw[if_neg (by omega),List.drop_of_length_le (by omega)];rfl
 |k+1,i,hi=>by
  have hlt:i<aA.length:=by omega
  have hr:=Fq hlt;rw[Qfw hlt];have hst:P6 [.view Al (aA.map Ah),I i]=if(itA aA i).kind=10 then some (0,[.view Al (aA.map Ah),I (i+1:Nat)])else some (1,[I i]):=by
   rw[Q07];have hin:(0:Int)<=(i:Int)/\(i:Int)<(aA.length:Int):=by omega
   simp only[go_sem,List.length_map,Int.toNat_natCast,hr,if_pos hin];rw[if_pos (by omega),Ae (by omega)];rfl
  unfold C1;by_cases h10:(itA aA i).kind=10
  ·rw[if_pos h10]at hst⊢;rw[Bw hst];exact Qz9 hl k (i+1) (by omega)
  ·rw[if_neg h10]at hst⊢;exact Bb hst (by simp)
theorem ZY {aA:List Itm} (hl:aA.length<=1000000) {i:Nat} (hi:i<aA.length):Fk [.view Al (aA.map Ah),I i]=some [I (C7 aA i)]:=by
 show Qds (Am P6) _=_;have h:=Qz9 hl (aA.length-(i+1)) (i+1) (by omega);rw[Zlp,Ae (by omega),show(i:Int)+1=((i+1:Nat):Int) by omega,h];rfl
theorem Q1h {aA:List Itm} {i:Nat}:BV aA i=if smI (itA aA i)/\(itA aA i).blend≠0/\C7 aA i<aA.length/\smI (itA aA (C7 aA i))then(C7 aA i:Int)else-1:=by
 unfold BV;by_cases h:smI (itA aA i)/\(itA aA i).blend≠0
 ·rw[if_pos h,Q1d];have hs:=WN (aA.drop (i+1)) (i+1);rw[List.length_drop]at hs;have e:(aA.drop (i+1)).getD (C1 (aA.drop (i+1)) (i+1)-(i+1)) it0=itA aA (C7 aA i):=by
   unfold itA;rw[List.getD_eq_getElem?_getD,List.getElem?_drop,List.getD_eq_getElem?_getD];have:i+1+(C1 (aA.drop (i+1)) (i+1)-(i+1))=C7 aA i:=by unfold C7;omega
   rw[this]
  rw[e,List.length_drop];have e2:C1 (aA.drop (i+1)) (i+1)=C7 aA i:=rfl;rw[e2]at hs⊢;by_cases c:C7 aA i<aA.length/\smI (itA aA (C7 aA i))
  ·rw[if_pos ⟨by omega,c.2⟩,if_pos ⟨h.1,h.2,c⟩]
  ·rw[if_neg (fun g=>c ⟨by have:=g.1;omega,g.2⟩),if_neg (fun g=>c g.2.2)]
 ·rw[if_neg h,if_neg (fun g=>h ⟨g.1,g.2.1⟩)]
theorem Zbe {MS MN:Fn} {aA:List Itm} (hS:∀it,MS (Ah it)=some [B (decide (smI it))]) {i:Nat} (hi:i<aA.length) (hN:MN [.view Al (aA.map Ah),I i]=some [I (C7 aA i)]):
  Qer MS MN [.view Al (aA.map Ah),I i]=some [B (decide (0<=BV aA i))]:=by
 have hr:=Fq hi;have hs:=hS (itA aA i);rw[Zlo,Q1h];simp only[Ah]at hs;have hin:(0:Int)<=(i:Int)/\(i:Int)<(aA.length:Int):=by omega
 simp only[go_sem,List.length_map,Int.toNat_natCast,hr,hs,hN,if_pos hin];by_cases h1:smI (itA aA i)
 case neg=>rw[if_neg h1,if_neg (fun g=>h1 g.1)];simp
 rw[if_pos h1];by_cases h2:(itA aA i).blend=0
 ·rw[if_neg (by simp[h2]),if_neg (fun g=>g.2.1 h2)];simp
 rw[if_pos h2];by_cases h3:C7 aA i<aA.length
 ·have hr2:=Fq h3;have hs2:=hS (itA aA (C7 aA i));simp only[Ah]at hs2;have hin2:(0:Int)<=(C7 aA i:Int)/\(C7 aA i:Int)<(aA.length:Int):=by omega
  rw[if_pos (by omega),if_pos hin2];simp only[go_sem,hr2,hs2];by_cases h4:smI (itA aA (C7 aA i))
  ·rw[decide_eq_true h4,if_pos ⟨h1,h2,h3,h4⟩,decide_eq_true (by omega)]
  ·rw[decide_eq_false h4,if_neg (fun g=>h4 g.2.2.2)];simp
 ·rw[if_neg (by omega),if_neg (fun g=>h3 g.2.2.1)];simp
theorem Q5a {aA:List Itm} (hl:aA.length<=1000000) {i:Nat} (hi:i<aA.length):GX [.view Al (aA.map Ah),I i]=some [B (decide (0<=BV aA i))]:=
 Zbe SR hi (ZY hl hi)
theorem Q4 {aA:List Itm} {i:Nat} (h:0<=BV aA i):BV aA i=C7 aA i:=by
 rw[Q1h]at h⊢;split at h
 ·rename_i c;rw[if_pos c]
 ·omega
theorem Zqm {a c b:Pt} {tol:Int} (ha:bd B24 a) (hc:bd B24 c) (hb:bd B24 b):(FO a c b tol).length%2=1:=by
 unfold FO;by_cases h:Dh a c b tol=0
 ·rw[if_pos h];rfl
 ·rw[if_neg h];obtain⟨h1,h2,h3,h4,h5,-⟩:=UW h;obtain⟨m1,m2⟩:=Se (AB a c) (AB c b);generalize Dh a c b tol=d at*;have k1:bd B24 (BU c a d):=Kj hc ha h1 (by omega);have k2:bd B24 (BU c b d):=Kj hc hb h2 (by rw[RE b c];omega);have k3:=(Qe5 k1 hc k2).2;generalize Le (BU c a d) c (BU c b d)=n at*;rw[List.length_map,List.length_range];rcases k3 with rfl|rfl|rfl|rfl|rfl|rfl<;>rfl
theorem Zlh {MC MF MM:Fn} {a b:Itm} {l:List Pt} (hbl:0<=a.blend/\a.blend<=1000) (hl:1<=l.length/\l.length<=65) (hodd:l.length%2=1)
  (c1:MM (Ah a)=some (ptR (Bd a))) (c2:MM (Ah b)=some (ptR (Bd b))) (f1:MF [I a.to.x,I a.to.y,I a.to.z]=some (ptR (Ax a.to)))
  (hC:MC (ptR (Bd a)++ptR (Ax a.to)++ptR (Bd b)++[I (a.blend*16)])=some [.view kPt (l.map ptR)]):
  Z5 MC MF MM (Ah a++Ah b)=some [.view kPt ((l.take (l.length/2+1)).map ptR), .view kPt ((l.drop (l.length/2)).map ptR)]:=by
 simp only[Ah,List.cons_append,List.nil_append]at c1 c2⊢;rw[Zp0];simp only[ptR,List.cons_append,List.nil_append]at hC;simp only[go_sem,c1,c2,f1];rw[Ae (by omega)];simp only[hC,go_sem,List.length_map];have e:wrap .i64 ((wrap .i64 ((l.length:Int)-1)).tdiv 2)=((l.length/2:Nat):Int):=by
  rw[Ae (x:=(l.length:Int)-1) (by omega),Int.tdiv_eq_ediv_of_nonneg (by omega),Ae (by omega)];omega
 have e2:wrap .i64 (((l.length/2:Nat):Int)+1)=((l.length/2+1:Nat):Int):=by rw[Ae (by omega)];omega
 simp only[e,e2,Int.toNat_natCast];rw[if_pos (by omega),if_pos (by omega),List.map_take,List.map_drop]
theorem Zk5 {a b:Itm} (h1:drawn a) (h2:drawn b):
  P4 (Ah a++Ah b)=some [.view kPt (((FO (Bd a) (Ax a.to) (Bd b) (a.blend*16)).take ((FO (Bd a) (Ax a.to) (Bd b) (a.blend*16)).length/2+1)).map ptR), .view kPt (((FO (Bd a) (Ax a.to) (Bd b) (a.blend*16)).drop ((FO (Bd a) (Ax a.to) (Bd b) (a.blend*16)).length/2)).map ptR)]:=
 have k1:=LM h1.1.2.1 h1.1.2.2.1;have k2:=Ff h1.1.2.2.1;have k3:=LM h2.1.2.1 h2.1.2.2.1
 Zlh h1.2 (Qrc k1 k2 k3).2 (Zqm k1 k2 k3) (RJ h1.1.2.1 h1.1.2.2.1) (RJ h2.1.2.1 h2.1.2.2.1) (Zhc (A7 h1.1.2.2.1 (by decide))) (Zpl k1 k2 k3 (by have:=h1.2;omega))
end Go.Bm
namespace Go.Bm
open Classical
theorem Zqt {MM MN MS MC MSm MK:Fn} {aA:List Itm} {i:Nat} {frm:Int} (hi:i<aA.length) (hd:drawn (itA aA i)) (hf:Li aA i frm) (hall:∀k<aA.length,AG (itA aA k)->drawn (itA aA k))
  (hK:MK (Ah (itA aA i))=some [.view kPt ((B0 (itA aA i)).map ptR),B true]) (hM:MSm (Ah (itA aA i))=some [B (decide (smI (itA aA i)))])
  (hJ:∀{i k:Nat},i<aA.length->k<aA.length->drawn (itA aA i)->drawn (itA aA k)->MC (Ah (itA aA i)++Ah (itA aA k))=some [.view kPt (((HD aA i k).take ((HD aA i k).length/2+1)).map ptR), .view kPt (((HD aA i k).drop ((HD aA i k).length/2)).map ptR)])
  (hS:MS [.view Al (aA.map Ah),I i]=some [B (decide (0<=BV aA i))]) (hN:MN [.view Al (aA.map Ah),I i]=some [I (C7 aA i)]) (hC:MM (Ah (itA aA i))=some (ptR (Bd (itA aA i)))):
  Qip MM MN MS MC MSm MK [.view Al (aA.map Ah),I i,I frm]=some [.view kPt ((Cg aA i frm).map ptR)]:=by
 have r1:=Fq hi;obtain⟨hcl1,hcl2⟩:=Q6u (itA aA i);rw[Zox];simp only[Ah,List.cons_append,List.nil_append]at hK hM hC hJ;have hin:(0:Int)<=(i:Int)/\(i:Int)<(aA.length:Int):=by omega
 simp only[go_sem,List.length_map,Int.toNat_natCast,r1,hK,hM,hC,hS,hN,List.nil_append,if_pos hin];unfold Cg;by_cases hs:smI (itA aA i)
 case neg=>rw[if_pos (by simp[hs]),if_neg hs]
 rw[if_neg (by simp[hs]),if_pos hs];have hk3:(itA aA i).kind≠3:=by have:=hs.1;omega
 have hcl3:(B0 (itA aA i)).length=2:=by unfold B0;rw[if_neg hk3];rfl
 have w1:wrap .i64 (((B0 (itA aA i)).length:Int)-1)=1:=by rw[hcl3];rfl
 rw[w1,hcl3,if_pos (by omega),if_pos (by omega)];unfold LF;rcases hf with rfl|⟨f,rfl,hf1,hf2⟩
 ·rw[if_neg (show¬(-1:Int)>=0 by omega)];unfold IZ;rw[if_neg (show¬(0:Int)<= -1 by omega)];by_cases hpos:0<=BV aA i
  ·obtain⟨k,hk,hk1,hk2⟩:=TO hall hpos;have hnx:=Q4 hpos;rw[hk]at hnx;have hnk:C7 aA i=k:=by omega
   obtain⟨j1,j2,j3⟩:=Kz (aA:=aA) (i:=i) (k:=k) hd hk2;have hj:=hJ hi hk1 hd hk2;have r2:=Fq hk1;have hin2:(0:Int)<=(k:Int)/\(k:Int)<(aA.length:Int):=by omega
   rw[if_pos hpos,if_pos hpos,hk,hnk,Int.toNat_natCast,if_pos hin2];simp only[go_sem,Int.toNat_natCast,r2,hj];rw[if_pos (by simp[R9];omega),if_pos (by simp;omega),if_pos (by simp;omega)];simp only[R9,List.map_append,List.map_cons,List.map_nil]
  ·rw[if_neg hpos,if_neg hpos,if_pos (by simp[R9];omega),if_pos (by simp;omega),if_pos (by simp;omega)];simp only[R9,Qy0,List.map_append,List.map_cons,List.map_nil]
 ·have hjf:=hJ hf1 hi hf2 hd;obtain⟨f1,f2,f3⟩:=Kz (aA:=aA) (i:=f) (k:=i) hf2 hd;have rf:=Fq hf1;have hinf:(0:Int)<=(f:Int)/\(f:Int)<(aA.length:Int):=by omega
  rw[if_pos (show(f:Int)>=0 by omega),if_pos hinf];unfold IZ;rw[if_pos (show(0:Int)<=(f:Int) by omega),Int.toNat_natCast];simp only[rf,go_sem,hjf,Int.toNat_natCast];by_cases hpos:0<=BV aA i
  ·obtain⟨k,hk,hk1,hk2⟩:=TO hall hpos;have hnx:=Q4 hpos;rw[hk]at hnx;have hnk:C7 aA i=k:=by omega
   obtain⟨j1,j2,j3⟩:=Kz (aA:=aA) (i:=i) (k:=k) hd hk2;have hj:=hJ hi hk1 hd hk2;have r2:=Fq hk1;have hin2:(0:Int)<=(k:Int)/\(k:Int)<(aA.length:Int):=by omega
   rw[if_pos hpos,if_pos hpos,hk,hnk,Int.toNat_natCast,if_pos hin2];simp only[go_sem,Int.toNat_natCast,r2,hj];rw[if_pos (by simp;omega),if_pos (by simp;omega),if_pos (by simp;omega)];simp only[List.map_append,List.map_cons,List.map_nil]
  ·rw[if_neg hpos,if_neg hpos,if_pos (by simp;omega),if_pos (by simp;omega),if_pos (by simp;omega)];simp only[Qy0,List.map_append,List.map_cons,List.map_nil]
theorem Zyl {aA:List Itm} (hl:aA.length<=1000000) {i:Nat} {frm:Int} (hi:i<aA.length) (hd:drawn (itA aA i)) (hf:Li aA i frm) (hall:∀k<aA.length,AG (itA aA k)->drawn (itA aA k)):
  NU [.view Al (aA.map Ah),I i,I frm]=some [.view kPt ((Cg aA i frm).map ptR)]:=
 Zqt hi hd hf hall (Zu7 hd.1) (SR _) (fun h1 h2 h3 h4=>Zk5 h3 h4) (Q5a hl hi) (ZY hl hi) (RJ hd.1.2.1 hd.1.2.2.1)
theorem Qn2 {MM MS:Fn} {l:List Itm} (hM:∀k:Int,MM [I k]=some [B (decide (1<=k/\k<=6))]) (hS:∀it,MS (Ah it)=some [B (decide (syI it))]) (hl:l.length<=1000000):∀(k i:Nat),i+k=l.length->
  (Am (LO MM MS) [.view Al (l.map Ah),I l.length,I i]=some (1,[B (decide (Ht (l.drop i)=1))]))\/(Am (LO MM MS) [.view Al (l.map Ah),I l.length,I i]=some (2,[])/\Ht (l.drop i)=2)
 |0,i,hi=>by
  right;refine⟨Bb ?_ (by simp),by rw[List.drop_of_length_le (by omega)];rfl⟩;rw[Q4x];simp only[go_sem];rw[if_neg (by omega)]
 |k+1,i,hi=>by
  have hlt:i<l.length:=by omega
  have hr:=Fq hlt;rw[Qfw hlt];have hs:=hS (itA l i);have hm:=hM (itA l i).kind;have hst:LO MM MS [.view Al (l.map Ah),I l.length,I i]=if AG (itA l i)then some (1,[B (decide (syI (itA l i)))])else some (0,[.view Al (l.map Ah),I l.length,I (i+1:Nat)]):=by
   rw[Q4x];simp only[Ah]at hs;have hin:(0:Int)<=(i:Int)/\(i:Int)<(l.length:Int):=by omega
   simp only[go_sem,List.length_map,Int.toNat_natCast,hr,hs,hm,if_pos hin];rw[if_pos (by omega),Ae (by omega)];by_cases h1:AG (itA l i)
   ·rw[if_pos (show 1<=(itA l i).kind/\(itA l i).kind<=6 from h1),if_pos h1]
   ·rw[if_neg (show¬(1<=(itA l i).kind/\(itA l i).kind<=6)from h1),if_neg h1];rfl
  unfold Ht;by_cases h10:AG (itA l i)
  ·rw[if_pos h10]at hst⊢;left;rw[Bb hst (by simp)];by_cases hsm:syI (itA l i)
   ·rw[if_pos hsm,decide_eq_true hsm];rfl
   ·rw[if_neg hsm,decide_eq_false hsm];rfl
  ·rw[if_neg h10]at hst⊢;rw[Bw hst];exact Qn2 hM hS hl k (i+1) (by omega)
def IP (aA:List Itm) (i:Nat):Prop:=(itA aA i).blend=0\/syI (itA aA i)\/Ht (aA.drop (i+1))=1
theorem Z1w {MM MS:Fn} {aA:List Itm} (hM:∀k:Int,MM [I k]=some [B (decide (1<=k/\k<=6))]) (hS:∀it,MS (Ah it)=some [B (decide (syI it))]) (hl:aA.length<=1000000) {i:Nat} (hi:i<aA.length):
  Qg2 MM MS (Am (LO MM MS)) [.view Al (aA.map Ah),I i]=some [B (decide (IP aA i))]:=by
 have hr:=Fq hi;have hs:=hS (itA aA i);have hL:=Qn2 hM hS (l:=aA.drop (i+1)) (by rw[List.length_drop];omega) (aA.drop (i+1)).length 0 (by omega);rw[List.drop_zero]at hL;rw[Zmd];simp only[Ah]at hs;have hw:wrap .i64 ((i:Int)+1)=((i+1:Nat):Int):=by rw[Ae (by omega)];omega
 have hin:(0:Int)<=(i:Int)/\(i:Int)<(aA.length:Int):=by omega
 have hin3:(0:Int)<=((i+1:Nat):Int)/\((i+1:Nat):Int)<=(aA.length:Int):=by omega
 have hdl:(List.drop (i+1) (aA.map Ah)).length=(aA.drop (i+1)).length:=by rw[List.length_drop,List.length_drop,List.length_map]
 generalize Am (LO MM MS)=N at*;simp only[go_sem,List.length_map,Int.toNat_natCast,hr,hs,hw,if_pos hin,if_pos hin3,hdl];rw[<-List.map_drop];by_cases h2:(itA aA i).blend=0
 ·rw[if_pos h2,decide_eq_true (show IP aA i from .inl h2)]
 ·rw[if_neg h2];by_cases h3:syI (itA aA i)
  ·rw[if_pos h3,decide_eq_true (show IP aA i from .inr (.inl h3))]
  ·rw[if_neg h3];rcases hL with hL|⟨hL,hn⟩
   ·have hL':N [.view Al ((aA.drop (i+1)).map Ah),I (aA.drop (i+1)).length,I 0]=some (1,[B (decide (Ht (aA.drop (i+1))=1))]):=hL;simp only[hL',go_sem];by_cases h4:Ht (aA.drop (i+1))=1
    ·rw[decide_eq_true h4,decide_eq_true (show IP aA i from .inr (.inr h4))]
    ·rw[decide_eq_false h4,decide_eq_false (show¬IP aA i from fun h=>h.elim h2 fun h=>h.elim h3 h4)]
   ·have hL':N [.view Al ((aA.drop (i+1)).map Ah),I (aA.drop (i+1)).length,I 0]=some (2,[]):=hL;simp only[hL',go_sem];rw[decide_eq_false (show¬IP aA i from fun h=>h.elim h2 fun h=>h.elim h3 fun h=>by rw[hn]at h;cases h)];simp
theorem Z01 {aA:List Itm} (hl:aA.length<=1000000) {i:Nat} (hi:i<aA.length):OW [.view Al (aA.map Ah),I i]=some [B (decide (IP aA i))]:=Z1w OL Qvy hl hi
def J8 (aA:List Itm) (i:Nat):Int:=if AG (itA aA i)then Kw aA i else Pg (itA aA i)
theorem Zgd {ME MM:Fn} {aA:List Itm} {i:Nat} {aF:Rw} {aD:List Mrk} {st:Pt} {b:Bool} {len sp mid:Int} (hi:i<aA.length) (hml:aD.length<=1000000)
  (hM:MM [I (itA aA i).kind]=some [B (decide (AG (itA aA i)))]) (hE:ME [.view Al (aA.map Ah),I i]=some [B (decide (IP aA i))]):
  WK ME MM [.view Ag aF, .view AE (aD.map At), .view Al (aA.map Ah),I i,I st.x,I st.y,I st.z,B b,I len,I sp,I mid]=
   some [.view Ag aF, .view AE ((aD++[(⟨len,J8 aA i,i⟩:Mrk)]).map At),I st.x,I st.y,I st.z,B b,I len,I sp,I mid]:=by
 have hr:=Fq hi;have hin:(0:Int)<=(i:Int)/\(i:Int)<(aA.length:Int):=by omega
 have hb:(aD.length+1)*24<=140737488355328:=by omega
 have e:∀k:Int,aD.map At++[[I len,I k,I i]]=(aD++[(⟨len,k,i⟩:Mrk)]).map At:=fun k=>by rw[List.map_append];rfl
 rw[Zzu];simp only[go_sem,List.length_map,Int.toNat_natCast,hr,if_pos hin,hM,hE,List.length_append,List.length_cons,List.length_nil,if_pos hb];have fin:∀{k:Int},k=J8 aA i->some [AC.view Ag aF, .view AE (aD.map At++[[I len,I k,I i]]),I st.x,I st.y,I st.z,B b,I len,I sp,I mid]=some [.view Ag aF, .view AE ((aD++[(⟨len,J8 aA i,i⟩:Mrk)]).map At),I st.x,I st.y,I st.z,B b,I len,I sp,I mid]:=by
  intro k hk;rw[e,hk]
 unfold J8 Kw Pg at fin⊢;by_cases c4:(itA aA i).kind=4
 ·rw[if_pos c4];have hm:AG (itA aA i):=⟨by omega,by omega⟩;exact fin (by rw[if_pos hm,if_pos c4])
 ·rw[if_neg c4];by_cases hm:AG (itA aA i)
  ·rw[if_pos hm];by_cases hx:IP aA i
   ·rw[if_pos hx];refine fin ?_;rw[if_pos hm,if_neg c4];rcases hx with h|h|h
    ·rw[if_pos h]
    ·by_cases h2:(itA aA i).blend=0
     ·rw[if_pos h2]
     ·rw[if_neg h2,if_pos h]
    ·by_cases h2:(itA aA i).blend=0
     ·rw[if_pos h2]
     ·rw[if_neg h2];by_cases h3:syI (itA aA i)
      ·rw[if_pos h3]
      ·rw[if_neg h3,h]
   ·rw[if_neg hx,if_pos hm];refine fin ?_;rw[if_pos hm,if_neg c4,if_neg (fun h=>hx (.inl h)),if_neg (fun h=>hx (.inr (.inl h)))];have hns:∀l:List Itm,Ht l=1\/Ht l=2:=by
     intro l;induction l with
     |nil=>right;rfl
     |cons it l ih=>
      unfold Ht;split
      ·split<;>simp
      ·exact ih
    rcases hns (aA.drop (i+1))with h|h
    ·exact absurd (.inr (.inr h)) hx
    ·rw[h]
  ·rw[if_neg hm,if_neg hm];by_cases c10:(itA aA i).kind=10
   ·rw[if_pos c10];exact fin (by rw[if_neg hm,if_pos c10])
   ·rw[if_neg c10];by_cases c13:(itA aA i).kind=13
    ·rw[if_pos c13];exact fin (by rw[if_neg hm,if_neg c10,if_pos c13])
    ·rw[if_neg c13];exact fin (by rw[if_neg hm,if_neg c10,if_neg c13])
theorem Zej {aA:List Itm} (hl:aA.length<=1000000) {i:Nat} {aF:Rw} {aD:List Mrk} {st:Pt} {b:Bool} {len sp mid:Int} (hi:i<aA.length) (hml:aD.length<=1000000):
  ID [.view Ag aF, .view AE (aD.map At), .view Al (aA.map Ah),I i,I st.x,I st.y,I st.z,B b,I len,I sp,I mid]=
   some [.view Ag aF, .view AE ((aD++[(⟨len,J8 aA i,i⟩:Mrk)]).map At),I st.x,I st.y,I st.z,B b,I len,I sp,I mid]:=
 Zgd hi hml (OL _) (Z01 hl hi)
end Go.Bm
namespace Go.Bm
open Classical
theorem Zxk (a:Pt) (aF:List Sgm):aF=[]\/∃l g,aF=l++[g]/\E_ a aF=g.to/\((aF.length:Int)>0)/\nth [] (aF.map Ay) (aF.length-1)=Ay g:=by
 rcases List.eq_nil_or_concat aF with h|⟨l,g,h⟩
 ·exact .inl h
 ·right;rw[List.concat_eq_append]at h;refine⟨l,g,h,?_,?_,?_⟩
  ·rw[h];exact QF g a l
  ·rw[h];simp
  ·have hl:aF.length-1<aF.length:=by rw[h];simp
   rw[I1 _ _ _ _ hl];congr 1;subst h;simp
theorem Z0c {ML:Fn} {aD:Rw} {q g st:Pt} {gl item feed lead len sp mid:Int}:
  Ss ML [.view Ag [], .view AE aD,I q.x,I q.y,I q.z,I g.x,I g.y,I g.z,I gl,I item,I feed,I lead,I st.x,I st.y,I st.z,B false,I len,I sp,I mid]=
   some [.view Ag [], .view AE aD,I q.x,I q.y,I q.z,B true,I len,I sp,I mid]:=by
 rw[Qzb];simp
theorem Zp8 {ML:Fn} {aF:List Sgm} {aD:Rw} {q g st at_:Pt} {gl item feed lead len sp mid:Int} (hat:E_ st aF=at_)
  (hL:ML [I at_.x,I at_.y,I at_.z,I q.x,I q.y,I q.z]=some [I (AB at_ q)]) (hl:0<=AB at_ q/\AB at_ q<=268435456) (hs:aF.length+1<=1048577) (hlen:0<=len/\len<=4000000000000000000):
  Ss ML [.view Ag (aF.map Ay), .view AE aD,I q.x,I q.y,I q.z,I g.x,I g.y,I g.z,I gl,I item,I feed,I lead,I st.x,I st.y,I st.z,B true,I len,I sp,I mid]=
   some [.view Ag ((AW item feed lead (aF,len,at_) q).1.map Ay), .view AE aD,I st.x,I st.y,I st.z,B true,I (AW item feed lead (aF,len,at_) q).2.1,I sp,I mid]:=by
 have hap:(aF.map Ay++[[I q.x,I q.y,I q.z,I (AB at_ q),I item,I feed,I lead]])=(aF++[(⟨q,AB at_ q,item,feed,lead⟩:Sgm)]).map Ay:=by rw[List.map_append];rfl
 rw[Qzb];try dsimp only[go_sem]
 rcases Zxk st aF with h|⟨l,s,h1,h2,h3,h4⟩
 ·subst h;have hat':st=at_:=hat;subst hat';simp only[List.map_nil,List.length_nil];rw[AX (by decide),Bool.not_true,cond_false];by_cases c:q=st
  ·have c4:=Ei.1 c;rw[Bu (by simp[c4.1,c4.2.1,c4.2.2]),show AW item feed lead ([],len,st) q=([],len,st)from if_pos c];rfl
  ·rw[Bf,hL]
   ·simp only[Option.bind_some,Ho,HH,gA,jA,wA,bA,List.nil_append,List.length_cons,List.length_nil];rw[Bu (by decide),show AW item feed lead ([],len,st) q=([⟨q,AB st q,item,feed,lead⟩],len+AB st q,q)from if_neg c,Ae (by omega)];rfl
   ·have c2: ¬(q.x=st.x/\q.y=st.y/\q.z=st.z):=fun g=>c (Ei.2 g);simp only[Bool.and_true,Bool.and_eq_false_iff,beq_eq_false_iff_ne];omega
 ·rw[hat]at h2;have w1:wrap .i64 ((aF.length:Int)-1)=((aF.length-1:Nat):Int):=by rw[Ae (by omega)];omega
  have hin:(0:Int)<=((aF.length-1:Nat):Int)/\((aF.length-1:Nat):Int)<(aF.length:Int):=by omega
  rw[h2]at hL hap⊢;clear h1;simp only[go_sem,List.length_map,w1,Int.toNat_natCast,h4,if_pos h3,if_pos hin,hL,List.length_append,List.length_cons,List.length_nil];rw[if_neg (by simp)];by_cases c:q=s.to
  ·have c4:=Ei.1 c;rw[if_pos ⟨c4.1,c4.2.1,c4.2.2,trivial⟩,show AW item feed lead (aF,len,s.to) q=(aF,len,s.to)from if_pos c]
  ·rw[if_neg (fun g=>c (Ei.2 ⟨g.1,g.2.1,g.2.2.1⟩)),if_pos (by omega),show AW item feed lead (aF,len,s.to) q=(aF++[⟨q,AB s.to q,item,feed,lead⟩],len+AB s.to q,q)from if_neg c,Ae (by rw[<-h2]at*;omega),hap]
noncomputable def DL (it:Itm) (item feed lead:Int) (s:(List Sgm×Int×Pt)×Int) (q:Pt):(List Sgm×Int×Pt)×Int:=
 (AW item feed lead s.1 q,if smI it/\q=Bd it then(AW item feed lead s.1 q).2.1 else s.2)
theorem Qkr {it:Itm} {item feed lead:Int}:∀(pts:List Pt) (s:(List Sgm×Int×Pt)×Int),(pts.foldl (DL it item feed lead) s).1=pts.foldl (AW item feed lead) s.1
 |[],_=>rfl
 |q::pts,s=>by rw[List.foldl_cons,List.foldl_cons,Qkr pts];rfl
theorem Qos {MM MSm MA MP MG MR:Fn} {it:Itm} {pts:List Pt} {j:Nat} (hj:j<pts.length) (hpl:pts.length<=1000000) {aF segs':Rw} {aD:Rw} {g st st':Pt} {b b':Bool} {gl item feed lead len len' sp mid:Int}
  (hM:MSm (Ah it)=some [B (decide (smI it))]) (hC:MM (Ah it)=some (ptR (Bd it)))
  (hA:MA [.view Ag aF, .view AE aD,I pts[j].x,I pts[j].y,I pts[j].z,I g.x,I g.y,I g.z,I gl,I item,I feed,I lead,I st.x,I st.y,I st.z,B b,I len,I sp,I mid]=some [.view Ag segs', .view AE aD,I st'.x,I st'.y,I st'.z,B b',I len',I sp,I mid]):
  KC MM MSm MA MP MG MR (.view Ag aF:: .view AE aD:: .view kPt (pts.map ptR)::I pts.length::I j::(Ah it++[I g.x,I g.y,I g.z,I gl,I item,I feed,I lead,I st.x,I st.y,I st.z,B b,I len,I sp,I mid]))=
   some (0, .view Ag segs':: .view AE aD:: .view kPt (pts.map ptR)::I pts.length::I (j+1:Nat)::(Ah it++[I g.x,I g.y,I g.z,I gl,I item,I feed,I lead,I st'.x,I st'.y,I st'.z,B b',I len',I sp,I (if smI it/\pts[j]=Bd it then len' else mid)])):=by
 have hr:nth [] (pts.map ptR) j=ptR pts[j]:=I1 _ _ _ _ hj;have hin:(0:Int)<=(j:Int)/\(j:Int)<(pts.length:Int):=by omega
 have hw:wrap .i64 ((j:Int)+1)=((j+1:Nat):Int):=by rw[Ae (by omega)];omega
 generalize pts[j]=q at*;simp only[Ah]at hM hC;simp only[Ah,List.cons_append,List.nil_append];rw[Qzv];simp only[go_sem,List.length_map,Int.toNat_natCast,hr,if_pos hin,hA,hM,hC,hw];rw[if_pos (by omega)];by_cases c:smI it
 ·rw[if_pos c];by_cases c2:q=Bd it
  ·have c3:=Ei.1 c2;rw[if_pos ⟨c3.1,c3.2.1,c3.2.2,trivial⟩,if_pos ⟨c,c2⟩]
  ·rw[if_neg (fun h=>c2 (Ei.2 ⟨h.1,h.2.1,h.2.2.1⟩)),if_neg (fun h=>c2 h.2)]
 ·rw[if_neg c,if_neg (fun h=>c h.1)]
theorem Qiz {MM MSm MA MP MG MR:Fn} {it:Itm} {pts:List Pt} (hpl:pts.length<=1000000) {aD:Rw} {g st:Pt} {gl item feed lead sp:Int} (hst:bd 67108864 st) (hpts:∀p∈pts,bd 67108864 p)
  (hM:MSm (Ah it)=some [B (decide (smI it))]) (hC:MM (Ah it)=some (ptR (Bd it)))
  (hA : ∀ {aF : List Sgm} {q at_ : Pt} {len mid : Int}, E_ st aF = at_ -> bd 67108864 at_ -> bd 67108864 q -> aF.length + 1 <= 1048577 -> (0 <= len /\ len <= 4000000000000000000) ->
   MA [.view Ag (aF.map Ay), .view AE aD,I q.x,I q.y,I q.z,I g.x,I g.y,I g.z,I gl,I item,I feed,I lead,I st.x,I st.y,I st.z,B true,I len,I sp,I mid]=
   some [.view Ag ((AW item feed lead (aF,len,at_) q).1.map Ay), .view AE aD,I st.x,I st.y,I st.z,B true,I (AW item feed lead (aF,len,at_) q).2.1,I sp,I mid]):
  ∀(k j:Nat) (s:List Sgm×Int×Pt) (mid:Int),j+k=pts.length->s.1.length+k<=1048576->0<=s.2.1->s.2.1+k*268435456<=4000000000000000000->bd 67108864 s.2.2->E_ st s.1=s.2.2->
  Am (KC MM MSm MA MP MG MR) (.view Ag (s.1.map Ay):: .view AE aD:: .view kPt (pts.map ptR)::I pts.length::I j::(Ah it++[I g.x,I g.y,I g.z,I gl,I item,I feed,I lead,I st.x,I st.y,I st.z,B true,I s.2.1,I sp,I mid]))=
   some (1,[.view Ag (((pts.drop j).foldl (DL it item feed lead) (s,mid)).1.1.map Ay), .view AE aD,I st.x,I st.y,I st.z,B true,I ((pts.drop j).foldl (DL it item feed lead) (s,mid)).1.2.1,I sp,I ((pts.drop j).foldl (DL it item feed lead) (s,mid)).2])
 |0,j,s,mid,hj,_,_,_,_,_=>by
  refine Bb ?_ (by simp);simp only[Ah,List.cons_append,List.nil_append];rw[Qzv,AX (by omega),List.drop_of_length_le (by omega)];rfl
 |k+1,j,s,mid,hj,hs,hl0,hl1,hat,he=>by
  have hlt:j<pts.length:=by omega
  have hq:=hpts _ (List.getElem_mem hlt);obtain⟨aF,len,at_⟩:=s;simp only at hs hl0 hl1 hat he;have ha:=hA (q:=pts[j]) (mid:=mid) he hat hq (by omega) (by constructor<;>omega);have hstep:=Qos (MP:=MP) (MG:=MG) (MR:=MR) hlt hpl hM hC ha;have hinv:E_ st (AW item feed lead (aF,len,at_) pts[j]).1=(AW item feed lead (aF,len,at_) pts[j]).2.2/\bd 67108864 (AW item feed lead (aF,len,at_) pts[j]).2.2/\
    (AW item feed lead (aF,len,at_) pts[j]).1.length<=aF.length+1/\0<=(AW item feed lead (aF,len,at_) pts[j]).2.1/\(AW item feed lead (aF,len,at_) pts[j]).2.1<=len+268435456:=by
   have hl:=HW hat hq;unfold AW;split
   ·exact⟨he,hat,by simp,hl0,by simp only;omega⟩
   ·refine⟨QF _ _ _,hq,by simp,?_,?_⟩<;>simp only<;>omega
  rw[Bw hstep];obtain⟨i1,i2,i3,i4,i5⟩:=hinv;have:=Qiz (MP:=MP) (MG:=MG) (MR:=MR) hpl hst hpts hM hC hA k (j+1) (AW item feed lead (aF,len,at_) pts[j]) (if smI it/\pts[j]=Bd it then(AW item feed lead (aF,len,at_) pts[j]).2.1 else mid) (by omega) (by omega) i4 (by omega) i2 i1;rw[this,Nq pts j hlt,List.foldl_cons];rfl
theorem Zrc {it:Itm} (h:Dj it):∃l,B0 it=Ax it.fr::l:=by
 unfold B0;by_cases h3:it.kind=3
 ·rw[if_pos h3];unfold DQ;rw[List.map_cons];refine⟨(DI it.dir 16 it.full (Ev it it.fr) (Ev it it.to)).map (I7 it),?_⟩;congr 1;obtain⟨hp,-,hc,-⟩:=h.2.2.2 h3;obtain⟨f1,f2,f3⟩:=QT it.aG it.ce;unfold I7 Ev;simp only[f1,f2];unfold dU dW;have e1:plU it.aG it.ce*16+(plU it.aG it.fr-plU it.aG it.ce)*16=plU it.aG it.fr*16:=by omega
  have e2:plW it.aG it.ce*16+(plW it.aG it.fr-plW it.aG it.ce)*16=plW it.aG it.fr*16:=by omega
  rw[e1,e2];unfold spP plU plW plH Ax;rcases hp with hp|hp|hp<;>rw[hp]<;>rfl
 ·rw[if_neg h3];exact⟨_,rfl⟩
theorem Zws {aA:List Itm} {i:Nat} (h:Dj (itA aA i)):∃l,Cg aA i (-1)=Ax (itA aA i).fr::l:=by
 obtain⟨l,hl⟩:=Zrc h;unfold Cg;split
 ·unfold IZ;rw[if_neg (by omega),hl];exact⟨_,rfl⟩
 ·exact⟨l,hl⟩
noncomputable def Fc (aA:List Itm) (i:Nat) (s:BSt) (mid:Int):(List Sgm×Int×Pt)×Int:=
 (Cg aA i s.frm).foldl (DL (itA aA i) i (F8 (itA aA i) s.speed) (JP (itA aA i))) ((s.aF,s.len,if s.begun=true then s.at_ else Ax (itA aA i).fr),mid)
theorem Q3v (aA:List Itm) (i:Nat) (s:BSt) (mid:Int):(Fc aA i s mid).1=EA aA i s:=by
 unfold Fc EA;rw[Qkr]
theorem Zss {MM MSm MA MP MG MR:Fn} {aA:List Itm} {i:Nat} {s:BSt} {aD:Rw} {mid:Int} (hi:i<aA.length) (hlen:aA.length<=15) (hv:Dj (itA aA i)) (hok:BOK aA i s) (hinv:BInv s)
  (hpts:(∀p∈Cg aA i s.frm,bd 67108864 p)/\(Cg aA i s.frm).length<=65537)
  (hfeed:syI (itA aA i)->0<=(itA aA i).feed/\(itA aA i).feed<=60000000) (hfrm:s.begun=false->s.frm= -1)
  (hM:MSm (Ah (itA aA i))=some [B (decide (smI (itA aA i)))]) (hC:MM (Ah (itA aA i))=some (ptR (Bd (itA aA i))))
  (hG:MG (Ah (itA aA i))=some [B (decide (syI (itA aA i)))]) (hR:MR (Ah (itA aA i)++[I s.speed])=some [I (F8 (itA aA i) s.speed)])
  (hP:MP [.view Al (aA.map Ah),I i,I s.frm]=some [.view kPt ((Cg aA i s.frm).map ptR)])
  (hA : ∀ {aF : List Sgm} {q g st at_ : Pt} {gl item feed lead len mid : Int}, E_ st aF = at_ -> bd 67108864 at_ -> bd 67108864 q -> aF.length + 1 <= 1048577 -> (0 <= len /\ len <= 4000000000000000000) ->
   MA [.view Ag (aF.map Ay), .view AE aD,I q.x,I q.y,I q.z,I g.x,I g.y,I g.z,I gl,I item,I feed,I lead,I st.x,I st.y,I st.z,B true,I len,I s.speed,I mid]=
   some [.view Ag ((AW item feed lead (aF,len,at_) q).1.map Ay), .view AE aD,I st.x,I st.y,I st.z,B true,I (AW item feed lead (aF,len,at_) q).2.1,I s.speed,I mid])
  (hA0 : ∀ {q g st : Pt} {gl item feed lead len mid : Int}, MA [.view Ag [], .view AE aD, I q.x, I q.y, I q.z, I g.x, I g.y, I g.z, I gl, I item, I feed, I lead, I st.x, I st.y, I st.z, B false, I len, I s.speed, I mid] =
   some [.view Ag [], .view AE aD,I q.x,I q.y,I q.z,B true,I len,I s.speed,I mid]):
  Qi7 MM MSm MA MP MG MR (Am (KC MM MSm MA MP MG MR)) [.view Ag (s.aF.map Ay), .view AE aD, .view Al (aA.map Ah),I i,I s.frm,I s.start.x,I s.start.y,I s.start.z,B s.begun,I s.len,I s.speed,I mid]=
   some [.view Ag ((Fc aA i s mid).1.1.map Ay), .view AE aD,B true,I (if s.begun=true then s.start else Ax (itA aA i).fr).x,I (if s.begun=true then s.start else Ax (itA aA i).fr).y,I (if s.begun=true then s.start else Ax (itA aA i).fr).z,B true,I (Fc aA i s mid).1.2.1,I s.speed,I (Fc aA i s mid).2]:=by
 have hr:=Fq hi;have hin:(0:Int)<=(i:Int)/\(i:Int)<(aA.length:Int):=by omega
 have hsg:=hok.aF;have hln:=hok.len
 have hloop:∀lead feed:Int,Am (KC MM MSm MA MP MG MR) (.view Ag (s.aF.map Ay):: .view AE aD:: .view kPt ((Cg aA i s.frm).map ptR)::I (Cg aA i s.frm).length::I (0:Nat)::(Ah (itA aA i)++[I (⟨0,0,0⟩:Pt).x,I (⟨0,0,0⟩:Pt).y,I (⟨0,0,0⟩:Pt).z,I 0,I i,I feed,I lead,I s.start.x,I s.start.y,I s.start.z,B s.begun,I s.len,I s.speed,I mid]))=
   some (1, [.view Ag (((Cg aA i s.frm).foldl (DL (itA aA i) i feed lead) ((s.aF, s.len, if s.begun = true then s.at_ else Ax (itA aA i).fr), mid)).1.1.map Ay), .view AE aD, I (if s.begun = true then s.start else Ax (itA aA i).fr).x, I (if s.begun = true then s.start else Ax (itA aA i).fr).y, I (if s.begun = true then s.start else Ax (itA aA i).fr).z, B true,
    I ((Cg aA i s.frm).foldl (DL (itA aA i) i feed lead) ((s.aF,s.len,if s.begun=true then s.at_ else Ax (itA aA i).fr),mid)).1.2.1,I s.speed,I ((Cg aA i s.frm).foldl (DL (itA aA i) i feed lead) ((s.aF,s.len,if s.begun=true then s.at_ else Ax (itA aA i).fr),mid)).2]):=by
  intro lead feed;by_cases hb:s.begun=true
  ·obtain⟨g1,g2⟩:=hinv.begun hb;obtain⟨g3,g4,g5⟩:=g2;rw[if_pos hb,if_pos hb,hb];have:=Qiz (MP:=MP) (MG:=MG) (MR:=MR) (g:=⟨0,0,0⟩) (gl:=0) (item:=i) (feed:=feed) (lead:=lead) (by omega) g1 hpts.1 hM hC (fun h1 h2 h3 h4 h5=>hA h1 h2 h3 h4 h5) (Cg aA i s.frm).length 0 (s.aF,s.len,s.at_) mid (by omega) (by simp only;omega) hln.1 (by simp only;omega) (hok.at_ hb) g4;rw[List.drop_zero]at this;exact this
  ·have hb2:s.begun=false:=by simpa using hb
   obtain⟨e1,e2,e3⟩:=hinv.empty hb2;obtain⟨l,hl⟩:=Zws hv;have hfr:bd 67108864 (Ax (itA aA i).fr):=A7 (Ff hv.2.1) (by decide);rw[if_neg hb,if_neg hb,hb2,e1];rw[hfrm hb2,hl]at hpts⊢;have h0:0<(Ax (itA aA i).fr::l).length:=by simp
   have hstep:=Qos (MP:=MP) (MG:=MG) (MR:=MR) h0 (by omega) hM hC (hA0 (q:=Ax (itA aA i).fr) (g:=⟨0,0,0⟩) (st:=s.start) (gl:=0) (item:=i) (feed:=feed) (lead:=lead) (len:=s.len) (mid:=mid));rw[List.map_nil,Bw hstep];have:=Qiz (MP:=MP) (MG:=MG) (MR:=MR) (g:=⟨0,0,0⟩) (gl:=0) (item:=i) (feed:=feed) (lead:=lead) (by omega) hfr hpts.1 hM hC (fun h1 h2 h3 h4 h5=>hA h1 h2 h3 h4 h5) l.length 1 ([],s.len,Ax (itA aA i).fr) (if smI (itA aA i)/\Ax (itA aA i).fr=Bd (itA aA i)then s.len else mid) (by simp;omega) (by simp only[List.length_nil];simp at hpts;omega) hln.1 (by simp only;simp at hpts;omega) hfr rfl;rw[List.drop_succ_cons,List.drop_zero]at this;rw[List.foldl_cons];have e4:DL (itA aA i) i feed lead (([],s.len,Ax (itA aA i).fr),mid) (Ax (itA aA i).fr)=(([],s.len,Ax (itA aA i).fr),if smI (itA aA i)/\Ax (itA aA i).fr=Bd (itA aA i)then s.len else mid):=by
    unfold DL;rw[show AW i feed lead ([],s.len,Ax (itA aA i).fr) (Ax (itA aA i).fr)=([],s.len,Ax (itA aA i).fr)from if_pos rfl]
   rw[e4];exact this
 have hcount:∀lead feed:Int,((Cg aA i s.frm).foldl (DL (itA aA i) i feed lead) ((s.aF,s.len,if s.begun=true then s.at_ else Ax (itA aA i).fr),mid)).1.1.length<=1048576:=by
  intro lead feed;rw[Qkr];have hat:bd 67108864 (if s.begun=true then s.at_ else Ax (itA aA i).fr):=by
   split
   ·rename_i hb;exact hok.at_ hb
   ·exact A7 (Ff hv.2.1) (by decide)
  have:=(R2 (item:=i) (feed:=feed) (lead:=lead) (Cg aA i s.frm) (s.aF,s.len,if s.begun=true then s.at_ else Ax (itA aA i).fr) hpts.1 hat hln.1).1;simp only at this⊢;omega
 generalize Am (KC MM MSm MA MP MG MR)=N at*;have hlp:=fun lead feed=>hloop lead feed;simp only[Ah,List.cons_append,List.nil_append]at hG hR hlp;rw[Zan];simp only[go_sem,List.length_map,Int.toNat_natCast,hr,if_pos hin,hG,hR,hP];have h00:((0:Nat):Int)=0:=rfl;simp only[h00]at hlp;unfold Fc JP;by_cases hs:syI (itA aA i)
 ·have hf:=hfeed hs;rw[if_pos hs];simp only[if_pos hs];rw[Ae (by omega)];simp only[hlp,go_sem,List.length_map];rw[decide_eq_true (show((_:Nat):Int)<=1048576 from by have:=hcount (mn ((itA aA i).feed*16) 16777216) (F8 (itA aA i) s.speed);omega)]
 ·rw[if_neg hs];simp only[if_neg hs];simp only[hlp,go_sem,List.length_map];rw[decide_eq_true (show((_:Nat):Int)<=1048576 from by have:=hcount 0 (F8 (itA aA i) s.speed);omega)]
end Go.Bm
namespace Go.Bm
open Classical
theorem We {MK MV MN MS MM MC:Fn} {aA:List Itm} (hM:∀k:Int,MM [I k]=some [B (decide (1<=k/\k<=6))]) (hW:∀it,MC (Ah it)=some [I (if BF it then 1 else 0)]) (hl:aA.length<=1000000):
  ∀(k i:Nat) (last:Int),i+k=aA.length->(last= -1\/(0<=last/\last<i))->
  (Am (Pv MK MV MN MS MM MC) [.view Ag [], .view AE [], .view Al (aA.map Ah),I last, .view Al (aA.map Ah),I aA.length,I i,I 0,I 0,I 0,B false,I 0,I 0,I 0]=some (1,[.view Ag [], .view AE [],I (ET aA k i last),I 0,I 0,I 0,B false,I 0,I 0,I 0])/\ET aA k i last≠0)\/
  (Am (Pv MK MV MN MS MM MC) [.view Ag [], .view AE [], .view Al (aA.map Ah),I last, .view Al (aA.map Ah),I aA.length,I i,I 0,I 0,I 0,B false,I 0,I 0,I 0]=some (2,[.view Ag [], .view AE [], .view Al (aA.map Ah),I 0,I 0,I 0,B false,I 0,I 0,I 0])/\ET aA k i last=0)
 |0,i,last,hi,_=>by
  right;refine⟨Bb ?_ (by simp),rfl⟩;rw[Qti,AX (by omega)]
 |k+1,i,last,hi,hla=>by
  have hlt:i<aA.length:=by omega
  have hr:=Fq hlt;have hw:=hW (itA aA i);have hm:=hM (itA aA i).kind;have hin:(0:Int)<=(i:Int)/\(i:Int)<(aA.length:Int):=by omega
  have hst:Pv MK MV MN MS MM MC [.view Ag [], .view AE [], .view Al (aA.map Ah),I last, .view Al (aA.map Ah),I aA.length,I i,I 0,I 0,I 0,B false,I 0,I 0,I 0]=
    if BF (itA aA i)then some (1,[.view Ag [], .view AE [],I 1,I 0,I 0,I 0,B false,I 0,I 0,I 0])else if AG (itA aA i)then(if 0<=last/\(itA aA last.toNat).to≠(itA aA i).fr then some (1,[.view Ag [], .view AE [],I 13,I 0,I 0,I 0,B false,I 0,I 0,I 0])else some (0,[.view Ag [], .view AE [], .view Al (aA.map Ah),I i, .view Al (aA.map Ah),I aA.length,I (i+1:Nat),I 0,I 0,I 0,B false,I 0,I 0,I 0]))
    else some (0,[.view Ag [], .view AE [], .view Al (aA.map Ah),I last, .view Al (aA.map Ah),I aA.length,I (i+1:Nat),I 0,I 0,I 0,B false,I 0,I 0,I 0]):=by
   rw[Qti];simp only[Ah]at hw;simp only[go_sem,List.length_map,Int.toNat_natCast,hr,hw,hm,if_pos hin];rw[if_pos (by omega),Ae (by omega)];by_cases c1:BF (itA aA i)
   ·simp only[if_pos c1];rw[if_pos (by omega)]
   simp only[if_neg c1];rw[if_neg (by simp)];by_cases c2:AG (itA aA i)
   ·rw[if_neg (fun h=>h c2),if_pos c2];rcases hla with rfl|⟨h1,h2⟩
    ·rw[if_neg (show¬(-1:Int)>=0 by omega),if_neg (fun h=>by omega)];rfl
    ·obtain⟨L,rfl⟩:=Int.eq_ofNat_of_zero_le h1;have hL:L<aA.length:=by omega
     have hin2:(0:Int)<=(L:Int)/\(L:Int)<(aA.length:Int):=by omega
     have hr2:=Fq hL;simp only[Int.toNat_natCast,hr2,go_sem,if_pos hin2];rw[if_pos (by omega)];by_cases c3:(itA aA L).to=(itA aA i).fr
     ·have c4:=Ei.1 c3;rw[if_neg (fun h=>h ⟨c4.1,c4.2.1,c4.2.2,trivial⟩),if_neg (fun h=>h.2 c3)];rfl
     ·rw[if_pos (fun h=>c3 (Ei.2 ⟨h.1,h.2.1,h.2.2.1⟩)),if_pos ⟨h1,c3⟩]
   ·rw[if_pos (show¬(1<=(itA aA i).kind/\(itA aA i).kind<=6)from c2),if_neg c2];rfl
  unfold ET;by_cases c1:BF (itA aA i)
  ·rw[if_pos c1]at hst⊢;exact .inl ⟨Bb hst (by simp),by simp⟩
  ·rw[if_neg c1]at hst⊢;by_cases c2:AG (itA aA i)
   ·rw[if_pos c2]at hst⊢;by_cases c3:0<=last/\(itA aA last.toNat).to≠(itA aA i).fr
    ·rw[if_pos c3]at hst⊢;exact .inl ⟨Bb hst (by simp),by simp⟩
    ·rw[if_neg c3]at hst⊢;rw[Bw hst];exact We hM hW hl k (i+1) i (by omega) (.inr (by omega))
   ·rw[if_neg c2]at hst⊢;rw[Bw hst];exact We hM hW hl k (i+1) last (by omega) (by omega)
noncomputable def Gh (aA:List Itm):Nat->Int
 |0=> -1
 |i+1=>if AG (itA aA i)then i else Gh aA i
theorem Qyf (aA:List Itm):∀i,Gh aA i= -1\/∃L:Nat,Gh aA i=L/\L<i/\AG (itA aA L)/\∀j,L<j->j<i-> ¬AG (itA aA j)
 |0=> .inl rfl
 |i+1=>by
  unfold Gh;by_cases c:AG (itA aA i)
  ·rw[if_pos c];exact .inr ⟨i,rfl,by omega,c,fun j h1 h2=>by omega⟩
  ·rw[if_neg c];rcases Qyf aA i with h|⟨L,h1,h2,h3,h4⟩
   ·exact .inl h
   ·refine .inr ⟨L,h1,by omega,h3,fun j g1 g2=> ?_⟩;by_cases e:j=i
    ·rw[e];exact c
    ·exact h4 j g1 (by omega)
theorem Qw1 (aA:List Itm):∀i,(Aq aA i).frm=if 0<=Gh aA i/\0<=BV aA (Gh aA i).toNat then Gh aA i else-1
 |0=>by rw[Aq,Gh,if_neg (by omega)]
 |i+1=>by
  rw[Aq,Gh];unfold Cw;by_cases c:AG (itA aA i)
  ·rw[if_pos c,if_pos c];simp only[Int.toNat_natCast];by_cases c2:0<=BV aA i
   ·rw[if_pos c2,if_pos ⟨by omega,c2⟩]
   ·rw[if_neg c2,if_neg (fun h=>c2 h.2)]
  ·rw[if_neg c,if_neg c];exact Qw1 aA i
theorem Zoi {aA:List Itm} {i L:Nat} (hL:L<i) (hi:i<aA.length) (hm:AG (itA aA i)) (hno:∀j,L<j->j<i-> ¬AG (itA aA j)) (hs:0<=BV aA L):C7 aA L=i:=by
 have h1:=Q4 hs;rcases YR aA L with h|⟨-,-,k,k1,k2,k3,k4,k5⟩
 ·omega
 ·have hk:C7 aA L=k:=by omega
  rw[hk];rcases Nat.lt_trichotomy k i with h|h|h
  ·exact absurd ⟨by have:=k4.1;omega,by have:=k4.1;omega⟩ (hno k k2 h)
  ·exact h
  ·have:=k5 i hL h;have:=hm.2;omega
noncomputable def CU (aA:List Itm):Nat->Int
 |0=>0
 |i+1=>if AG (itA aA i)then(Fc aA i (Aq aA i) (CU aA i)).2 else CU aA i
theorem Qr0 (aA:List Itm):∀i,(Aq aA i).begun=false->(Aq aA i).frm= -1
 |0,_=>by rw[Aq]
 |i+1,h=>by
  rw[Aq]at h⊢;unfold Cw at h⊢;by_cases c:AG (itA aA i)
  ·rw[if_pos c]at h;cases h
  ·rw[if_neg c]at h⊢;exact Qr0 aA i h
noncomputable abbrev pbR (aA:List Itm) (i:Nat):List AC:=
 [.view Ag ((Aq aA i).aF.map Ay), .view AE ((Aq aA i).aD.map At), .view Al (aA.map Ah),I (Gh aA i), .view Al (aA.map Ah),I aA.length,I i,I (Aq aA i).start.x,I (Aq aA i).start.y,I (Aq aA i).start.z,B (Aq aA i).begun,I (Aq aA i).len,I (Aq aA i).speed,I (CU aA i)]
theorem Zvh {MK MV MN MS MM MC:Fn} {N6:Lp} {aA:List Itm} {i:Nat} (hi:i<aA.length) (hlen:aA.length<=15) (hmk:(Aq aA i).aD.length=i)
  (hM:∀k:Int,MM [I k]=some [B (decide (1<=k/\k<=6))]) (hS:∀L:Nat,L<aA.length->MS [.view Al (aA.map Ah),I L]=some [B (decide (0<=BV aA L))]) (hN:∀L:Nat,L<aA.length->MN [.view Al (aA.map Ah),I L]=some [I (C7 aA L)])
  (hV : AG (itA aA i) -> MV [.view Ag ((Aq aA i).aF.map Ay), .view AE ((Aq aA i).aD.map At), .view Al (aA.map Ah), I i, I (Aq aA i).frm, I (Aq aA i).start.x, I (Aq aA i).start.y, I (Aq aA i).start.z, B (Aq aA i).begun, I (Aq aA i).len, I (Aq aA i).speed, I (CU aA i)] =
   some [.view Ag ((Fc aA i (Aq aA i) (CU aA i)).1.1.map Ay), .view AE ((Aq aA i).aD.map At),B true,I (if(Aq aA i).begun=true then(Aq aA i).start else Ax (itA aA i).fr).x,I (if(Aq aA i).begun=true then(Aq aA i).start else Ax (itA aA i).fr).y,I (if(Aq aA i).begun=true then(Aq aA i).start else Ax (itA aA i).fr).z,B true,
    I (Fc aA i (Aq aA i) (CU aA i)).1.2.1,I (Aq aA i).speed,I (Fc aA i (Aq aA i) (CU aA i)).2])
  (hK : ∀ {aF : Rw} {st : Pt} {b : Bool} {len sp mid : Int}, MK [.view Ag aF, .view AE ((Aq aA i).aD.map At), .view Al (aA.map Ah), I i, I st.x, I st.y, I st.z, B b, I len, I sp, I mid] =
   some [.view Ag aF, .view AE (((Aq aA i).aD++[(⟨len,J8 aA i,i⟩:Mrk)]).map At),I st.x,I st.y,I st.z,B b,I len,I sp,I mid]):
  PD MK MV MN MS MM MC N6 (pbR aA i)=some (0,pbR aA (i+1)):=by
 have hr:=Fq hi;have hin:(0:Int)<=(i:Int)/\(i:Int)<(aA.length:Int):=by omega
 have hw:wrap .i64 ((i:Int)+1)=((i+1:Nat):Int):=by rw[Ae (by omega)];omega
 have hf:=Qw1 aA i;have hls:=Qyf aA i;have hfst:=Q3v aA i (Aq aA i) (CU aA i);have e1:Gh aA (i+1)=if AG (itA aA i)then(i:Int)else Gh aA i:=rfl;have e2:CU aA (i+1)=if AG (itA aA i)then(Fc aA i (Aq aA i) (CU aA i)).2 else CU aA i:=rfl;have e3:Aq aA (i+1)=Cw aA i (Aq aA i):=rfl;unfold pbR;rw[e1,e2,e3];generalize Aq aA i=s at*;generalize Gh aA i=last at*;generalize hmi:CU aA i=mid at*;unfold Cw;rw[Qu0];by_cases hm:AG (itA aA i)
 ·have h8: ¬(itA aA i).kind=8:=fun h=>by have:=hm.2;omega
  have hV:=hV hm;have hmk2:J8 aA i=Kw aA i:=if_pos hm;rw[if_pos hm,if_pos hm,if_pos hm];rw[hfst]at hV;have hM2:MM [I (itA aA i).kind]=some [B true]:=by rw[hM,decide_eq_true (show 1<=(itA aA i).kind/\(itA aA i).kind<=6 from hm)]
  simp only[go_sem,List.length_map,Int.toNat_natCast,hr,if_pos hin,hM2];rw[if_pos (by omega),if_neg h8];have hbef:∀{x:Option (Nat×List AC)} {frm:Int},s.frm=frm->(MV [.view Ag (s.aF.map Ay), .view AE (s.aD.map At), .view Al (aA.map Ah),I i,I frm,I s.start.x,I s.start.y,I s.start.z,B s.begun,I s.len,I s.speed,I mid])=
    some [.view Ag ((EA aA i s).1.map Ay), .view AE (s.aD.map At),B true,I (if s.begun=true then s.start else Ax (itA aA i).fr).x,I (if s.begun=true then s.start else Ax (itA aA i).fr).y,I (if s.begun=true then s.start else Ax (itA aA i).fr).z,B true,I (EA aA i s).2.1,I s.speed,I (Fc aA i s mid).2]:=by
   intro x frm h;rw[<-h];exact hV
  rcases hls with hls|⟨L,h1,h2,h3,h4⟩
  ·rw[hls];rw[hls,if_neg (by omega)]at hf;rw[if_neg (show¬(-1:Int)>=0 by omega)];have hv:=hbef (x:=none) hf;simp only[hv,go_sem,hK,hw,hmk2];simp
  ·rw[h1]at hf⊢;rw[Int.toNat_natCast]at hf;have hs:=hS L (by omega);have hn:=hN L (by omega);rw[if_pos (show(L:Int)>=0 by omega)];by_cases c:0<=BV aA L
   ·have hnx:=Zoi h2 hi hm h4 c;rw[if_pos ⟨by omega,c⟩]at hf;rw[hnx]at hn;rw[decide_eq_true c]at hs;have hv:=hbef (x:=none) hf;simp only[hs,hn,go_sem];simp only[hv,go_sem,hK,hw,hmk2];simp
   ·rw[if_neg (fun h=>c h.2)]at hf;rw[decide_eq_false c]at hs;have hv:=hbef (x:=none) hf;simp only[hs,go_sem];simp only[hv,go_sem,hK,hw,hmk2];simp
 ·have hmk2:J8 aA i=Pg (itA aA i):=if_neg hm;rw[if_neg hm,if_neg hm,if_neg hm];have hM2:MM [I (itA aA i).kind]=some [B false]:=by rw[hM,decide_eq_false (show¬(1<=(itA aA i).kind/\(itA aA i).kind<=6)from hm)]
  unfold OG;simp only[go_sem,List.length_map,Int.toNat_natCast,hr,if_pos hin,hM2,hK,hw,hmk2];rw[if_pos (by omega)];by_cases h8:(itA aA i).kind=8
  ·by_cases h3:(itA aA i).n=3
   ·simp[h8,h3]
   ·by_cases h4:(itA aA i).n=4
    ·simp[h8,h4]
    ·simp[h8,h3,h4]
  ·simp[h8]
end Go.Bm
namespace Go.Bm
open Classical
theorem Zz0 {it:Itm} {speed:Int} (hf:it.kind=1\/1<=it.feed/\it.feed<=60000000) (hs:0<=speed/\speed<=30000):JY (Ah it++[I speed])=some [I (F8 it speed)]:=by
 by_cases h1:it.kind=1
 ·unfold JY F8;generalize Bi=M;have h:=Q5j (AI:=M) it.kind it.block it.fr.x it.fr.y it.fr.z it.to.x it.to.y it.to.z it.aG it.ce.x it.ce.y it.ce.z it.dir it.full it.feed it.perRev it.side it.radius it.blend it.n it.speed it.on speed;rw[if_pos h1];refine Eq.trans h ?_;rw[Bu (by simp[h1])]
 ·exact Zwg (by omega) hs
theorem Zz8 {aF:List Sgm} {aD:Rw} {q g st at_:Pt} {gl item feed lead len sp mid:Int} (hat:E_ st aF=at_) (h1:bd 67108864 at_) (h2:bd 67108864 q) (hs:aF.length+1<=1048577) (hlen:0<=len/\len<=4000000000000000000):
  LV [.view Ag (aF.map Ay), .view AE aD,I q.x,I q.y,I q.z,I g.x,I g.y,I g.z,I gl,I item,I feed,I lead,I st.x,I st.y,I st.z,B true,I len,I sp,I mid]=
   some [.view Ag ((AW item feed lead (aF,len,at_) q).1.map Ay), .view AE aD,I st.x,I st.y,I st.z,B true,I (AW item feed lead (aF,len,at_) q).2.1,I sp,I mid]:=
 Zp8 hat (Qlj h1 h2) (HW h1 h2) hs hlen
theorem Zz6 {aA:List Itm} (hlen:aA.length<=15) (hright:∀j<aA.length,¬BF (itA aA j)) {i:Nat} (hi:i<aA.length):
  PD ID JS Fk GX DK IX Qo (pbR aA i)=some (0,pbR aA (i+1)):=by
 have hb:=Mr hright i (by omega);have hin:=Jr hright i (by omega);have hall:∀k<aA.length,AG (itA aA k)->drawn (itA aA k):=fun k hk hm=>(K_ (hright k hk) hm).1;have hrm:=K_ (hright i hi);refine Zvh hi hlen hb.aD OL (fun L hL=>Q5a (by omega) hL) (fun L hL=>ZY (by omega) hL) (fun hm=> ?_) (Zej (by omega) hi (by have:=hb.aD;omega));have hd:=(hrm hm).1;exact Zss hi hlen hd.1 hb hin (Ui hd hb.frm hall) (fun hs=>by have h2:=(hrm hm).2;rcases hs with h|h<;>omega) (Qr0 aA i) (SR _) (RJ hd.1.2.1 hd.1.2.2.1) (Qvy _) (Zz0 (hrm hm).2 hb.speed)
  (Zyl (by omega) hi hd hb.frm hall) (fun h1 h2 h3 h4 h5=>Zz8 h1 h2 h3 h4 h5) Z0c
theorem Qvn {aA:List Itm} (hlen:aA.length<=15) (hright:∀j<aA.length,¬BF (itA aA j)):∀(k i:Nat),i+k=aA.length->
  Am (PD ID JS Fk GX DK IX Qo) (pbR aA i)=
   some (2,[.view Ag ((AR aA).aF.map Ay), .view AE ((AR aA).aD.map At),I (AR aA).start.x,I (AR aA).start.y,I (AR aA).start.z,B (Aq aA aA.length).begun,I (Aq aA aA.length).len,I (Aq aA aA.length).speed,I (CU aA aA.length)])
 |0,i,hi=>by
  obtain rfl:i=aA.length:=by omega
  refine Bb ?_ (by simp);unfold pbR AR;rw[Qu0,AX (by omega)]
 |k+1,i,hi=>by
  rw[Bw (Zz6 hlen hright (by omega))];exact Qvn hlen hright k (i+1) (by omega)
def Jw (aA:List Itm) (o:List AC):Prop:=
 if Cu aA=0 then o=[.view Ag ((AR aA).aF.map Ay), .view AE ((AR aA).aD.map At),I 0,I (AR aA).start.x,I (AR aA).start.y,I (AR aA).start.z,B (Aq aA aA.length).begun,I (Aq aA aA.length).len,I (Aq aA aA.length).speed,I (CU aA aA.length)]
 else o=[.view Ag [], .view AE [],I (Cu aA),I 0,I 0,I 0,B false,I 0,I 0,I 0]
theorem Q7s {MK MV MN MS MM MC:Fn} {N6 N18:Lp} {aA:List Itm} (hlen:aA.length<=15)
  (h6 : (N6 [.view Ag [], .view AE [], .view Al (aA.map Ah), I (-1), .view Al (aA.map Ah), I aA.length, I 0, I 0, I 0, I 0, B false, I 0, I 0, I 0] = some (1, [.view Ag [], .view AE [], I (Cu aA), I 0, I 0, I 0, B false, I 0, I 0, I 0]) /\ Cu aA ≠ 0) \/
   (N6 [.view Ag [], .view AE [], .view Al (aA.map Ah),I (-1), .view Al (aA.map Ah),I aA.length,I 0,I 0,I 0,I 0,B false,I 0,I 0,I 0]=some (2,[.view Ag [], .view AE [], .view Al (aA.map Ah),I 0,I 0,I 0,B false,I 0,I 0,I 0])/\Cu aA=0))
  (h18 : Cu aA = 0 -> N18 [.view Ag [], .view AE [], .view Al (aA.map Ah), I (-1), .view Al (aA.map Ah), I aA.length, I 0, I 0, I 0, I 0, B false, I 0, I 0, I 0] =
   some (2,[.view Ag ((AR aA).aF.map Ay), .view AE ((AR aA).aD.map At),I (AR aA).start.x,I (AR aA).start.y,I (AR aA).start.z,B (Aq aA aA.length).begun,I (Aq aA aA.length).len,I (Aq aA aA.length).speed,I (CU aA aA.length)])):
  ∃o,Qb5 MK MV MN MS MM MC N6 N18 [.view Al (aA.map Ah)]=some o/\Jw aA o:=by
 rw[Zwb];have hin: ¬((aA.length:Int)>20000):=by omega
 rcases h6 with⟨h,hc⟩|⟨h,hc⟩
 ·simp only[go_sem,List.length_map,h,if_neg hin];exact⟨_,rfl,by unfold Jw;rw[if_neg hc]⟩
 ·have g:=h18 hc;simp only[go_sem,List.length_map,h,if_neg hin,g];rw[if_neg (by decide),if_neg (by decide)];exact⟨_,rfl,by unfold Jw;rw[if_pos hc]⟩
theorem Qw3 {aA:List Itm} (hlen:aA.length<=15):∃o,IG [.view Al (aA.map Ah)]=some o/\Jw aA o:=by
 have hc:Cu aA=ET aA aA.length 0 (-1):=by unfold Cu;rw[if_neg (by omega)]
 refine Q7s hlen ?_ fun he=>Qvn hlen (Ol he).2 aA.length 0 (by omega);rw[hc];exact We OL Zoj (by omega) aA.length 0 (-1) (by omega) (.inl rfl)
theorem Q9b {MB:Fn} {aA:List Itm} (h:∃o,MB [.view Al (aA.map Ah)]=some o/\Jw aA o):
  Qj1 MB [.view Al (aA.map Ah)]=if Cu aA=0 then some (Bp (AR aA)++[I 0])else some [I 0,I 0,I 0, .view Ag [], .view AE [],I (Cu aA)]:=by
 obtain⟨o,h1,h2⟩:=h;rw[Zys,h1];unfold Jw at h2;by_cases c:Cu aA=0
 ·rw[if_pos c]at h2⊢;subst h2;simp only[go_sem];rw[if_neg (by simp)];try rfl
 ·rw[if_neg c]at h2⊢;subst h2;simp only[go_sem];rw[if_pos c]
theorem Q7l {aA:List Itm} (hlen:aA.length<=15):L1 [.view Al (aA.map Ah)]=if Cu aA=0 then some (Bp (AR aA)++[I 0])else some [I 0,I 0,I 0, .view Ag [], .view AE [],I (Cu aA)]:=
 Q9b (Qw3 hlen)
end Go.Bm
namespace Go.Bm
open Classical
def Ki (aA:List Itm):Nat->Option Nat
 |0=>none
 |i+1=>if(itA aA i).kind=10 then Ki aA i else some i
noncomputable def IA (aA:List Itm):Int:=
 match Ki aA aA.length with
 |some i=>if smI (itA aA i)/\(itA aA i).blend≠0 then AF (AR aA).aF-AB (Bd (itA aA i)) (Ax (itA aA i).to)else AF (AR aA).aF
 |none=>AF (AR aA).aF
theorem Qcu {aA:List Itm} {i:Nat}:∀{n:Nat},Ki aA n=some i->i<n/\(itA aA i).kind≠10/\∀j,i<j->j<n->(itA aA j).kind=10
 |0,h=>by cases h
 |n+1,h=>by
  unfold Ki at h;split at h
  ·rename_i c;obtain⟨h1,h2,h3⟩:=Qcu h;refine⟨by omega,h2,fun j g1 g2=> ?_⟩;by_cases e:j=n
   ·rw[e];exact c
   ·exact h3 j g1 (by omega)
  ·rename_i c;cases h
   exact⟨by omega,c,fun j g1 g2=>by omega⟩
theorem Zxs {aA:List Itm} {i:Nat} (h:(itA aA i).kind=10):(Aq aA (i+1)).len=(Aq aA i).len/\CU aA (i+1)=CU aA i:=by
 have hm: ¬AG (itA aA i):=fun g=>by have:=g.2;omega
 constructor
 ·rw[Aq];unfold Cw;rw[if_neg hm]
 ·rw[CU,if_neg hm]
theorem Qyi {aA:List Itm} {i:Nat}:∀(k:Nat),(∀j,i<=j->j<i+k->(itA aA j).kind=10)->(Aq aA (i+k)).len=(Aq aA i).len/\CU aA (i+k)=CU aA i
 |0,_=>⟨rfl,rfl⟩
 |k+1,h=>by
  obtain⟨h1,h2⟩:=Qyi k fun j g1 g2=>h j g1 (by omega);obtain⟨h3,h4⟩:=Zxs (h (i+k) (by omega) (by omega));exact⟨h3.trans h1,h4.trans h2⟩
theorem Zot {aA:List Itm} (hright:∀j<aA.length,¬BF (itA aA j)):AF (AR aA).aF=(Aq aA aA.length).len:=by
 have h:=Jr hright aA.length (Nat.le_refl _);unfold AR;by_cases hb:(Aq aA aA.length).begun=true
 ·exact(h.begun hb).2.2.2
 ·obtain⟨g1,g2,-⟩:=h.empty (by simpa using hb);simp only[g1,g2];rfl
theorem Zzv {it:Itm} (h:it.fr≠it.to):Ax it.to≠Bd it:=by
 intro g;unfold Ax Bd at g;injection g with g1 g2 g3;exact h (Ei.2 ⟨by omega,by omega,by omega⟩)
theorem Zzf (it:Itm) (h:smI it) (item feed lead:Int) (s:(List Sgm×Int×Pt)×Int):
  (DL it item feed lead (DL it item feed lead s (Bd it)) (Ax it.to)).2=(DL it item feed lead (DL it item feed lead s (Bd it)) (Ax it.to)).1.2.1-AB (Bd it) (Ax it.to):=by
 have hne:=Zzv h.2;have h1:(DL it item feed lead s (Bd it)).2=(AW item feed lead s.1 (Bd it)).2.1:=if_pos ⟨h,rfl⟩;have h2:(AW item feed lead s.1 (Bd it)).2.2=Bd it:=by
  unfold AW;split
  ·rename_i c;exact c.symm
  ·rfl
 have h3:(DL it item feed lead s (Bd it)).1=AW item feed lead s.1 (Bd it):=rfl;generalize DL it item feed lead s (Bd it)=t at*;have h4:(DL it item feed lead t (Ax it.to)).2=t.2:=if_neg fun g=>hne g.2;have h5:(DL it item feed lead t (Ax it.to)).1=AW item feed lead t.1 (Ax it.to):=rfl;rw[h4,h5,h1,h3];rw[<-h2]at hne⊢;rw[h2];generalize AW item feed lead s.1 (Bd it)=u at*;have h6:AW item feed lead u (Ax it.to)=(u.1++[⟨Ax it.to,AB u.2.2 (Ax it.to),item,feed,lead⟩],u.2.1+AB u.2.2 (Ax it.to),Ax it.to):=if_neg hne;rw[h6,h2];simp only;omega
theorem Zgh {aA:List Itm} {i:Nat} (hn:Ki aA aA.length=some i) (hs:smI (itA aA i)):CU aA aA.length=(Aq aA aA.length).len-AB (Bd (itA aA i)) (Ax (itA aA i).to):=by
 obtain⟨h1,-,h3⟩:=Qcu hn;obtain⟨k,hk⟩:∃k,aA.length=i+1+k:=⟨aA.length-(i+1),by omega⟩;have hm:AG (itA aA i):=⟨by have:=hs.1;omega,by have:=hs.1;omega⟩;obtain⟨g1,g2⟩:=Qyi (aA:=aA) (i:=i+1) k fun j e1 e2=>h3 j (by omega) (by omega);have hsoft: ¬0<=BV aA i:=by
  intro c;have hx:=Q4 c;rcases YR aA i with h|⟨-,-,m,m1,m2,m3,m4,m5⟩
  ·omega
  ·have:=h3 m m2 m3;have:=m4.1;omega
 rw[hk,g1,g2];have e1:CU aA (i+1)=(Fc aA i (Aq aA i) (CU aA i)).2:=if_pos hm;have e2:(Aq aA (i+1)).len=(Fc aA i (Aq aA i) (CU aA i)).1.2.1:=by
  rw[Q3v,Aq];unfold Cw;rw[if_pos hm]
 rw[e1,e2];unfold Fc;have e3:Cg aA i (Aq aA i).frm=IZ aA i (Aq aA i).frm++[Bd (itA aA i)]++[Ax (itA aA i).to]:=by
  unfold Cg;rw[if_pos hs];unfold LF;rw[if_neg hsoft];unfold B0;rw[if_neg (by have:=hs.1;omega)];rfl
 rw[e3,List.foldl_append,List.foldl_append,List.foldl_cons,List.foldl_nil,List.foldl_cons,List.foldl_nil];exact Zzf _ hs _ _ _ _
theorem Qsb {MS MB:Fn} {aA:List Itm} {aF aD:Rw} {st:Pt} {b:Bool} {len sp mid:Int} (hl:aA.length<=1000) (hS:∀it,MS (Ah it)=some [B (decide (smI it))]):
  ∀n:Nat,n<=aA.length->∃o:Nat×List AC,Am (L7 MS MB) [.view Ag aF, .view AE aD, .view Al (aA.map Ah),I ((n:Int)-1),I st.x,I st.y,I st.z,B b,I len,I sp,I mid]=some o/\
   match Ki aA n with
   |some i=>o=(1,[I (if smI (itA aA i)/\(itA aA i).blend≠0 then mid else len)])
   |none=>o=(2,[.view Ag aF, .view AE aD,I st.x,I st.y,I st.z,B b,I len,I sp,I mid])
 |0,_=>by
  refine⟨_,Bb (o:=(2,_)) ?_ (by simp),rfl⟩;rw[Qsu,AX (by omega)]
 |n+1,hn=>by
  have hlt:n<aA.length:=by omega
  have hr:=Fq hlt;have hs:=hS (itA aA n);simp only[Ah]at hs;have hin:(0:Int)<=(n:Int)/\(n:Int)<(aA.length:Int):=by omega
  have e:((n+1:Nat):Int)-1=n:=by omega
  have hst:L7 MS MB [.view Ag aF, .view AE aD, .view Al (aA.map Ah),I n,I st.x,I st.y,I st.z,B b,I len,I sp,I mid]=
    if(itA aA n).kind=10 then some (0,[.view Ag aF, .view AE aD, .view Al (aA.map Ah),I ((n:Int)-1),I st.x,I st.y,I st.z,B b,I len,I sp,I mid])
    else some (1,[I (if smI (itA aA n)/\(itA aA n).blend≠0 then mid else len)]):=by
   rw[Qsu];simp only[go_sem,List.length_map,Int.toNat_natCast,hr,hs,if_pos hin];rw[if_pos (by omega),Ae (by omega)];by_cases c1:(itA aA n).kind=10
   ·rw[if_pos c1,if_pos c1]
   ·rw[if_neg c1,if_neg c1];by_cases c2:smI (itA aA n)
    ·rw[if_pos c2];by_cases c3:(itA aA n).blend≠0
     ·rw[if_pos c3,if_pos ⟨c2,c3⟩]
     ·rw[if_neg c3,if_neg (fun g=>c3 g.2)]
    ·rw[if_neg c2,if_neg (fun g=>c2 g.1)]
  rw[e];unfold Ki;by_cases c1:(itA aA n).kind=10
  ·rw[if_pos c1]at hst⊢;rw[Bw hst];exact Qsb hl hS n (by omega)
  ·rw[if_neg c1]at hst⊢;exact⟨_,Bb hst (by simp),rfl⟩
theorem Zoc {MS MB:Fn} {aA:List Itm} (hl:aA.length<=15) (hS:∀it,MS (Ah it)=some [B (decide (smI it))]) (h:∃o,MB [.view Al (aA.map Ah)]=some o/\Jw aA o):
  V9 MS MB (Am (L7 MS MB)) [.view Al (aA.map Ah)]=some [I (if Cu aA=0 then IA aA else 0)]:=by
 obtain⟨o,h1,h2⟩:=h;unfold Jw at h2;by_cases c:Cu aA=0
 ·rw[if_pos c]at h2⊢;have hright:=(Ol c).2;have hsum:=Zot hright;have hmid:=fun i hn hs=>Zgh (aA:=aA) (i:=i) hn hs;have hlp:= @Qsb MS MB aA ((AR aA).aF.map Ay) ((AR aA).aD.map At) (AR aA).start (Aq aA aA.length).begun (Aq aA aA.length).len (Aq aA aA.length).speed (CU aA aA.length) (by omega) hS aA.length (by omega);obtain⟨r,r1,r2⟩:=hlp;rw[Qyr,h1];subst h2;have hw:wrap .i64 ((aA.length:Int)-1)=(aA.length:Int)-1:=Ae (by omega);unfold IA;rw[hsum];generalize Am (L7 MS MB)=N at*;simp only[go_sem,List.length_map,hw,r1];rw[if_neg (by simp)];cases hn:Ki aA aA.length with
  |none=>
   rw[hn]at r2;simp only at r2;subst r2;rfl
  |some i=>
   rw[hn]at r2;simp only at r2;subst r2;simp only[go_sem];by_cases c2:smI (itA aA i)/\(itA aA i).blend≠0
   ·rw[if_pos c2,if_pos c2,hmid i hn c2.1]
   ·rw[if_neg c2,if_neg c2]
 ·rw[if_neg c]at h2⊢;subst h2;rw[Qyr,h1];simp only[go_sem];rw[if_pos c]
theorem Z0j {aA:List Itm} (hl:aA.length<=15):OA [.view Al (aA.map Ah)]=some [I (if Cu aA=0 then IA aA else 0)]:=Zoc hl SR (Qw3 hl)
end Go.Bm
