/- laid together -/
import Derived.Test.YtommijghjlikkaaGreatPrKi
import Derived.Test.YtommijghjlikkaaGreatMx2
import Derived.Test.YtommijghjlikkaaGreatPrAtF
set_option linter.unusedVariables false
set_option linter.unusedSimpArgs false
/- how far the machine may go in a cycle: threads; the pulses of a cycle -/
set_option maxRecDepth 100000
namespace Go.Bm

theorem Cp (a:AC) (l:List AC):nth .dead (a::l) 0=a:=rfl
theorem DP (a:AC) (l:List AC) (n:Nat):nth .dead (a::l) (n+1)=nth .dead l n:=rfl
theorem Dd (n:Int):Af (.int .i64 n)=n:=rfl
def Qk (m0 m1 m3 m4 K:Int) (o:List AC):Prop:=∃v s b z g e:Int,o=Ee m0 m1 m3 m4 v++[I s,I b,I z,I g,I e]/\(D0 v (IntKind.i64.wrap (v-m1))\/∃r:Int,v=IntKind.i64.wrap (m1+r)/\ -(K+65536)<=r/\r<=K+65536)
theorem Zdg {MN MB MR MS MM MF MD:Fn} {p:Pth} {x:Ax3} {t:Trk} {a b c:Int} {o0 o1:Int} {b0 b1 b2:Bool} {m0 m1 m2 m3 m4 m5 l lead g0 g1 g2 g3 z0 z1 K:Int}
  (hN:Out (Vm m0 m1 m3 m4 K) (MN (pxt p x t [I a,I b,I c,I o0,I o1,B false,B b1,B b2,I m0,I m1,I m2,I m3,I m4,I m5,I l])))
  (hB:Out (fun o=>∃r:Int,o=[I r]/\ -(K+65536)<=r/\r<=K+65536) (MB [I a,I b,I c,I m1,I m2]))
  (hR:∀a b c x3 x4 x5 x6 x7 x8,(MR [I a,I b,I c,I x3,I x4,I x5,I x6,I x7,I x8]).isSome=true)
  (hS:∀v:Int,Out (fun o=>bA o 0=true->D0 v (IntKind.i64.wrap (v-m1))) (MS (pxt p x t [I a,I b,I c,I (IntKind.i64.wrap (m0+v)),I v,I (IntKind.i64.wrap (v-m1)),I m0,I m3,I m4,I l])))
  (hM:∀m0 m1 m2 m3 m4 m5 v,MM [I m0,I m1,I m2,I m3,I m4,I m5,I v]=some (Ee m0 m1 m3 m4 v))
  (hF:∀v,i64 v->(MF [I lead,I v]).isSome=true) (hD:∀a b,∃v,MD [I a,I b]=some [I v]/\i64 v):
  Out (Qk m0 m1 m3 m4 K) (ZV MN MB MR MS MM MF MD (pxt p x t [I a,I b,I c,I o0,I o1,B b0,B b1,B b2,I m0,I m1,I m2,I m3,I m4,I m5,I l,I lead,I g0,I g1,I g2,I g3,I z0,I z1])):=by
 rw[Zpl]
 obtain⟨v1,e1,w1⟩:=hD z1 g2
 obtain⟨v2,e2,w2⟩:=hD z0 g2
 rw[e1,e2]
 simp only[Option.bind_some,gA,wA,bA,jA,Cp,DP,Dd]
 have next:∀s bb z g e:Int,Out (Qk m0 m1 m3 m4 K) ((MN (pxt p x t [I a,I b,I c,I o0,I o1,B false,B b1,B b2,I m0,I m1,I m2,I m3,I m4,I m5,I l])).bind fun o=>some [I (gA o 0),I (gA o 1),I (gA o 2),I (gA o 3),I (gA o 4),I (gA o 5),I s,I bb,I z,I g,I e]):=fun s bb z g e=>by
  refine .bind hN fun o h=> ?_
  obtain⟨v,rfl,h⟩:=h
  exact .some ⟨v,s,bb,z,g,e,rfl,h⟩
 refine .ibind (hF _ w1) fun f1 _=> .cond (fun _=> ?_) fun _=> .cond (fun _=> ?_) fun _=>next _ _ _ _ _
 ·refine .ibind (hF _ w2) fun f2 _=> ?_
  rw[hM]
  generalize IntKind.i64.wrap (Af (nth AC.dead f1 0)-Af (nth AC.dead f2 0))=v
  simp only[Option.bind_some,gA,wA,bA,jA,Cp,DP,Dd]
  refine .cond (fun _=> ?_) fun _=>next _ _ _ _ _
  refine .bind (hS v) fun o h=> .cond (fun c=> ?_) fun _=>next _ _ _ _ _
  exact .some ⟨v,_,_,_,_,_,rfl, .inl (h c)⟩
 ·rw[hM]
  generalize IntKind.i64.wrap (IntKind.i64.wrap (IntKind.i64.wrap (g1+Af (nth AC.dead f1 0))-g3)-m0)=v
  simp only[Option.bind_some,gA,wA,bA,jA,Cp,DP,Dd]
  have stop:∀s bb z g e:Int,Out (Qk m0 m1 m3 m4 K) ((MB [I a,I b,I c,I m1,I m2]).bind fun o=>(MM [I m0,I m1,I m2,I m3,I m4,I m5,I (IntKind.i64.wrap (m1+gA o 0))]).bind fun q=>some [I (gA q 0),I (gA q 1),I (gA q 2),I (gA q 3),I (gA q 4),I (gA q 5),I s,I bb,I z,I g,I e]):=fun s bb z g e=>by
   refine .bind hB fun o h=> ?_
   obtain⟨r,rfl,hr⟩:=h
   rw[hM]
   exact .some ⟨_,s,bb,z,g,e,rfl, .inr ⟨r,rfl,hr⟩⟩
  refine .cond (fun _=> ?_) fun _=> ?_
  ·refine .bind (hS v) fun o h=> .cond (fun c=> ?_) fun _=> ?_
   ·exact .some ⟨v,_,_,_,_,_,rfl, .inl (h c)⟩
   ·refine .ibind (hR _ _ _ _ _ _ _ _ _) fun _ _=> .cond (fun _=> .cond (fun _=>stop _ _ _ _ _) fun _=>stop _ _ _ _ _) fun _=>stop _ _ _ _ _
  ·refine .ibind (hR _ _ _ _ _ _ _ _ _) fun _ _=> .cond (fun _=> .cond (fun _=>stop _ _ _ _ _) fun _=>stop _ _ _ _ _) fun _=>stop _ _ _ _ _
theorem Zzg {p:Pth} {x:Ax3} {t:Trk} (h:Fix p x t) {a b c:Int} (hp:Plan3 a b c) {lead:Int} (hl:i64 lead) (o0 o1:Int) (b0 b1 b2:Bool) {m0 m1 m2 m3 m4 m5 l g0 g1 g2 g3 z0 z1 K:Int} (hm: -K<=m2/\m2<=K) (hK:0<=K/\K<=1000000000):
  Out (Qk m0 m1 m3 m4 K) (JH (pxt p x t [I a,I b,I c,I o0,I o1,B b0,B b1,B b2,I m0,I m1,I m2,I m3,I m4,I m5,I l,I lead,I g0,I g1,I g2,I g3,I z0,I z1])):=
 Zdg (Qy7 h hp o0 o1 false b1 b2 hm hK) (Q29 hp hm hK) Zdj (fun v=>Q46 h hp (L4 _)) Q1b (fun _ hv=>Zwr hl hv) Zwe

theorem Zqw {M:Fn} {p:Pth} {x:Ax3} {t:Trk} (hM:∀u,(M (pxt p x t [I u])).isSome=true) (ht:0<=t.length/\t.length<=900000000000000) (u1 u2:Int) (hd:u2-u1<=1000000000000):
  (Ri M (An (Nv M)) (pxt p x t [I u1,I u2])).isSome=true:=by
 rw[Quv]
 have h1:0<=mx 0 (mn u1 t.length)/\mx 0 (mn u1 t.length)<=t.length/\mx 0 (mn u2 t.length)-mx 0 (mn u1 t.length)<=1000000000000/\mx 0 (mn u2 t.length)<=t.length:=by
  unfold mx mn
  (repeat' split)<;>omega
 obtain⟨k1,k2,k3,k4⟩:=h1
 generalize mx 0 (mn u1 t.length)=f at*
 generalize mx 0 (mn u2 t.length)=e at*
 refine EO (hM _) fun o _=> ?_
 refine Out.is (p:=fun _=>True) ?_
 refine .bind (p:=fun o=>o.1=1) ?_ fun o g=>by rw[g];exact .some trivial
 show Out _ (An _ (.view kPt []::I e::I f::pxt p x t [I (gA o 0),I (gA o 1),I (gA o 2)]))
 generalize gA o 0=w0
 generalize gA o 1=w1
 generalize gA o 2=w2
 refine CI (fun s:Rw×Int×Int×Int×Int=> .view kPt s.1::I e::I s.2.1::pxt p x t [I s.2.2.1,I s.2.2.2.1,I s.2.2.2.2]) (fun s=>f<=s.2.1/\s.2.1<=t.length/\(s.1.length:Int)<=3*(s.2.1-f)) (fun s=>(e-s.2.1).toNat) _ ?_ ([],f,w0,w1,w2) (by simp;omega)
 rintro⟨v,u,a0,a1,a2⟩ ⟨q1,q2,q3⟩
 dsimp only at*
 rw[Q2f]
 try dsimp only[Mr]
 rw[Ae (x:=u+1) (by omega)]
 refine .cond (fun c=> ?_) (fun _=> .some (.inr ⟨by simp,rfl⟩))
 have c:=BA c
 refine .ibind (hM _) fun o _=> ?_
 repeat' first
  |(refine .cond (fun _=> ?_) fun c=>by rw[CB (by simp;omega)]at c;cases c)
  |refine .cond (fun _=> ?_) (fun _=> ?_)
 all_goals refine Out.some (Or.inl ⟨rfl,(_,u+1,_,_,_),rfl,by simp;omega,by show(e-(u+1)).toNat<(e-u).toNat;omega⟩)
theorem Q77 {p:Pth} {x:Ax3} {t:Trk} (h:Fix p x t) (u1 u2:Int) (hd:u2-u1<=1000000000000):(Jo (pxt p x t [I u1,I u2])).isSome=true:=
 Zqw (fun u=>by rw[R8 h u];rfl) h.t.q.len u1 u2 hd
end Go.Bm
/- the controller's state -/
set_option maxRecDepth 100000
namespace Go.Bm

structure KOK (K : Kf) : Prop where
 f:Fix K.p K.x K.t
 plan:Plan3 K.pa K.pb K.pc
 segs:∀g∈K.p.segs,0<=g.item/\g.item<K.items.length/\i64 g.lead
 marks:∀m∈K.p.marks,0<=m.item/\m.item<K.items.length/\i64 m.at_
 count:K.p.marks.length<=1000000
 speed:∀it∈K.items,it.kind=8->i64 it.speed
 len:i64 K.len
 set:i64 K.set

theorem Sa (K:Kf) (c:Cv):C7 (Ad K c)=some [I (IntKind.i64.wrap (c.m0.tdiv 256))]:=by
 show Qmh (Ad K c)=_
 rw[Q6p]
abbrev AT (c:Cv):Int:=IntKind.i64.wrap (c.m0.tdiv 256)
theorem Q9p {MP MU:Fn} {K:Kf} {c:Cv} {s:Int} (hU:MU (Ad K c)=some [I (AT c)]) (hP:MP (Bh K.t++[I (AT c)])=some [I s]):Qkk MP MU (Ad K c)=some [I s]:=by
 rw[Zdl,hU]
 simp only[Option.bind_some,gA,wA,bA,jA,Cp,Dd]
 rw[hP]
 rfl
abbrev AY (K:Kf) (c:Cv):Int:=Bn K.t (AT c)
theorem Rz {K:Kf} (h:KOK K) (c:Cv):CO (Ad K c)=some [I (AY K c)]:=Q9p (Sa K c) (QX h.f.t.q (AT c))
theorem Za3 (K:Kf) (c:Cv):NS (Ad K c)=some (I 3::Ad K {c with next:=IntKind.i64.wrap (c.idx+1),on:=false,idx:=0,waits:=false,cnt:=0}):=by
 show Qcq (Ad K c)=_
 rw[Zkv]
theorem Zjk (K:Kf) (c:Cv):FW (Ad K c)=some (Ad K (if c.g0=0 then{c with o2:=true,g0:=1,g1:=18,g2:= -1}else c)):=by
 show Qhn (Ad K c)=_
 rw[Zf6]
 cases h:(c.g0==0)
 ·rw[if_neg (by simpa using h)];rfl
 ·rw[if_pos (by simpa using h)];rfl
end Go.Bm
/- the controller's tasks and limits always answer -/
set_option maxRecDepth 100000
namespace Go.Bm

theorem Qwq (K:Kf) {i:Nat} (h:i<K.items.length):nth [] (K.items.map Ag) i=Ag K.items[i]:=by
 rw[BJ,List.getD,List.getElem?_map,List.getElem?_eq_getElem h];rfl
theorem Q9z (K:Kf) {i:Nat} (h:i<K.p.marks.length):nth [] (K.p.marks.map As) i=As K.p.marks[i]:=by
 rw[BJ,List.getD,List.getElem?_map,List.getElem?_eq_getElem h];rfl
theorem Zzi {K:Kf} (h:KOK K) (i:Nat) (hk:gA (nth [] (K.items.map Ag) i) 0=8):i64 (gA (nth [] (K.items.map Ag) i) 20):=by
 by_cases c:i<K.items.length
 ·rw[Qwq K c]at hk⊢;exact h.speed _ (List.getElem_mem c) hk
 ·have e:nth [] (K.items.map Ag) i=[]:=by
   rw[BJ,List.getD,List.getElem?_eq_none (by rw[List.length_map];omega)];rfl
  rw[e]
  show i64 0
  unfold i64;omega
theorem inB {i:Int} {n:Nat} (h0:0<=i) (h1:i<(n:Int)):(decide (0<=i)&&decide (i<(n:Int)))=false->False:=by
 intro h
 rcases Bool.and_eq_false_iff.1 h with c|c
 ·exact BD c h0
 ·exact BD c h1
structure Gd (K : Kf) (n : Int) (c : Cv) : Prop where
 way:c.way=0
 pass:0<=c.passed/\c.passed<=K.p.marks.length
 task:c.on=true->0<=c.idx/\c.idx<K.p.marks.length
 m2: -(65536*n+65536)<=c.m2/\c.m2<=65536*n+65536
 m1: -(16777216+10000000*n)<=c.m1/\c.m1<=16777216+10000000*n
 m0: -(2000000000*n)<=c.m0/\c.m0<=2000000000*n
theorem Gd.up {K:Kf} {n:Int} {c:Cv} (h:Gd K n c) (hn:0<=n):Gd K (n+1) c:=
 ⟨h.way,h.pass,h.task,by have:=h.m2;omega,by have:=h.m1;omega,by have:=h.m0;omega⟩
def MG (K:Kf) (n:Int) (o:List AC):Prop:=∃(mode:Int) (c:Cv),o=I mode::Ad K c/\Gd K n c
end Go.Bm
/- how the controller moves: limit, plan, start, tap, thread, move, run -/
set_option maxRecDepth 100000
namespace Go.Bm

theorem Gd.move {K:Kf} {n:Int} {c:Cv} (g:Gd K n c) (hn:0<=n/\n<=140) {v:Int} (hv:D0 v (IntKind.i64.wrap (v-c.m1))\/∃r:Int,v=IntKind.i64.wrap (c.m1+r)/\ -(65536*n+65536+65536)<=r/\r<=65536*n+65536+65536):
  Gd K (n+1) {c with m0:=IntKind.i64.wrap (c.m0+v),m1:=v,m2:=IntKind.i64.wrap (v-c.m1),m3:=c.m0,m4:=c.m3,m5:=c.m4}:=by
 have h1:=g.m1;have h2:=g.m2;have h0:=g.m0
 have hv1: -(16777216+10000000*(n+1))<=v/\v<=16777216+10000000*(n+1):=by
  rcases hv with⟨k1,k2,-⟩|⟨r,k1,k2,k3⟩
  ·omega
  ·rw[Ae (by omega)]at k1;omega
 have hv2: -(65536*(n+1)+65536)<=IntKind.i64.wrap (v-c.m1)/\IntKind.i64.wrap (v-c.m1)<=65536*(n+1)+65536:=by
  rcases hv with⟨k1,k2,k3,k4⟩|⟨r,k1,k2,k3⟩
  ·omega
  ·rw[Ae (by omega)]at k1;rw[Ae (by omega)];omega
 refine⟨g.way,g.pass,g.task,hv2,hv1,?_⟩
 show-(2000000000*(n+1))<=IntKind.i64.wrap (c.m0+v)/\IntKind.i64.wrap (c.m0+v)<=2000000000*(n+1)
 rw[Ae (by omega)];omega
end Go.Bm
/- the rules, the calm events and what a cycle emits -/
set_option maxRecDepth 100000
namespace Go.Bm

theorem Gd.same {K:Kf} {n:Int} {c c':Cv} (g:Gd K n c) (h1:c'.way=c.way) (h2:c'.passed=c.passed) (h3:c'.on=c.on) (h4:c'.idx=c.idx) (h5:c'.m0=c.m0) (h6:c'.m1=c.m1) (h7:c'.m2=c.m2):Gd K n c':=
 ⟨h1▸g.way,h2▸g.pass,by rw[h3,h4];exact g.task,h7▸g.m2,h6▸g.m1,h5▸g.m0⟩
theorem Zm9 {K:Kf} {c:Cv} (h:c.way=0):KS (Ad K c)=some (I 0::B false::Ad K c):=by
 have key:∀{A B':Fn},Qd8 A B' (Ad K c)=some (I 0::B false::Ad K c):=by
  intro A B'
  rw[Q9b,Bz (by simp[h])]
 exact key
abbrev stand (c:Cv):Cv:={c with m0:=IntKind.i64.wrap (AT c*256),m1:=0,m2:=0,m3:=IntKind.i64.wrap (AT c*256),m4:=IntKind.i64.wrap (AT c*256),m5:=IntKind.i64.wrap (AT c*256)}
theorem Qx0 (u:Int):GD [I u]=some [I (IntKind.i64.wrap (u*256)),I 0,I 0,I (IntKind.i64.wrap (u*256)),I (IntKind.i64.wrap (u*256)),I (IntKind.i64.wrap (u*256))]:=by
 show Z4 [I u]=_
 rw[Q9f]
theorem Zqa {MS MU:Fn} {K:Kf} {c:Cv} (hU:MU (Ad K c)=some [I (AT c)]) (hS:∀u:Int,MS [I u]=some [I (IntKind.i64.wrap (u*256)),I 0,I 0,I (IntKind.i64.wrap (u*256)),I (IntKind.i64.wrap (u*256)),I (IntKind.i64.wrap (u*256))]):
  Yj MS MU (Ad K c)=some (if c.g0=2 then I 6::B true::Ad K (stand c)else I 0::B false::Ad K c):=by
 rw[Q91]
 by_cases h:c.g0=2
 ·rw[if_pos h,Bl (by simp[h]),hU]
  simp only[Option.bind_some,gA,wA,bA,jA,Cp,Dd]
  rw[hS]
  rfl
 ·rw[if_neg h,Bz (by simpa using h)]
theorem Zho (K:Kf) (c:Cv):Ly (Ad K c)=some (if c.g0=2 then I 6::B true::Ad K (stand c)else I 0::B false::Ad K c):=Zqa (Sa K c) Qx0
theorem Zhk (K:Kf) (c:Cv):La (Ad K c)=some (I c.ended::B (c.ended !=0)::Ad K c):=by
 show W9 (Ad K c)=_
 rw[Zr7]
theorem Zgz (K:Kf) (c:Cv):Kh (Ad K c)=some (if c.touched=true/\c.stood=true then I 8::B true::Ad K {c with ended:=8}else I 0::B false::Ad K c):=by
 show Qi3 (Ad K c)=_
 rw[Zpm]
 by_cases h:c.touched=true
 ·by_cases h2:c.stood=true
  ·rw[if_pos ⟨h,h2⟩,Bl (by simp[h]),Bl (by simp[h2]),h,h2]
  ·rw[if_neg (fun e=>h2 e.2),Bl (by simp[h]),Bz (by simpa using h2)]
 ·rw[if_neg (fun e=>h e.1),Bz (by simpa using h)]
theorem Qze {a N:Int} (h: -N<=a/\a<=N): -N<=a.tdiv 256*256/\a.tdiv 256*256<=N:=by
 by_cases k:0<=a
 ·rw[Int.tdiv_eq_ediv_of_nonneg k];omega
 ·obtain⟨b,rfl⟩:∃b,a= -b:=⟨-a,by omega⟩
  rw[Int.neg_tdiv,Int.tdiv_eq_ediv_of_nonneg (by omega)];omega
theorem Gd.stand {K:Kf} {n:Int} {c:Cv} (g:Gd K n c) (hn:0<=n/\n<=140):Gd K n (stand c)/\AT (stand c)=AT c:=by
 have h:=Qze g.m0
 have e:AT c=c.m0.tdiv 256:=Ae (by omega)
 have e2:(Go.Bm.stand c).m0=c.m0.tdiv 256*256:=by
  show IntKind.i64.wrap (AT c*256)=_
  rw[e,Ae (by omega)]
 refine⟨⟨g.way,g.pass,g.task,?_,?_,?_⟩,?_⟩
 ·show-(65536*n+65536)<=0/\0<=65536*n+65536;omega
 ·show-(16777216+10000000*n)<=0/\0<=16777216+10000000*n;omega
 ·rw[e2];omega
 ·show IntKind.i64.wrap ((Go.Bm.stand c).m0.tdiv 256)=_
  rw[e2,Int.mul_tdiv_cancel _ (by omega),e,Ae (by omega)]
end Go.Bm
/- a cycle of the controller -/
set_option maxRecDepth 100000
namespace Go.Bm

theorem Zf5 {M:Fn} {p:Pth} {x:Ax3} {t:Trk} (hM:∀u,(M (pxt p x t [I u])).isSome=true) (u:Int):
  Out (fun o=>wA o 0=[]) (Ri M (An (Nv M)) (pxt p x t [I u,I u])):=by
 rw[Quv]
 generalize mx 0 (mn u t.length)=e
 refine .ibind (hM _) fun o _=> ?_
 have key:∀w0 w1 w2:Int,∃l,An (Nv M) (.view kPt []::I e::I e::pxt p x t [I w0,I w1,I w2])=some (1,l)/\nth .dead l 0= .view kPt []:=fun w0 w1 w2=>by
  have hs:Nv M (.view kPt []::I e::I e::pxt p x t [I w0,I w1,I w2])=some (1,[.view kPt []]):=by
   rw[Q2f,Bl (by simp)]
  exact⟨_,A7 hs (by simp),rfl⟩
 obtain⟨l,h1,h2⟩:=key (gA o 0) (gA o 1) (gA o 2)
 refine .bind (p:=fun o=>o=(1,l)) ⟨_,h1,rfl⟩ fun o g=> ?_
 rw[g]
 refine .some ?_
 show wA l 0=[]
 simp only[wA,h2];rfl
theorem Ztq {p:Pth} {x:Ax3} {t:Trk} (h:Fix p x t) (u:Int):Out (fun o=>wA o 0=[]) (Jo (pxt p x t [I u,I u])):=
 Zf5 (fun u=>by rw[R8 h u];rfl) u
theorem Out.eqv {α:Type} {p:α->Prop} {a b:Option α} (h:a=b) (g:Out p b):Out p a:=h▸g
abbrev E0 (pul outs:Rw) (mode s:Int) (m:Pt) (sp fault:Int):List AC:=[.view kPt pul, .view Aa outs,I mode,I s,I m.x,I m.y,I m.z,I sp,I fault]
theorem Qvg {K:Kf} {n:Int} {c:Cv} (g:Gd K n c) (hn:0<=n/\n<=150): -300000000000<=AT c/\AT c<=300000000000:=by
 have h:=g.m0
 have h1: -300000000000<=c.m0/\c.m0<=300000000000:=by omega
 have h2:=Qze h1
 have e:AT c=c.m0.tdiv 256:=Ae (by omega)
 omega
end Go.Bm
/- a cycle of the controller: the events, the rules, the tick -/
set_option maxRecDepth 100000
namespace Go.Bm

abbrev Zk0 (E:Rw) (i:Nat):Int:=gA (nth [] E i) 1
def Pow (c:Cv) (E:Rw) (i:Nat):Prop:=c.g0=2/\c.g1=22\/∃j,j<i/\Zk0 E j=10
structure Ev (K : Kf) (n : Int) (c : Cv) (E : Rw) (i : Nat) (d : Cv) : Prop where
 g:Gd K n d
 m0:d.m0=c.m0
 pow:Pow c E i->d.g0=2/\d.g1=22
abbrev Ec:List AC:=[.view kPt [], .view Aa [],I 0,I 0,I 0,I 0,I 0,I 0,I 0]
end Go.Bm
/- a cycle of the controller: Step -/
set_option maxRecDepth 100000
namespace Go.Bm

end Go.Bm
/- what the maker makes can be drawn -/
set_option maxRecDepth 100000
namespace Go.Bm

theorem Zdt (r k:Int):(AL r k=r/\AN r k=0)\/(AL r k=0/\AN r k=r)\/(AL r k= -r/\AN r k=0)\/(AL r k=0/\AN r k= -r):=by
 have hc:k%4=0\/k%4=1\/k%4=2\/k%4=3:=by omega
 unfold AL AN
 rcases hc with h|h|h|h<;>simp[h]
theorem Q0h (r k:Int):sq2 (AL r k) (AN r k)=r*r:=by
 unfold sq2
 rcases Zdt r k with⟨h1,h2⟩|⟨h1,h2⟩|⟨h1,h2⟩|⟨h1,h2⟩<;>rw[h1,h2]<;>grind
theorem Zh1 {p q k t:Int} (ht:t=1\/t=2\/t=3) (hp:0<p) (hq:0<q):crs (AL p k) (AN p k) (AL q (k+t)) (AN q (k+t))≠0\/dt2 (AL p k) (AN p k) (AL q (k+t)) (AN q (k+t))<0:=by
 have hc:k%4=0\/k%4=1\/k%4=2\/k%4=3:=by omega
 have hpq:0<p*q:=Int.mul_pos hp hq
 have hm: -p*q= -(p*q)/\p* -q= -(p*q)/\ -p* -q=p*q:=⟨Int.neg_mul ..,Int.mul_neg ..,Int.neg_mul_neg ..⟩
 have e:∀j:Int,(k+t)%4=j->∀i:Int,k%4=i->crs (AL p k) (AN p k) (AL q (k+t)) (AN q (k+t))=(if i=0 then p else if i=2 then-p else 0)*(if j=1 then q else if j=3 then-q else 0)-(if i=1 then p else if i=3 then-p else 0)*(if j=0 then q else if j=2 then-q else 0)/\
   dt2 (AL p k) (AN p k) (AL q (k+t)) (AN q (k+t))=(if i=0 then p else if i=2 then-p else 0)*(if j=0 then q else if j=2 then-q else 0)+(if i=1 then p else if i=3 then-p else 0)*(if j=1 then q else if j=3 then-q else 0):=by
  intro j hj i hi
  subst hj hi
  exact⟨rfl,rfl⟩
 rcases ht with rfl|rfl|rfl<;>rcases hc with h1|h1|h1|h1
 ·obtain⟨e1,e2⟩:=e 1 (by omega) _ h1
  simp at e1 e2;omega
 ·obtain⟨e1,e2⟩:=e 2 (by omega) _ h1
  simp at e1 e2;omega
 ·obtain⟨e1,e2⟩:=e 3 (by omega) _ h1
  simp at e1 e2;omega
 ·obtain⟨e1,e2⟩:=e 0 (by omega) _ h1
  simp at e1 e2;omega
 ·obtain⟨e1,e2⟩:=e 2 (by omega) _ h1
  simp at e1 e2;omega
 ·obtain⟨e1,e2⟩:=e 3 (by omega) _ h1
  simp at e1 e2;omega
 ·obtain⟨e1,e2⟩:=e 0 (by omega) _ h1
  simp at e1 e2;omega
 ·obtain⟨e1,e2⟩:=e 1 (by omega) _ h1
  simp at e1 e2;omega
 ·obtain⟨e1,e2⟩:=e 3 (by omega) _ h1
  simp at e1 e2;omega
 ·obtain⟨e1,e2⟩:=e 0 (by omega) _ h1
  simp at e1 e2;omega
 ·obtain⟨e1,e2⟩:=e 1 (by omega) _ h1
  simp at e1 e2;omega
 ·obtain⟨e1,e2⟩:=e 2 (by omega) _ h1
  simp at e1 e2;omega
theorem Q7t {size:Int} {it:Itm} (h:ArcMade size it):Vc it:=by
 obtain⟨r,k,t,g,x,h1,h2,h3,h4,h5,h6,h7,h8,h9,h10,h11,h12,h13⟩:=h.ends
 have hp:=h.plane
 have a1:dU it it.fr=AL r k:=by unfold dU;rw[h12,(M0 hp).1];omega
 have a2:dW it it.fr=AN r k:=by unfold dW;rw[h12,(M0 hp).2.1];omega
 have a3:dU it it.to=AL (r+g) (k+t):=by unfold dU;rw[h12,h13,(M0 hp).1,(M0 hp).1];omega
 have a4:dW it it.to=AN (r+g) (k+t):=by unfold dW;rw[h12,h13,(M0 hp).2.1,(M0 hp).2.1];omega
 have q1:qA it=r*r:=by unfold qA;rw[a1,a2,Q0h]
 have q2:qB it=(r+g)*(r+g):=by unfold qB;rw[a3,a4,Q0h]
 have m1:64<=r*r:=by
  have:=Int.mul_le_mul h1 h1 (by omega) (by omega)
  omega
 have m2:64<=(r+g)*(r+g):=by
  have:=Int.mul_le_mul (show(8:Int)<=r+g by omega) (show(8:Int)<=r+g by omega) (by omega) (by omega)
  omega
 unfold Vc
 refine⟨by omega,by omega,?_,?_,?_⟩
 ·rw[q1,q2]
  unfold Hz
  right
  have hg:g*g<=16:=by
   have:=Int.mul_le_mul h8 h8 h7 (by omega)
   omega
  have e1:r*r+(r+g)*(r+g)-16=2*(r*(r+g))+(g*g-16):=by grind
  have hpos:0<=r*(r+g):=Int.mul_nonneg (by omega) (by omega)
  have hge:64<=r*(r+g):=by
   have:=Int.mul_le_mul h1 (show(8:Int)<=r+g by omega) (by omega) (by omega)
   omega
  have hgg:0<=g*g:=Int.mul_nonneg h7 h7
  have e2:4*(r*r)*((r+g)*(r+g))=(2*(r*(r+g)))*(2*(r*(r+g))):=by grind
  rw[e1,e2]
  generalize 2*(r*(r+g))=m at*
  exact Int.mul_self_le_mul_self (by omega) (by omega)
 ·intro hf
  rw[h11]at hf
  have ht:=of_decide_eq_true hf
  rw[a1,a2,a3,a4,ht,h10 ht,Int.add_zero,Int.add_zero]
  exact⟨rfl,rfl⟩
 ·intro hf
  rw[h11]at hf
  have ht:=of_decide_eq_false hf
  unfold cAB dAB
  rw[a1,a2,a3,a4]
  exact Zh1 (by omega) (by omega) (by omega)
theorem Q88 {it:Itm} (h:Made it) (h1:bd 1000000 it.fr) (h2:bd 1000000 it.to):C_ it:=by
 refine⟨h.kind,AU h1 (by omega),AU h2 (by omega),fun h3=> ?_⟩
 have ha:=h.arc h3
 exact⟨ha.plane,ha.dir,AU (Qjc ha (by omega) h1).2 (by omega),Q7t ha⟩

end Go.Bm
/- the maker's lists of items of all kinds -/
set_option maxRecDepth 100000
namespace Go.Bm
open Classical

structure Oth (it : Itm) : Prop where
 kind:7<=it.kind/\it.kind<=14
 spin:it.kind=8->3<=it.n/\it.n<=5/\0<=it.speed/\it.speed<=4000
 dwell:it.kind=7->0<=it.n/\it.n<=4
 out:it.kind=10->0<=it.n/\it.n<=15
def Im:Pt->List Itm->Prop
 |_,[]=>True
 |p,it::l=>if AD it then it.fr=p/\Im it.to l else Im p l
def Eb:Pt->List Itm->Pt
 |p,[]=>p
 |p,it::l=>if AD it then Eb it.to l else Eb p l
theorem Vt {it:Itm}:∀{l:List Itm} {p:Pt},Im p l->(AD it->it.fr=Eb p l)->Im p (l++[it])
 |[],p,_,h=>by
  simp only[List.nil_append,Im]
  split
  ·rename_i c;exact⟨h c,trivial⟩
  ·trivial
 |a::l,p,h1,h=>by
  simp only[List.cons_append,Im]at h1⊢
  unfold Eb at h
  by_cases c:AD a
  ·rw[if_pos c]at h1 h⊢
   exact⟨h1.1,Vt h1.2 h⟩
  ·rw[if_neg c]at h1 h⊢
   exact Vt h1 h
theorem Io {it:Itm}:∀{l:List Itm} {p:Pt},Eb p (l++[it])=if AD it then it.to else Eb p l
 |[],p=>by simp only[List.nil_append,Eb]
 |a::l,p=>by
  simp only[List.cons_append,Eb]
  by_cases c:AD a
  ·rw[if_pos c,if_pos c];exact Io
  ·rw[if_neg c,if_neg c];exact Io
structure Items (A : Nat) (p : Pt) (l : List Itm) : Prop where
 link:Im p l
 made:∀it∈l,(AD it/\Made it/\E9 it/\bd A it.fr/\bd A it.to)\/Oth it
theorem Nc {A:Nat} {p:Pt} {l:List Itm} {it:Itm} (h:Items A p l) (h1:AD it->it.fr=Eb p l) (h2:(AD it/\Made it/\E9 it/\bd A it.fr/\bd A it.to)\/Oth it):Items A p (l++[it]):=by
 refine⟨Vt h.link h1,fun i hi=> ?_⟩
 simp only[List.mem_append,List.mem_singleton]at hi
 rcases hi with hi|rfl
 ·exact h.made i hi
 ·exact h2
theorem O4 {it:Itm} (h:Oth it): ¬AD it:=fun g=>by have:=h.kind;have:=g.2;omega

theorem Zfx {MN:Fn} {l:Rw} (hN:Gz l MN) (k:Nat):
  ∃(it:Itm) (k':Nat),Z2 MN [.view Aa l,I k]=some (Ag it++[.view Aa l,I k'])/\k<=k'/\Oth it:=by
 rw[Ze5]
 obtain⟨v0,k0,e0,a0,b0,c0,-,-⟩:=hN k (n:=8) (by omega)
 obtain⟨v1,k1,e1,a1,b1,c1,-,-⟩:=hN k0 (n:=16) (by omega)
 obtain⟨v2,k2,e2,a2,b2,c2,-,-⟩:=hN k1 (n:=2) (by omega)
 obtain⟨v3,k3,e3,a3,b3,c3,-,-⟩:=hN k0 (n:=5) (by omega)
 obtain⟨v4,k4,e4,a4,b4,c4,-,-⟩:=hN k0 (n:=3) (by omega)
 obtain⟨v5,k5,e5,a5,b5,c5,-,-⟩:=hN k4 (n:=4000) (by omega)
 simp only[go_sem,e0,e1,e2,e3,e4,e5]
 rw[Ae (x:=3+v4) (by omega)]
 have fin:∀(kd n sp:Int) (on:Bool) (k':Nat),k<=k'->Oth ⟨kd,0,⟨0,0,0⟩,⟨0,0,0⟩,0,⟨0,0,0⟩,0,false,0,false,0,0,0,n,sp,on⟩->
   ∃(it:Itm) (k'':Nat),some [I kd,I 0,I 0,I 0,I 0,I 0,I 0,I 0,I 0,I 0,I 0,I 0,I 0,B false,I 0,B false,I 0,I 0,I 0,I n,I sp,B on, .view Aa l,I k']=some (Ag it++[.view Aa l,I k''])/\k<=k''/\Oth it:=by
  intro kd n sp on k' h1 h2
  exact⟨_,k',rfl,h1,h2⟩
 by_cases c0:v0=0
 ·rw[if_pos c0];exact fin _ _ _ _ _ (by omega) ⟨by simp only;omega,by simp,by simp,fun _=>by simp only;omega⟩
 rw[if_neg c0]
 by_cases c1:v0=1
 ·rw[if_pos c1];exact fin _ _ _ _ _ (by omega) ⟨by simp only;omega,by simp,by simp,fun _=>by simp only;omega⟩
 rw[if_neg c1]
 by_cases c2:v0=2
 ·rw[if_pos c2];exact fin _ _ _ _ _ (by omega) ⟨by simp only;omega,by simp,fun _=>by simp only;omega,by simp⟩
 rw[if_neg c2]
 by_cases c3:v0=3
 ·rw[if_pos c3];exact fin _ _ _ _ _ (by omega) ⟨by simp only;omega,fun _=>by simp only;omega,by simp,by simp⟩
 rw[if_neg c3]
 by_cases c4:v0=4
 ·rw[if_pos c4];exact fin _ _ _ _ _ (by omega) ⟨by simp only;omega,by simp,by simp,by simp⟩
 rw[if_neg c4]
 by_cases c5:v0=5
 ·rw[if_pos c5];exact fin _ _ _ _ _ (by omega) ⟨by simp only;omega,by simp,by simp,by simp⟩
 rw[if_neg c5]
 by_cases c6:v0=6
 ·rw[if_pos c6];exact fin _ _ _ _ _ (by omega) ⟨by simp only;omega,by simp,by simp,by simp⟩
 rw[if_neg c6]
 exact fin _ _ _ _ _ (by omega) ⟨by simp only;omega,by simp,by simp,by simp⟩
theorem Q8n {l:Rw} (hl:Src l) (k:Nat):∃(it:Itm) (k':Nat),Kv [.view Aa l,I k]=some (Ag it++[.view Aa l,I k'])/\k<=k'/\Oth it:=Zfx (GY hl) k
theorem Zqe {v:Int} (h:0<=v/\v<8):∃x,Af (nth .dead (nth [] [[I 2],[I 2],[I 2],[I 3],[I 1],[I 6],[I 5],[I 4]] v.toNat) 0)=x/\1<=x/\x<=6:=by
 have hc:v=0\/v=1\/v=2\/v=3\/v=4\/v=5\/v=6\/v=7:=by omega
 rcases hc with rfl|rfl|rfl|rfl|rfl|rfl|rfl|rfl<;>exact⟨_,rfl,by decide⟩
theorem Zbc {MM MO ML MN MF:Fn} {l:Rw} (hN:Gz l MN)
  (hM : ∀ {p : Pt}, bd 100000000 p -> ∀ {kind : Int}, (1 <= kind /\ kind <= 6) -> ∀ k : Nat,
   ∃(it:Itm) (k':Nat),MM [I p.x,I p.y,I p.z,I kind, .view Aa l,I k]=some (Ag it++[.view Aa l,I k'])/\k<=k'/\it.fr=p/\it.kind=kind/\Made it/\E9 it)
  (hO:∀k:Nat,∃(it:Itm) (k':Nat),MO [.view Aa l,I k]=some (Ag it++[.view Aa l,I k'])/\k<=k'/\Oth it)
  (hL:∀k:Nat,ML [.view Aa l,I k]=some [B (decide (k<l.length)), .view Aa l,I k]) {most:Int} {fin:Bool} (hm:most<=100) {p:Pt}:
  ∀s:List Itm×Nat,(Items (4+40*102) p s.1/\bd (4+40*s.1.length) (Eb p s.1)/\(s.1=[]\/s.1.length<=most+1))->
   ∃o,An (Qdh MM MO ML MN MF) [.view Ak (s.1.map Ag),I most,B fin,I (Eb p s.1).x,I (Eb p s.1).y,I (Eb p s.1).z, .view Aa l,I s.2]=some o/\o.1≠0/\
    ∃items,o=(1,[.view Ak (items.map Ag),B fin])/\Items (4+40*102) p items/\(items=[]\/items.length<=most+1):=by
 refine Q2u (S:=List Itm×Nat) (fun s=>[.view Ak (s.1.map Ag),I most,B fin,I (Eb p s.1).x,I (Eb p s.1).y,I (Eb p s.1).z, .view Aa l,I s.2]) _ (fun s=>l.length-s.2) _ ?_
 rintro⟨items,k⟩ ⟨h1,h2,h3⟩
 simp only at h1 h2 h3
 simp only
 rw[Zjb]
 simp only[go_sem,hL,List.length_map]
 by_cases c1:(items.length:Int)<most
 case neg=>
  rw[if_neg c1]
  exact .inr ⟨_,rfl,by simp,items,rfl,h1,h3⟩
 rw[if_pos c1]
 by_cases c2:k<l.length
 case neg=>
  rw[if_neg (by simpa using c2)]
  exact .inr ⟨_,rfl,by simp,items,rfl,h1,h3⟩
 rw[if_pos (by simpa using c2)]
 obtain⟨v,k1,e1,a1,b1,d1,d2,-⟩:=hN k (n:=12) (by omega)
 have d3:=d2 c2
 subst d3
 simp only[go_sem,e1]
 have hmost:items.length<100:=by omega
 by_cases c3:v<4
 ·rw[if_pos c3]
  obtain⟨it,k2,e2,g1,g2⟩:=hO (k+1)
  have hnm:=O4 g2
  simp only[go_sem,e2,Ag,List.cons_append,List.nil_append]
  rw[if_pos (by simp;omega)]
  left
  refine⟨(items++[it],k2),?_,⟨Nc h1 (fun h=>absurd h hnm) (.inr g2),?_, .inr ?_⟩,?_⟩
  ·simp only[Io,if_neg hnm,List.map_append,List.map_cons,List.map_nil,Ag]
  ·simp only[Io,if_neg hnm,List.length_append,List.length_singleton]
   exact AU h2 (by omega)
  ·simp only[List.length_append,List.length_singleton];omega
  ·simp only;omega
 ·rw[if_neg c3,Ae (by omega)]
  obtain⟨x,hx,hx1,hx2⟩:=Zqe (v:=v-4) (by omega)
  have hpb:bd 100000000 (Eb p items):=AU h2 (by omega)
  obtain⟨it,k2,e2,g1,g2,g3,g4,g5⟩:=hM hpb (kind:=x) (by omega) (k+1)
  have hmo:AD it:=by unfold AD;omega
  have hb2:=Qwy g4 (by rw[g2];exact h2)
  rw[if_pos (by simp;omega)]
  simp only[go_sem,hx,e2,Ag,List.cons_append,List.nil_append]
  have hmade:(AD it/\Made it/\E9 it/\bd (4+40*102) it.fr/\bd (4+40*102) it.to)\/Oth it:= .inl ⟨hmo,g4,g5,by rw[g2];exact AU h2 (by omega),AU hb2 (by omega)⟩
  by_cases c5:it.kind=5
  ·rw[if_pos c5]
   obtain⟨v3,k3,e3,a3,b3,d3,-,-⟩:=hN k2 (n:=2) (by omega)
   obtain⟨v4,k4,e4,a4,b4,d4,-,-⟩:=hN k3 (n:=3000) (by omega)
   simp only[go_sem,e3,e4]
   rw[Ae (x:=3+v3) (by omega),Ae (x:=200+v4) (by omega)]
   rw[if_pos (by simp;omega),if_pos (by simp;omega)]
   have hsp:Oth ⟨8,0,⟨0,0,0⟩,⟨0,0,0⟩,0,⟨0,0,0⟩,0,false,0,false,0,0,0,3+v3,200+v4,false⟩:=⟨by simp only;omega,fun _=>by simp only;omega,by simp,by simp⟩
   have hnm:=O4 hsp
   have i1:=Nc h1 (fun h=>absurd h hnm) (.inr hsp)
   left
   refine⟨(items++[⟨8,0,⟨0,0,0⟩,⟨0,0,0⟩,0,⟨0,0,0⟩,0,false,0,false,0,0,0,3+v3,200+v4,false⟩]++[it],k4),?_,⟨Nc i1 (fun _=>by rw[Io,if_neg hnm];exact g2) hmade,?_, .inr ?_⟩,?_⟩
   ·simp only[Io,if_pos hmo,List.map_append,List.map_cons,List.map_nil,Ag]
   ·simp only[Io,if_pos hmo,List.length_append,List.length_singleton]
    exact AU hb2 (by omega)
   ·simp only[List.length_append,List.length_singleton];omega
   ·simp only;omega
  ·rw[if_neg c5,if_pos (by simp;omega)]
   left
   refine⟨(items++[it],k2),?_,⟨Nc h1 (fun _=>g2) hmade,?_, .inr ?_⟩,?_⟩
   ·simp only[Io,if_pos hmo,List.map_append,List.map_cons,List.map_nil,Ag]
   ·simp only[Io,if_pos hmo,List.length_append,List.length_singleton]
    exact AU hb2 (by omega)
   ·simp only[List.length_append,List.length_singleton];omega
   ·simp only;omega
def Ko:Itm:=⟨14,0,⟨0,0,0⟩,⟨0,0,0⟩,0,⟨0,0,0⟩,0,false,0,false,0,0,0,0,0,false⟩
theorem Q5o:Oth Ko:=⟨by simp[Ko],by simp[Ko],by simp[Ko],by simp[Ko]⟩
theorem Zmv {MM MO ML MN MF:Fn} {N:Lp} {l:Rw} (hN:Gz l MN) (hF:MF [.view Aa l]=some [.view Aa l,I 0]) {most:Int} {fin:Bool} (hm:most<=100)
  (hL:∀(p:Pt) (k:Nat),bd 4 p->∃items,N [.view Ak [],I most,B fin,I p.x,I p.y,I p.z, .view Aa l,I k]=some (1,[.view Ak (items.map Ag),B fin])/\Items 4084 p items/\(items=[]\/items.length<=most+1)):
  ∃(p:Pt) (items:List Itm),Qkf MM MO ML MN MF N [.view Aa l,I most,B fin]=some [.view Ak ((items++if fin=true then [Ko]else []).map Ag)]/\Items 4084 p items/\(items=[]\/items.length<=most+1):=by
 obtain⟨v1,k1,e1,a1,b1,c1,-,-⟩:=hN 0 (n:=9) (by omega)
 obtain⟨v2,k2,e2,a2,b2,c2,-,-⟩:=hN k1 (n:=9) (by omega)
 obtain⟨v3,k3,e3,a3,b3,c3,-,-⟩:=hN k2 (n:=9) (by omega)
 obtain⟨items,h1,h2,h3⟩:=hL ⟨v1-4,v2-4,v3-4⟩ k3 ⟨by simp only;omega,by simp only;omega,by simp only;omega⟩
 rw[Zfu]
 have e1':MN [I 9, .view Aa l,I 0]=some [I v1, .view Aa l,I k1]:=e1
 simp only[go_sem,hF,e1',e2,e3]
 rw[Ae (x:=v1-4) (by omega),Ae (x:=v2-4) (by omega),Ae (x:=v3-4) (by omega)]
 simp only[h1,go_sem]
 refine⟨_,items,?_,h2,h3⟩
 have hlen:items.length<=101:=by
  rcases h3 with h3|h3
  ·rw[h3];simp
  ·omega
 cases fin
 ·simp
 ·rw[if_pos rfl,if_pos (by simp;omega),if_pos rfl,List.map_append]
  rfl
theorem Zbv {l:Rw} (hl:Src l) {most:Int} (hm:most<=100) (fin:Bool):
  ∃(p:Pt) (items:List Itm),Lr [.view Aa l,I most,B fin]=some [.view Ak (items.map Ag)]/\Items 4084 p items/\(items.length:Int)<=max most (-1)+2/\(fin=true->∃l,items=l++[Ko]/\(l.length:Int)<=max most (-1)+1)/\(fin=false->(items.length:Int)<=max most (-1)+1):=by
 obtain⟨p,items,h1,h2,h3⟩:=Zmv (MM:=J7) (MO:=Kv) (ML:=FD) (N:=Qbo) (fin:=fin) (GY hl) (OT l) hm fun p k hp=>by
  obtain⟨o,h1,-,items,rfl,h3,h4⟩:=Zbc (MF:=Ce) (fin:=fin) (GY hl) (fun hp _ hk k=>Zie hl hp hk k) (fun k=>Q8n hl k) (Qtk l) hm (p:=p) ([],k) ⟨⟨trivial,by simp⟩,hp, .inl rfl⟩
  exact⟨items,h1,h3,h4⟩
 have hle:(items.length:Int)<=max most (-1)+1:=by
  rcases h3 with h3|h3
  ·rw[h3];simp;omega
  ·omega
 refine⟨p,_,h1,?_,?_,fun hf=> ?_,fun hf=> ?_⟩
 ·cases fin
  ·simpa using h2
  ·simp only[if_true]
   exact Nc h2 (fun h=>absurd h (O4 Q5o)) (.inr Q5o)
 ·cases fin
  ·simp;omega
  ·simp;omega
 ·subst hf;exact⟨items,by simp,hle⟩
 ·subst hf;simpa using hle

theorem Ql0 {A:Nat} {items:List Itm} (hA:A<=1000000) (hm:∀it∈items,(AD it/\Made it/\E9 it/\bd A it.fr/\bd A it.to)\/Oth it):∀(k i:Nat) (last:Int) (p:Pt),i+k=items.length->Im p (items.drop i)->(0<=last->(itA items last.toNat).to=p)->GS items k i last=0
 |0,_,_,_,_,_,_=>rfl
 |k+1,i,last,p,hi,h,hp=>by
  have hlt:i<items.length:=by omega
  have hit:=hm _ (Qpw hlt)
  rw[Qna hlt]at h
  unfold Im at h
  unfold GS
  have hw: ¬B1 (itA items i):=by
   rcases hit with⟨h1,h2,h3,h4,h5⟩|ho
   ·have hv:=Q88 h2 (AU h4 hA) (AU h5 hA)
    have hf:=h2.feed
    have hb:=h2.blend
    have hk:=h2.kind
    rintro(g|g|⟨-,g|g|g|g⟩|⟨g,-⟩)
    ·omega
    ·omega
    ·exact g hv
    ·omega
    ·omega
    ·omega
    ·exact g h1
   ·have hk:=ho.kind
    rintro(g|g|⟨g,-⟩|⟨-,g1,g2⟩)
    ·omega
    ·omega
    ·exact O4 ho g
    ·have:=ho.spin g1;omega
  rw[if_neg hw]
  by_cases c:AD (itA items i)
  ·rw[if_pos c]at h⊢
   rw[if_neg (fun g=>g.2 (by rw[hp g.1];exact h.1.symm))]
   exact Ql0 hA hm k (i+1) i _ (by omega) h.2 (fun _=>by rw[Int.toNat_natCast])
  ·rw[if_neg c]at h⊢
   exact Ql0 hA hm k (i+1) last p (by omega) h hp
theorem Q2i {A:Nat} {p:Pt} {items:List Itm} (hA:A<=1000000) (h:Items A p items) (hl:items.length<=20000):C6 items=0:=by
 unfold C6
 rw[if_neg (by omega)]
 exact Ql0 hA h.made items.length 0 (-1) p (by omega) (by rw[List.drop_zero];exact h.link) (fun h=>by omega)
end Go.Bm
/- a b / sqrt n, rounded to the nearest: what package wide gives is what the reference gives -/
set_option maxRecDepth 100000
namespace Go.Bm

theorem Zp0 {M:Fn} (hM:∀{hi lo y:Nat},hi<y->y<w64->lo<w64->M [U hi,U lo,U y]=some [U (((hi*w64+lo)/y:Nat):Int),U (((hi*w64+lo)%y:Nat):Int)])
  {hi lo y:Nat} (hhi:hi<w64) (hlo:lo<w64) (hy0:0<y) (hy:y<w64):
  ∃qh ql:Nat,Tj M [U hi,U lo,U y]=some [U qh,U ql,B (decide (0<(hi*w64+lo)%y))]/\qh<w64/\ql<w64/\qh*w64+ql=(hi*w64+lo)/y:=by
 have h1:=hM (hi:=0) (lo:=hi) hy0 hy hhi
 rw[Nat.zero_mul,Nat.zero_add,show((0:Nat):Int)=0 from rfl]at h1
 have hm:=Nat.mod_lt hi hy0
 have h2:=hM (hi:=hi%y) (lo:=lo) hm hy hlo
 have e:=Nat.div_add_mod hi y
 have e2:hi*w64+lo=hi%y*w64+lo+hi/y*w64*y:=by
  have:hi*w64=hi/y*w64*y+hi%y*w64:=by
   rw[<-e,Nat.mul_add_mod,Nat.mod_mod]
   rw[show(y*(hi/y)+hi%y)/y=hi/y from by rw[e]]
   rw[Nat.add_mul,Nat.mul_comm y,Nat.mul_assoc,Nat.mul_comm y,Nat.mul_assoc]
  omega
 have hq:(hi*w64+lo)/y=(hi%y*w64+lo)/y+hi/y*w64:=by rw[e2,Nat.add_mul_div_right _ _ hy0]
 have hr:(hi*w64+lo)%y=(hi%y*w64+lo)%y:=by rw[e2,Nat.add_mul_mod_self_right]
 have hlt:(hi%y*w64+lo)/y<w64:=by
  rw[Nat.div_lt_iff_lt_mul hy0]
  have:hi%y*w64+w64<=y*w64:=by rw[<-Nat.succ_mul];exact Nat.mul_le_mul_right _ hm
  rw[Nat.mul_comm w64]
  omega
 refine⟨hi/y,(hi%y*w64+lo)/y,?_,Nat.lt_of_le_of_lt (Nat.div_le_self _ _) hhi,hlt,by rw[hq];omega⟩
 rw[Q7f]
 simp only[go_sem,h1,h2,hr]
 by_cases c:0<(hi%y*w64+lo)%y
 ·rw[decide_eq_true c,decide_eq_true (show(((hi%y*w64+lo)%y:Nat):Int)>0 by omega)]
 ·rw[decide_eq_false c,decide_eq_false (show¬(((hi%y*w64+lo)%y:Nat):Int)>0 by omega)]

theorem Zxm {A n t:Nat} (hn:0<n) (h1:t*t<=2*A*(2*A)/n) (h2:2*A*(2*A)/n<(t+1)*(t+1)) (down:Bool) {E:Prop} [Decidable E] (hE:E↔(2*A*(2*A)%n=0/\t*t=2*A*(2*A)/n)):
  Ei A n down (if t%2=1/\(¬E\/down=false)then t/2+1 else t/2):=by
 have e4:2*A*(2*A)=4*(A*A):=by grind
 have k1:t*t*n<=2*A*(2*A):=(Nat.le_div_iff_mul_le hn).1 h1
 have k2:2*A*(2*A)<(t+1)*(t+1)*n:=(Nat.div_lt_iff_lt_mul hn).1 h2
 have k3:(2*A*(2*A)%n=0/\t*t=2*A*(2*A)/n)↔t*t*n=2*A*(2*A):=by
  have hd:=Nat.div_add_mod (2*A*(2*A)) n
  constructor
  ·rintro⟨g1,g2⟩
   rw[g2,Nat.mul_comm];omega
  ·intro g
   rw[<-g]
   exact⟨Nat.mul_mod_left _ _,(Nat.mul_div_cancel _ hn).symm⟩
 have k4:=hE.trans k3
 rw[e4]at k1 k2 k4
 clear hE k3 h1 h2
 generalize hQ:4*(A*A)=Q at*
 unfold Ei
 rw[hQ]
 rcases Nat.mod_two_eq_zero_or_one t with ht|ht
 ·rw[if_neg (by omega)]
  obtain⟨m,rfl⟩:∃m,t=2*m:=⟨t/2,by omega⟩
  rw[show 2*m/2=m by omega]
  have h5:(2*m+1)*(2*m+1)*n<=(2*m+1)*(2*m+1)*n:=Nat.le_refl _
  refine⟨?_,?_⟩
  ·rcases Nat.eq_zero_or_pos m with hm|hm
   ·exact .inl hm
   ·right
    have h6:(2*m-1)*(2*m-1)*n<2*m*(2*m)*n:=Nat.mul_lt_mul_of_pos_right (Nat.mul_self_lt_mul_self (by omega)) hn
    split<;>omega
  ·split<;>omega
 ·obtain⟨m,rfl⟩:∃m,t=2*m+1:=⟨t/2,by omega⟩
  rw[show(2*m+1)/2=m by omega]
  have h6:(2*m+1+1)*(2*m+1+1)*n<=(2*(m+1)+1)*(2*(m+1)+1)*n:=PT (by omega)
  have h7:(2*m-1)*(2*m-1)*n<(2*m+1)*(2*m+1)*n:=Nat.mul_lt_mul_of_pos_right (Nat.mul_self_lt_mul_self (by omega)) hn
  have h8:2*(m+1)-1=2*m+1:=by omega
  by_cases c: ¬E\/down=false
  ·rw[if_pos ⟨ht,c⟩,h8]
   refine⟨.inr ?_,?_⟩
   ·cases down
    ·simp only[Bool.false_eq_true,if_false];exact k1
    ·simp only[if_true]
     rcases c with c|c
     ·exact Nat.lt_of_le_of_ne k1 fun h=>c (k4.2 h)
     ·cases c
   ·split<;>omega
  ·have c1:(2*m+1)*(2*m+1)*n=Q:=by
    by_cases g:E
    ·exact k4.1 g
    ·exact absurd (.inl g) c
   have c2:down=true:=by
    cases down
    ·exact absurd (.inr rfl) c
    ·rfl
   subst c2
   rw[if_neg (fun h=>c h.2)]
   simp only[if_true]
   exact⟨.inr (by omega),by omega⟩
theorem Zxg {x d:Int}:sgn x d<0↔x*d<0:=by
 rcases SO x d with⟨h,g⟩|⟨h,g⟩|⟨h,g⟩<;>omega
theorem Zm0 {MSg MG MS MR MQ MP MK MZ:Fn} {x d:Int} {n X D h1 l1 qh ql t h2 l2:Nat} (hX:X<=2147483648) (hD:D<=2147483648) (hn:0<n/\n<=4611686018427387904)
  (z1:MZ [I x]=some [U X]) (z2:MZ [I d]=some [U D]) (hk:MK [I 2]=some [B true]) (hp1:MP [U ((2*(X*D):Nat):Int),U ((2*(X*D):Nat):Int)]=some [U h1,U l1])
  (hq1:MQ [U h1,U l1,U n]=some [U qh,U ql,B (decide (0<2*(X*D)*(2*(X*D))%n))]) (hq2:qh*w64+ql=2*(X*D)*(2*(X*D))/n) (hql:ql<w64) (hr1:MR [U qh,U ql]=some [U t]) (ht2:t<w64)
  (hp2:MP [U t,U t]=some [U h2,U l2]) (hp3:h2*w64+l2=t*t) (hl2:l2<w64) (hs:MS [I x,I d]=some [I (sgn x d)])
  (hg:∀(more:Int) (some_ neg:Bool),MG [I 2,I more,B some_,B neg]=some [B (if more>0 then true else if more=0 then !neg else false)])
  (g1:∀{n:Nat},n<9223372036854775808->MSg [U n,B false]=some [I n,B true]) (g2:∀{n:Nat},n<=9223372036854775808->MSg [U n,B true]=some [I (-(n:Int)),B true]) {J:Nat}
  (hJ1:t%2=1->(¬(2*(X*D)*(2*(X*D))%n=0/\t*t=2*(X*D)*(2*(X*D))/n)\/ ¬sgn x d<0)->J=t/2+1) (hJ3: ¬(t%2=1/\(¬(2*(X*D)*(2*(X*D))%n=0/\t*t=2*(X*D)*(2*(X*D))/n)\/ ¬sgn x d<0))->J=t/2) (hJ2:t<=9223372036854775808):
  ZN MSg MG MS MR MQ MP MK MZ [I x,I d,I n,I 2]=some [I (if sgn x d<0 then-(J:Int)else J),B true]:=by
 have hXD:X*D<=2147483648*2147483648:=Nat.mul_le_mul hX hD
 have w1:IntKind.u64.wrap (2*IntKind.u64.wrap ((X:Int)*(D:Int)))=((2*(X*D):Nat):Int):=by
  rw[<-Int.natCast_mul,wr (by omega),show(2:Int)*((X*D:Nat):Int)=((2*(X*D):Nat):Int) by omega,wr (by omega)]
 have w2:IntKind.u64.wrap (n:Int)=n:=wr (by omega)
 have w3:((t:Int)).tdiv 2=((t/2:Nat):Int):=Qkc t 2
 have w4:IntKind.u64.wrap ((t/2:Nat):Int)=((t/2:Nat):Int):=wr (by rw[BB]at ht2;omega)
 have w5:IntKind.u64.wrap (((t/2:Nat):Int)+1)=((t/2+1:Nat):Int):=by rw[show((t/2:Nat):Int)+1=((t/2+1:Nat):Int) by omega,wr (by rw[BB]at ht2;omega)]
 have w6:((t:Int).tmod 2=1)=(t%2=1):=by
  rw[Int.tmod_eq_emod_of_nonneg (by omega)]
  exact propext ⟨by omega,by omega⟩
 have hgt:∀(neg:Bool) (k:Nat),k<9223372036854775808->MSg [U k,B neg]=some [I (if neg=true then-(k:Int)else k),B true]:=by
  intro neg k hk
  cases neg
  ·exact g1 hk
  ·exact g2 (by omega)
 have key:∀(neg:Bool) (k:Nat),decide (sgn x d<0)=neg->J=k->k<9223372036854775808->MSg [U k,B neg]=some [I (if sgn x d<0 then-(J:Int)else J),B true]:=by
  intro neg k h1 h2 h3
  rw[hgt neg k h3,h2]
  congr 3
  by_cases c:sgn x d<0
  ·rw[if_pos c,if_pos (by rw[<-h1];exact decide_eq_true c)]
  ·rw[if_neg c,if_neg (by rw[<-h1];simpa using c)]
 have eqq:(h2=qh/\l2=ql)↔t*t=2*(X*D)*(2*(X*D))/n:=by
  rw[<-hp3,<-hq2]
  constructor
  ·rintro⟨rfl,rfl⟩;rfl
  ·intro h
   have a1:∀p q u v:Nat,u<w64->v<w64->p*w64+u=q*w64+v->p=q/\u=v:=by
    intro p q u v hu hv h
    rcases Nat.lt_trichotomy p q with c|c|c
    ·have:=Nat.mul_le_mul_right w64 (show p+1<=q from c)
     rw[Nat.succ_mul]at this;omega
    ·subst c;exact⟨rfl,by omega⟩
    ·have:=Nat.mul_le_mul_right w64 (show q+1<=p from c)
     rw[Nat.succ_mul]at this;omega
   exact a1 _ _ _ _ hl2 hql h
 rw[Zg4]
 simp only[go_sem,z1,z2,hk,w1,w2,hp1,hq1,hr1,hs,hp2,w3,w4,w5,hg]
 rw[if_neg (by omega),if_neg (by omega),if_neg (by omega),if_neg (by omega),if_neg (by simp)]
 have ht63:t/2+1<9223372036854775808:=by omega
 have hT:∀k:Nat,J=k->k<9223372036854775808->((MSg [U (k:Int),B (decide (sgn x d<0))]).bind fun o=>some [I (Af (nth .dead o 0)),B (B6 (nth .dead o 1))])=some [I (if sgn x d<0 then-(J:Int)else J),B true]:=by
  intro k h1 h2
  rw[key _ k rfl h1 h2]
  rfl
 have e3:((h2:Int)=qh/\(l2:Int)=ql/\True)=(t*t=2*(X*D)*(2*(X*D))/n):=by
  rw[<-propext eqq]
  exact propext ⟨fun h=>⟨by omega,by omega⟩,fun h=>⟨by omega,by omega,trivial⟩⟩
 simp only[e3,w6]
 have n1:((1:Int)>0)=True:=by simp
 have n2:((-1:Int)>0)=False:=by simp
 have n3:((-1:Int)=0)=False:=by simp
 have n4:((0:Int)>0)=False:=by simp
 by_cases cR:2*(X*D)*(2*(X*D))%n=0
 ·rw[if_neg (show¬0<2*(X*D)*(2*(X*D))%n by omega)]
  by_cases ct:t%2=1
  ·by_cases cE:t*t=2*(X*D)*(2*(X*D))/n
   ·by_cases cn:sgn x d<0
    ·have:=hJ3 (fun h=>h.2.elim (fun g=>g ⟨cR,cE⟩) fun g=>g cn)
     simp only[n1,n2,n3,n4,Bool.false_eq_true,ct,cE,not_true_eq_false,if_true,if_false]
     rw[if_neg (by simp[cn])]
     exact hT _ this (by omega)
    ·have:=hJ1 ct (.inr cn)
     simp only[n1,n2,n3,n4,Bool.false_eq_true,ct,cE,not_true_eq_false,if_true,if_false]
     rw[if_pos (by simp;omega)]
     exact hT _ this ht63
   ·have:=hJ1 ct (.inl fun g=>cE g.2)
    simp only[n1,n2,n3,n4,Bool.false_eq_true,ct,cE,not_true_eq_false,not_false_eq_true,if_true,if_false]
    exact hT _ this ht63
  ·have:=hJ3 (fun h=>ct h.1)
   simp only[n1,n2,n3,n4,Bool.false_eq_true,ct,if_false,ite_self]
   exact hT _ this (by omega)
 ·rw[if_pos (show 0<2*(X*D)*(2*(X*D))%n by omega)]
  by_cases ct:t%2=1
  ·have:=hJ1 ct (.inl fun g=>cR g.1)
   simp only[n1,n2,n3,n4,Bool.false_eq_true,ct,not_false_eq_true,if_true]
   exact hT _ this ht63
  ·have:=hJ3 (fun h=>ct h.1)
   simp only[n1,n2,n3,n4,Bool.false_eq_true,ct,not_false_eq_true,if_true,if_false]
   exact hT _ this (by omega)
theorem Zsj {x d:Int} {n:Nat} {J:Nat} (hn:0<n) (hd:0<=d) (hi:Ei (x.natAbs*d.natAbs) n (decide (x*d<0)) J):(if x*d<0 then-(J:Int)else J)=BN x d n:=by
 unfold BN
 rw[Int.natAbs_natCast]
 by_cases hx:x<0
 ·rw[if_pos hx]
  by_cases hd0:d=0
  ·subst hd0
   rw[Int.mul_zero,if_neg (by omega)]
   rw[show x.natAbs*(0:Int).natAbs=0 from by simp]at hi⊢
   have e1:Ei 0 n true 0:=⟨.inl rfl,by simp⟩
   rw[R6 e1]
   obtain⟨h1,-⟩:=hi
   rw[decide_eq_false (by simp)]at h1
   simp only[Bool.false_eq_true,if_false]at h1
   rcases h1 with h1|h1
   ·omega
   ·rcases Nat.eq_zero_or_pos J with hJ|hJ
    ·omega
    ·have h2:=Nat.mul_pos (Nat.mul_pos (show 0<2*J-1 by omega) (show 0<2*J-1 by omega)) hn
     omega
  ·have hxd:x*d<0:=Int.mul_neg_of_neg_of_pos hx (by omega)
   rw[decide_eq_true hxd]at hi
   rw[if_pos hxd,R6 hi]
 ·rw[if_neg hx]
  have hxd: ¬x*d<0:=by have:=Int.mul_nonneg (show 0<=x by omega) hd;omega
  rw[decide_eq_false hxd]at hi
  rw[if_neg hxd,R6 hi]
theorem Y4 {x d n:Int} (hx:x.natAbs<=2147483648) (hd:0<=d/\d<=2147483648) (hn:0<n/\n<=4611686018427387904):HM [I x,I d,I n,I 2]=some [I (BN x d n),B true]:=by
 obtain⟨N,rfl⟩:=Int.eq_ofNat_of_zero_le (show 0<=n by omega)
 have hD:d.natAbs<=2147483648:=by omega
 have hXD:x.natAbs*d.natAbs<=2147483648*2147483648:=Nat.mul_le_mul hx hD
 have hN:0<N/\N<=4611686018427387904:=by omega
 have hp:2*(x.natAbs*d.natAbs)<w64:=by rw[BB];omega
 obtain⟨h1,l1,e1,e2,e3⟩:=NA hp hp
 have hNw:N<w64:=by rw[BB];omega
 have hh1:h1<w64:=by
  have:=Nat.mul_lt_mul'' hp hp
  rw[<-e2]at this
  by_cases c:h1<w64
  ·exact c
  ·have:=Nat.mul_le_mul_right w64 (show w64<=h1 by omega)
   omega
 obtain⟨qh,ql,q1,q2,q3,q4⟩:=Zp0 (M:=F6) Qzm hh1 e3 hN.1 hNw
 rw[e2]at q1 q4
 obtain⟨t,r1,r2,r3,r4⟩:=Qrg q2 q3
 rw[q4]at r2 r3
 obtain⟨h2,l2,p1,p2,p3⟩:=NA r4 r4
 have ht:t<=9223372036854775808:=by
  have k1:t*t<=2*(x.natAbs*d.natAbs)*(2*(x.natAbs*d.natAbs)):=Nat.le_trans r2 (Nat.div_le_self _ _)
  have k2:=Nat.mul_self_le_mul_self_iff.1 k1
  omega
 have hi:=Zxm hN.1 r2 r3 (decide (x*d<0)) (E:=2*(x.natAbs*d.natAbs)*(2*(x.natAbs*d.natAbs))%N=0/\t*t=2*(x.natAbs*d.natAbs)*(2*(x.natAbs*d.natAbs))/N) Iff.rfl
 have hres:=Zsj hN.1 hd.1 hi
 rw[<-hres]
 have:= @Zxg x d
 have hif:∀a:Int,(if x*d<0 then-a else a)=if sgn x d<0 then-a else a:=by
  intro a
  by_cases c:x*d<0
  ·rw[if_pos c,if_pos (this.2 c)]
  ·rw[if_neg c,if_neg (fun h=>c (this.1 h))]
 rw[hif]
 refine Zm0 (X:=x.natAbs) (D:=d.natAbs) hx hD hN (Hv (by unfold i64;omega)) (Hv (by unfold i64;omega)) (Qam (.inr (.inr rfl))) e1 q1 q4 q3 r1 r4 p1 p2 p3 (Y5 x d) Qw6 Qjf Qy3 (fun h1 h2=> ?_) (fun h=> ?_) ht
 ·rw[if_pos ⟨h1,h2.imp id fun h=>decide_eq_false fun g=>h (this.2 g)⟩]
 ·rw[if_neg fun g=>h ⟨g.1,g.2.imp id fun k g2=>by rw[decide_eq_false_iff_not]at k;exact k (this.1 g2)⟩]
end Go.Bm
/- the program's lengths, spokes and chords: they are the reference's -/
set_option maxRecDepth 100000
namespace Go.Bm

theorem Qx5 {a b:Pt} (ha:bd 67108864 a) (hb:bd 67108864 b):
    IntKind.i64.wrap (IntKind.i64.wrap (IntKind.i64.wrap (0+IntKind.i64.wrap (IntKind.i64.wrap (a.x-b.x)*IntKind.i64.wrap (a.x-b.x)))+IntKind.i64.wrap (IntKind.i64.wrap (a.y-b.y)*IntKind.i64.wrap (a.y-b.y)))+IntKind.i64.wrap (IntKind.i64.wrap (a.z-b.z)*IntKind.i64.wrap (a.z-b.z)))=sqD a b:=by
  have h:∀x y:Int,x.natAbs<=67108864->y.natAbs<=67108864->0<=(x-y)*(x-y)/\(x-y)*(x-y)<=18014398509481984:=by
    intro x y hx hy
    exact Dk (x:=x-y) (A:=134217728) (by omega)
  have h1:=h _ _ ha.1 hb.1
  have h2:=h _ _ ha.2.1 hb.2.1
  have h3:=h _ _ ha.2.2 hb.2.2
  obtain⟨a1,a2,a3⟩:=ha
  obtain⟨b1,b2,b3⟩:=hb
  rw[Ae (x:=a.x-b.x) (by omega),Ae (x:=a.y-b.y) (by omega),Ae (x:=a.z-b.z) (by omega)]
  unfold sqD Iw Gn
  simp only
  generalize(a.x-b.x)*(a.x-b.x)=u at*
  generalize(a.y-b.y)*(a.y-b.y)=v at*
  generalize(a.z-b.z)*(a.z-b.z)=w at*
  rw[Ae (x:=u) (by omega),Ae (x:=0+u) (by omega),Ae (x:=v) (by omega),Ae (x:=0+u+v) (by omega),Ae (x:=w) (by omega),Ae (by omega),Int.zero_add]
theorem Zjo {M:Fn} {a b:Pt} {n:Nat} (ha:bd 67108864 a) (hb:bd 67108864 b) (hn:sqD a b=n)
    (hM:∃r:Nat,M [I n,I 1]=some [I ((if((1:Int)=1/\r*r<n)\/((1:Int)=2/\r*r+r<n)then r+1 else r:Nat):Int),B true]/\r*r<=n/\n<(r+1)*(r+1)):
    Qne M [I a.x,I a.y,I a.z,I b.x,I b.y,I b.z]=some [I (AA a b)]:=by
  obtain⟨r,h1,h2,h3⟩:=hM
  have hu:=Qwa h2 h3
  rw[Zwq,Qx5 ha hb,hn]
  simp only[go_sem,h1]
  unfold AA
  rw[hn,Qnu hu]
  congr 3
  by_cases c:r*r<n
  · rw[if_pos (.inl ⟨trivial,c⟩),if_pos c]
  · rw[if_neg (by simp[c]),if_neg c]
theorem Qmj {a b:Pt} (ha:bd 67108864 a) (hb:bd 67108864 b):Ie [I a.x,I a.y,I a.z,I b.x,I b.y,I b.z]=some [I (AA a b)]:=by
  have h0:=PK a b
  have h1:=Ok ha hb (Nat.le_refl _)
  obtain⟨n,hn⟩:=Int.eq_ofNat_of_zero_le h0
  exact Zjo ha hb hn (Qu1 (by omega) (.inl rfl))

theorem Zw5 {MO:Fn} {a b:Spk} {u w:Int} (ha:okS a) (hb:okS b) (hu:u.natAbs<=100000000) (hw:w.natAbs<=100000000)
    (hO: ¬(u=0/\w=0)->MO [I u,I (hf a.r b.r),I (sq2 u w),I 2]=some [I (BN u (hf a.r b.r) (sq2 u w)),B true]/\MO [I w,I (hf a.r b.r),I (sq2 u w),I 2]=some [I (BN w (hf a.r b.r) (sq2 u w)),B true]):
    (bif u == 0 then
      bif w==0 then some [AC.int IntKind.i64 0,AC.int IntKind.i64 0,AC.int IntKind.i64 0,AC.int IntKind.i64 0,AC.bool false]
      else(MO [AC.int IntKind.i64 u,AC.int IntKind.i64 ((IntKind.i64.wrap (IntKind.i64.wrap (a.r+b.r)+1)).fdiv (2^min (Int.toNat 1) IntKind.i64.bits)),AC.int IntKind.i64 (IntKind.i64.wrap (IntKind.i64.wrap (u*u)+IntKind.i64.wrap (w*w))),AC.int IntKind.i64 2]).bind fun o36=>
       (MO [AC.int IntKind.i64 w,AC.int IntKind.i64 ((IntKind.i64.wrap (IntKind.i64.wrap (a.r+b.r)+1)).fdiv (2^min (Int.toNat 1) IntKind.i64.bits)),AC.int IntKind.i64 (IntKind.i64.wrap (IntKind.i64.wrap (u*u)+IntKind.i64.wrap (w*w))),AC.int IntKind.i64 2]).bind fun o37=>
       some [AC.int IntKind.i64 (Af (nth AC.dead o36 0)),AC.int IntKind.i64 (Af (nth AC.dead o37 0)),AC.int IntKind.i64 ((IntKind.i64.wrap (IntKind.i64.wrap (a.r+b.r)+1)).fdiv (2^min (Int.toNat 1) IntKind.i64.bits)),AC.int IntKind.i64 ((IntKind.i64.wrap (IntKind.i64.wrap (a.h+b.h)+1)).fdiv (2^min (Int.toNat 1) IntKind.i64.bits)),AC.bool true]
     else(MO [AC.int IntKind.i64 u,AC.int IntKind.i64 ((IntKind.i64.wrap (IntKind.i64.wrap (a.r+b.r)+1)).fdiv (2^min (Int.toNat 1) IntKind.i64.bits)),AC.int IntKind.i64 (IntKind.i64.wrap (IntKind.i64.wrap (u*u)+IntKind.i64.wrap (w*w))),AC.int IntKind.i64 2]).bind fun o36=>
       (MO [AC.int IntKind.i64 w,AC.int IntKind.i64 ((IntKind.i64.wrap (IntKind.i64.wrap (a.r+b.r)+1)).fdiv (2^min (Int.toNat 1) IntKind.i64.bits)),AC.int IntKind.i64 (IntKind.i64.wrap (IntKind.i64.wrap (u*u)+IntKind.i64.wrap (w*w))),AC.int IntKind.i64 2]).bind fun o37=>
       some [AC.int IntKind.i64 (Af (nth AC.dead o36 0)),AC.int IntKind.i64 (Af (nth AC.dead o37 0)),AC.int IntKind.i64 ((IntKind.i64.wrap (IntKind.i64.wrap (a.r+b.r)+1)).fdiv (2^min (Int.toNat 1) IntKind.i64.bits)),AC.int IntKind.i64 ((IntKind.i64.wrap (IntKind.i64.wrap (a.h+b.h)+1)).fdiv (2^min (Int.toNat 1) IntKind.i64.bits)),AC.bool true])=
    some (CF (Hc a b u w)++[B (decide (¬(u=0/\w=0)))]):=by
  have q1:=Dk hu
  have q2:=Dk hw
  have e:IntKind.i64.wrap (IntKind.i64.wrap (u*u)+IntKind.i64.wrap (w*w))=sq2 u w:=by
    unfold sq2
    generalize u*u=x at*
    generalize w*w=y at*
    rw[Ae (x:=x) (by omega),Ae (x:=y) (by omega),Ae (by omega)]
  have er:(IntKind.i64.wrap (IntKind.i64.wrap (a.r+b.r)+1)).fdiv (2^min (Int.toNat 1) IntKind.i64.bits)=hf a.r b.r:=by
    have h1:=ha.2.2.1
    have h2:=hb.2.2.1
    rw[Ae (x:=a.r+b.r) (by omega),Ae (x:=a.r+b.r+1) (by omega),show(2^min (Int.toNat 1) IntKind.i64.bits:Int)=2 from rfl,Int.fdiv_eq_ediv_of_nonneg _ (by omega)]
    rfl
  have eh:(IntKind.i64.wrap (IntKind.i64.wrap (a.h+b.h)+1)).fdiv (2^min (Int.toNat 1) IntKind.i64.bits)=hf a.h b.h:=by
    have h1:=ha.2.2.2
    have h2:=hb.2.2.2
    rw[Ae (x:=a.h+b.h) (by omega),Ae (x:=a.h+b.h+1) (by omega),show(2^min (Int.toNat 1) IntKind.i64.bits:Int)=2 from rfl,Int.fdiv_eq_ediv_of_nonneg _ (by omega)]
    rfl
  simp only[er,eh,e]
  simp only[go_sem]
  unfold Hc
  by_cases h:u=0/\w=0
  · rw[if_pos h.1,if_pos h.2,if_pos h]
    simp[h]
  · obtain⟨n1,n2⟩:=hO h
    rw[if_neg h]
    simp only[n1,n2,go_sem]
    have hd:decide (¬(u=0/\w=0))=true:=decide_eq_true h
    rw[hd]
    by_cases hu0:u=0
    · rw[if_pos hu0,if_neg (fun hw0=>h ⟨hu0,hw0⟩)];try rfl
    · rw[if_neg hu0];try rfl
theorem Q76 {MO MC MD:Fn} {a b:Spk} (ha:okS a) (hb:okS b) {dir:Int} (hd:dir=1\/dir= -1) (full:Bool)
    (hO:∀{u w:Int},u.natAbs<=100000000->w.natAbs<=100000000-> ¬(u=0/\w=0)->MO [I u,I (hf a.r b.r),I (sq2 u w),I 2]=some [I (BN u (hf a.r b.r) (sq2 u w)),B true]/\MO [I w,I (hf a.r b.r),I (sq2 u w),I 2]=some [I (BN w (hf a.r b.r) (sq2 u w)),B true])
    (hC:MC [I a.u,I a.w,I a.r,I a.h,I b.u,I b.w,I b.r,I b.h]=some [I (crs a.u a.w b.u b.w)]) (hD:MD [I a.u,I a.w,I a.r,I a.h,I b.u,I b.w,I b.r,I b.h]=some [I (dt2 a.u a.w b.u b.w)])
    (hcb:(crs a.u a.w b.u b.w).natAbs<=5000000000000000):
    Qma MO MC MD [I a.u,I a.w,I a.r,I a.h,I b.u,I b.w,I b.r,I b.h,I dir,B full]=some (CF (Em a b dir full)++[B (decide (¬((De a b dir full).1=0/\(De a b dir full).2=0)))]):=by
  have key:=fun{u w:Int} (hu:u.natAbs<=100000000) (hw:w.natAbs<=100000000)=>Zw5 (MO:=MO) (a:=a) (b:=b) ha hb hu hw (hO hu hw)
  have hbd:=L0 ha hb hd full
  obtain⟨a1,a2,-⟩:=ha
  obtain⟨b1,b2,-⟩:=hb
  have w1:IntKind.i64.wrap (0-a.u)= -a.u:=by rw[Ae (by omega)];omega
  have w2:IntKind.i64.wrap (0-a.w)= -a.w:=by rw[Ae (by omega)];omega
  have w3:IntKind.i64.wrap (a.u+b.u)=a.u+b.u:=Ae (by omega)
  have w4:IntKind.i64.wrap (a.w+b.w)=a.w+b.w:=Ae (by omega)
  have w5:IntKind.i64.wrap (0-(a.u+b.u))= -(a.u+b.u):=by rw[Ae (by omega)];omega
  have w6:IntKind.i64.wrap (0-(a.w+b.w))= -(a.w+b.w):=by rw[Ae (by omega)];omega
  have w7:IntKind.i64.wrap (b.w-a.w)=b.w-a.w:=Ae (by omega)
  have w8:IntKind.i64.wrap (a.u-b.u)=a.u-b.u:=Ae (by omega)
  have w9:IntKind.i64.wrap (dir*(b.w-a.w))=dir*(b.w-a.w):=by rcases hd with rfl|rfl<;>exact Ae (by omega)
  have w10:IntKind.i64.wrap (dir*(a.u-b.u))=dir*(a.u-b.u):=by rcases hd with rfl|rfl<;>exact Ae (by omega)
  have w11:IntKind.i64.wrap (crs a.u a.w b.u b.w*dir)=crs a.u a.w b.u b.w*dir:=by rcases hd with rfl|rfl<;>exact Ae (by omega)
  rw[Zc0]
  try dsimp only[go_sem]
  unfold Em
  simp only[w1,w2,w3,w4,w5,w6,w7,w8,w9,w10,hC,hD,Option.bind_some,G8,He,gA,jA,wA,bA,w11]
  have fin:∀{x:Option (List AC)},x=some (CF (Hc a b (De a b dir full).1 (De a b dir full).2)++[B (decide (¬((De a b dir full).1=0/\(De a b dir full).2=0)))])->
      (bif dir !=1 then bif dir != -1 then some [AC.int IntKind.i64 0,AC.int IntKind.i64 0,AC.int IntKind.i64 0,AC.int IntKind.i64 0,AC.bool false]else x else x)=some (CF (Hc a b (De a b dir full).1 (De a b dir full).2)++[B (decide (¬((De a b dir full).1=0/\(De a b dir full).2=0)))]):=by
    intro x hx
    rcases hd with rfl|rfl
    · rw[Bl (by decide)];exact hx
    · rw[Bz (by decide),Bl (by decide)];exact hx
  refine fin ?_
  have hk:=key hbd.1 hbd.2
  unfold De at*
  cases full
  · simp only[cond_false,Bool.false_eq_true,if_false]at hk⊢
    by_cases c1:0<dt2 a.u a.w b.u b.w
    · rw[AW (show¬dt2 a.u a.w b.u b.w<=0 by omega)]
      by_cases c2:0<crs a.u a.w b.u b.w*dir
      · rw[AW (show¬crs a.u a.w b.u b.w*dir<=0 by omega)]
        rw[if_pos ⟨c1,c2⟩]at hk⊢
        exact hk
      · rw[Du (show crs a.u a.w b.u b.w*dir<=0 by omega)]
        rw[if_neg (fun h=>c2 h.2),if_pos c1]at hk⊢
        exact hk
    · rw[Du (show dt2 a.u a.w b.u b.w<=0 by omega)]
      rw[if_neg (fun h=>c1 h.1),if_neg c1]at hk⊢
      exact hk
  · simp only[cond_true,if_true]at hk⊢
    exact hk
theorem Zp1 {u w r:Int} (hu:u.natAbs<=100000000) (hw:w.natAbs<=100000000) (hr:0<=r/\r<=50000000) (h: ¬(u=0/\w=0)):
    HM [I u,I r,I (sq2 u w),I 2]=some [I (BN u r (sq2 u w)),B true]/\HM [I w,I r,I (sq2 u w),I 2]=some [I (BN w r (sq2 u w)),B true]:=by
  have hp:=Sq h
  have h1:=Dk hu
  have h2:=Dk hw
  have h3:sq2 u w<=20000000000000000:=by unfold sq2;omega
  exact⟨Y4 (by omega) (by omega) (by omega),Y4 (by omega) (by omega) (by omega)⟩
theorem Q98 {a b:Spk} (ha:okS a) (hb:okS b) {dir:Int} (hd:dir=1\/dir= -1) (full:Bool):
    Lb [I a.u,I a.w,I a.r,I a.h,I b.u,I b.w,I b.r,I b.h,I dir,B full]=some (CF (Em a b dir full)++[B (decide (¬((De a b dir full).1=0/\(De a b dir full).2=0)))]):=by
  have hc:=(Qqy ha.1 ha.2.1 hb.1 hb.2.1).2
  exact Q76 ha hb hd full (fun hu hw h=>Zp1 hu hw (Q12 ha.2.2.1 hb.2.2.1) h)
    (Qjb (F2 ha.1) (F2 ha.2.1) (F2 hb.1) (F2 hb.2.1)) (Z7 (F2 ha.1) (F2 ha.2.1) (F2 hb.1) (F2 hb.2.1)) hc

def okT (s:Spk):Prop:=okS s/\ ¬(s.u=0/\s.w=0)/\1<=s.r
theorem Qv9 {a b:Spk} (ha: ¬(a.u=0/\a.w=0)) (hb: ¬(b.u=0/\b.w=0)) {dir:Int} (hd:dir=1\/dir= -1) (full:Bool): ¬((De a b dir full).1=0/\(De a b dir full).2=0):=by
  have hp:=Sq ha
  unfold sq2 at hp
  unfold De
  split
  · simp only;omega
  · rename_i hf
    have key:0<dt2 a.u a.w b.u b.w-> ¬(a.u+b.u=0/\a.w+b.w=0):=by
      intro h1 ⟨h2,h3⟩
      have e1:b.u= -a.u:=by omega
      have e2:b.w= -a.w:=by omega
      unfold dt2 at h1
      rw[e1,e2,Int.mul_neg,Int.mul_neg]at h1
      omega
    split
    · rename_i c;exact key c.1
    · split
      · rename_i c1 c2
        have:=key c2
        simp only;omega
      · rename_i c1 c2
        simp only
        rintro⟨h2,h3⟩
        have e1:b.w=a.w/\a.u=b.u:=by rcases hd with rfl|rfl<;>omega
        unfold dt2 at c2
        rw[e1.1,<-e1.2]at c2
        omega
theorem Zbs {u w r:Int} (hu:u.natAbs<=100000000) (hw:w.natAbs<=100000000) (hr:1<=r/\r<=50000000) (h: ¬(u=0/\w=0)): ¬(BN u r (sq2 u w)=0/\BN w r (sq2 u w)=0):=by
  have hp:=Sq h
  have h1:=Dk hu
  have h2:=Dk hw
  have h3:sq2 u w<=20000000000000000:=by unfold sq2;omega
  obtain⟨q1,q2⟩:=Qp5 u w
  have key:∀x:Int,x.natAbs<=100000000->x*x<=sq2 u w->BN x r (sq2 u w)=0->4*(x*x)<=sq2 u w:=by
    intro x hx hq h0
    obtain⟨-,-,g3⟩:=QU (x:=x) (r:=r) (n:=sq2 u w) (Nat.le_trans hx (by decide)) (by omega) (by omega) hq
    rw[h0]at g3
    obtain⟨-,g3⟩:=g3
    have g4:4*(x.natAbs*r.natAbs*(x.natAbs*r.natAbs))<=(sq2 u w).natAbs:=by
      rw[show(0:Int).natAbs=0 from rfl]at g3
      split at g3<;>omega
    have e1:x.natAbs*r.natAbs*(x.natAbs*r.natAbs)=x.natAbs*x.natAbs*(r.natAbs*r.natAbs):=by grind
    have g5:x.natAbs*x.natAbs*1<=x.natAbs*x.natAbs*(r.natAbs*r.natAbs):=Nat.mul_le_mul_left _ (Nat.mul_le_mul (show 1<=r.natAbs by omega) (show 1<=r.natAbs by omega))
    have e2:((x.natAbs*x.natAbs:Nat):Int)=x*x:=Int.natAbs_mul_self
    omega
  rintro⟨g1,g2⟩
  have k1:=key u hu q1 g1
  have k2:=key w hw q2 g2
  unfold sq2 at*
  omega
theorem Zro {a b:Spk} (ha:okT a) (hb:okT b) {dir:Int} (hd:dir=1\/dir= -1) (full:Bool):okT (Em a b dir full):=by
  have hn:=Qv9 ha.2.1 hb.2.1 hd full
  have hbd:=L0 ha.1 hb.1 hd full
  have h1:=ha.1.2.2.1
  have h2:=hb.1.2.2.1
  have h3:=ha.2.2
  have h4:=hb.2.2
  have hh:1<=hf a.r b.r/\hf a.r b.r<=50000000:=by unfold hf;omega
  refine⟨Q2s ha.1 hb.1 hd full,?_,?_⟩
  · unfold Em Hc
    rw[if_neg hn]
    exact Zbs hbd.1 hbd.2 hh hn
  · unfold Em Hc
    rw[if_neg hn]
    exact hh.1
theorem Zso {r n:Int} (hr:0<=r/\r<=50000000):LH [I r,I n]=some [B (decide (n<=32*r-64))]:=by
  unfold LH
  rw[Zv8,Ae (x:=8*r) (by omega),Ae (x:=8*r*4) (by omega),Ae (x:=8*r*4-64) (by omega),show 8*r*4-64=32*r-64 by omega]
theorem Q79 {MF MC:Fn} {out:Rw} {a b:Spk} (ha:okS a) (hb:okS b) {dir:Int} (hd:dir=1\/dir= -1) (full:Bool)
    (hF:∀{r n:Int},(0<=r/\r<=50000000)->MF [I r,I n]=some [B (decide (n<=32*r-64))])
    (hC:MC [I a.u,I a.w,I a.r,I a.h,I b.u,I b.w,I b.r,I b.h]=some [I (crs a.u a.w b.u b.w)]) (hcb:(crs a.u a.w b.u b.w).natAbs<=5000000000000000):
    U3 MF MC [.view DB out,I a.u,I a.w,I a.r,I a.h,I b.u,I b.w,I b.r,I b.h,B full,I dir]=some [.view DB out,B (decide (Hu a b dir full)),I dir]:=by
  have hr:0<=mn a.r b.r/\mn a.r b.r<=50000000:=by
    have h1:=ha.2.2.1
    have h2:=hb.2.2.1
    unfold mn;split<;>omega
  obtain⟨a1,a2,-⟩:=ha
  obtain⟨b1,b2,-⟩:=hb
  have x1:=HW a1 b1
  have x2:=HW a2 b2
  have q1:=Dk x1
  have q2:=Dk x2
  have e:IntKind.i64.wrap (IntKind.i64.wrap ((a.u-b.u)*(a.u-b.u))+IntKind.i64.wrap ((a.w-b.w)*(a.w-b.w)))=sq2 (a.u-b.u) (a.w-b.w):=by
    unfold sq2
    generalize(a.u-b.u)*(a.u-b.u)=x at*
    generalize(a.w-b.w)*(a.w-b.w)=y at*
    rw[Ae (x:=x) (by omega),Ae (x:=y) (by omega),Ae (by omega)]
  have w11:IntKind.i64.wrap (crs a.u a.w b.u b.w*dir)=crs a.u a.w b.u b.w*dir:=by rcases hd with rfl|rfl<;>exact Ae (by omega)
  rw[Zid,Hw x1 (by decide),Hw x2 (by decide),e]
  cases full
  · simp only[Bool.not_false,cond_true,hC,Option.bind_some,G8,He,gA,jA,wA,bA,w11,hF hr,Qmr]
    by_cases c:0<crs a.u a.w b.u b.w*dir
    · rw[Du (show crs a.u a.w b.u b.w*dir>0 from c)]
      by_cases c2:sq2 (a.u-b.u) (a.w-b.w)<=32*mn a.r b.r-64
      · rw[decide_eq_true c2,decide_eq_true (show Hu a b dir false from⟨rfl,c,c2⟩)]
      · rw[decide_eq_false c2,decide_eq_false (fun h:Hu a b dir false=>c2 h.2.2)]
    · rw[AW (show¬crs a.u a.w b.u b.w*dir>0 from c),decide_eq_false (fun h:Hu a b dir false=>c h.2.1)]
  · simp only[Bool.not_true,cond_false]
    rw[decide_eq_false (fun h:Hu a b dir true=>by cases h.1)]
theorem Zyh {out:Rw} {a b:Spk} (ha:okS a) (hb:okS b) {dir:Int} (hd:dir=1\/dir= -1) (full:Bool):
    K5 [.view DB out,I a.u,I a.w,I a.r,I a.h,I b.u,I b.w,I b.r,I b.h,B full,I dir]=some [.view DB out,B (decide (Hu a b dir full)),I dir]:=
  Q79 ha hb hd full Zso (Qjb (F2 ha.1) (F2 ha.2.1) (F2 hb.1) (F2 hb.2.1)) (Qqy ha.1 ha.2.1 hb.1 hb.2.1).2
theorem ZX {dir:Int} (hd:dir=1\/dir= -1):∀(n k:Nat) (full:Bool) (a b:Spk) (out:List Spk),k<=16->k<n->okT a->okT b->out.length+2^k<=1000000->
    LT n [.view DB (out.map CF),I a.u,I a.w,I a.r,I a.h,I b.u,I b.w,I b.r,I b.h,B full,I (16-k:Int),I dir]=some [.view DB ((out++Dp dir k full a b).map CF),I dir]
  |0,k,_,_,_,_,_,hk,_,_,_=>by omega
  |n+1,0,full,a,b,out,_,_,ha,hb,ho=>by
    show QA _ _ _ _=_
    rw[Q0d,AW (by omega),Bz]
    · unfold Dp
      rw[List.map_append];rfl
    · exact Nat.ble_eq_true_of_le (by simp only[List.length_append,List.length_map,List.length_cons,List.length_nil];omega)
  |n+1,k+1,full,a,b,out,hk,hn,ha,hb,ho=>by
    have hm:=Zro ha hb hd full
    have hz:=Qv9 ha.2.1 hb.2.1 hd full
    have e3:2^(k+1)=2^k+2^k:=by rw[Nat.pow_succ];omega
    have hp:0<2^k:=Nat.two_pow_pos _
    have l1:=(S_ k false a (Em a b dir full) (dir:=dir)).2
    have i1:=ZX hd n k false a (Em a b dir full) out (by omega) (by omega) ha hm (by omega)
    have i2:=ZX hd n k false (Em a b dir full) b (out++Dp dir k false a (Em a b dir full)) (by omega) (by omega) hm hb (by rw[List.length_append];omega)
    have e1:=Zyh (out:=out.map CF) ha.1 hb.1 hd full
    have e2:=Q98 ha.1 hb.1 hd full
    rw[decide_eq_true hz]at e2
    show QA (LT n) Lb K5 _=_
    generalize LT n=MP at*
    generalize Lb=MM at*
    generalize K5=MS at*
    rw[Q0d,Du (by omega),Ae (by omega),show(16-((k+1:Nat):Int)+1)=16-(k:Int) by omega]
    unfold Dp
    generalize Em a b dir full=m at*
    generalize Dp dir k false a m=p1 at*
    generalize Dp dir k false m b=p2 at*
    simp only[List.cons_append,List.nil_append,CF]at e2
    simp only[e1,e2,Option.bind_some,G8,Ke,Kn,Ou,Pf,He,gA,jA,wA,bA,Qmr,i1,i2,Qfw]
    by_cases c:Hu a b dir full
    · rw[if_pos c,Bl (by simp[c]),Bz]
      · rw[List.map_append];rfl
      · exact Nat.ble_eq_true_of_le (by simp only[List.length_append,List.length_map,List.length_cons,List.length_nil];omega)
    · rw[if_neg c,Bz (by simp[c]),cond_true,List.append_assoc]
end Go.Bm
/- the program's chords are the reference's -/
set_option maxRecDepth 100000
namespace Go.Bm

theorem Qp6 {it:Itm} {p:Pt} (hc:bd 1048576 it.ce) (hp:bd 1048576 p) (hq:64<=sq2 (dU it p) (dW it p)):okT (DW it p):=by
 obtain⟨h1,h2,h3,h4⟩:=Om hc hp
 have e:sq2 (dU it p*16) (dW it p*16)=256*sq2 (dU it p) (dW it p):=by unfold sq2;grind
 refine⟨Td hc hp,?_,?_⟩
 ·show¬(dU it p*16=0/\dW it p*16=0)
  rintro⟨g1,g2⟩
  rw[show dU it p=0 by omega,show dW it p=0 by omega]at hq
  simp[sq2]at hq
 ·show 1<=Ff _
  obtain⟨n,hn⟩:=Int.eq_ofNat_of_zero_le h3
  rw[hn]at h4⊢
  obtain⟨r,-,r2,r3,-⟩:=QW (n:=n) (by omega)
  rw[Q8 (Qr r2 r3)]
  have:1<=r:=by
   rcases Nat.eq_zero_or_pos r with h|h
   ·subst h;omega
   ·exact h
  split<;>omega
theorem Ztn {n:Nat} (hn:n<=2251799813685248):Ij [I n,I 2]=some [I (Ff n),B true]:=by
 obtain⟨r,h1,h2,h3⟩:=Qu1 (n:=n) (mode:=2) (by omega) (.inr rfl)
 rw[h1,Q8 (Qr h2 h3)]
 congr 3
 by_cases c:r*r+r<n
 ·rw[if_pos (.inr ⟨rfl,c⟩),if_pos c]
 ·rw[if_neg (by simp;omega),if_neg c]
theorem Zu7 {MP MQ MD ME MV:Fn} {it:Itm} (hV:∃v,MV (Ag it)=some [B v]/\(v=true↔C_ it)) (h:C_ it)
  (hE:it.kind=3->ME (Ag it)=some [I (dU it it.fr*16),I (dW it it.fr*16),I 0,I (plH it.plane it.fr*16),I (dU it it.to*16),I (dW it it.to*16),I 0,I (plH it.plane it.to*16)])
  (hD:∀p:Pt,it.kind=3->(p=it.fr\/p=it.to)->MD [I (dU it p*16),I (dW it p*16),I 0,I (plH it.plane p*16),I (dU it p*16),I (dW it p*16),I 0,I (plH it.plane p*16)]=some [I (sq2 (dU it p*16) (dW it p*16))])
  (hQ:∀p:Pt,it.kind=3->(p=it.fr\/p=it.to)->MQ [I (sq2 (dU it p*16) (dW it p*16)),I 2]=some [I (Ff (sq2 (dU it p*16) (dW it p*16))),B true])
  (hP:it.kind=3->MP (.view DB [CF (DW it it.fr)]::CF (DW it it.fr)++CF (DW it it.to)++[B it.full,I 0,I it.dir])=some [.view DB ((Dj it).map CF),I it.dir]):
  Qdc MP MQ MD ME MV (Ag it)=if it.kind=3 then some [.view DB ((Dj it).map CF),B true]else some [.view DB [],B false]:=by
 obtain⟨v,hv,hvv⟩:=hV
 rw[Zxb]
 by_cases h3:it.kind=3
 ·have e:=hE h3
  have p:=hP h3
  have d1:=hD it.fr h3 (.inl rfl)
  have d2:=hD it.to h3 (.inr rfl)
  have q1:=hQ it.fr h3 (.inl rfl)
  have q2:=hQ it.to h3 (.inr rfl)
  simp only[List.cons_append,List.nil_append,DW,CF]at p
  simp only[go_sem,hv,e,d1,d2,q1,q2,p]
  rw[if_neg (by simp[h3]),if_neg (by simp[hvv.2 h]),if_pos h3]
 ·simp only[go_sem]
  rw[if_pos h3,if_neg h3]
theorem Zxc {it:Itm} (h:C_ it):My (Ag it)=if it.kind=3 then some [.view DB ((Dj it).map CF),B true]else some [.view DB [],B false]:=by
 have hb:it.kind=3->∀p:Pt,(p=it.fr\/p=it.to)->bd 1048576 it.ce/\bd 1048576 p:=by
  intro h3 p hp
  obtain⟨-,h1,h2,ha⟩:=h
  obtain⟨-,-,hc,-⟩:=ha h3
  rcases hp with rfl|rfl
  ·exact⟨hc,h1⟩
  ·exact⟨hc,h2⟩
 refine Zu7 (Qly it) h (fun h3=> ?_) (fun p h3 hp=> ?_) (fun p h3 hp=> ?_) fun h3=> ?_
 ·obtain⟨-,h1,h2,ha⟩:=h
  obtain⟨hp,-,hc,-⟩:=ha h3
  exact Q32 hp h1 h2 hc
 ·obtain⟨hc,hp2⟩:=hb h3 p hp
  obtain⟨g1,g2,-⟩:=Om hc hp2
  exact Z7 (Nat.le_trans g1 (by decide)) (Nat.le_trans g2 (by decide)) (Nat.le_trans g1 (by decide)) (Nat.le_trans g2 (by decide))
 ·obtain⟨hc,hp2⟩:=hb h3 p hp
  obtain⟨-,-,g3,g4⟩:=Om hc hp2
  obtain⟨n,hn⟩:=Int.eq_ofNat_of_zero_le g3
  rw[hn]at g4⊢
  exact Ztn (by omega)
 ·obtain⟨-,h1,h2,ha⟩:=h
  obtain⟨hp,hd,hc,t1,t2,-⟩:=ha h3
  have:=ZX hd 20 16 it.full (DW it it.fr) (DW it it.to) [DW it it.fr] (by omega) (by omega) (Qp6 hc h1 t1) (Qp6 hc h2 t2) (show 1+2^16<=1000000 by decide)
  exact this

theorem Zlr {u w h pl:Int} (hp:CQ pl):NT [I u,I w,I h,I pl]=some (ptR (spP pl u w h)):=by
 show Qhq Ft _=_
 have h1:=Qbp pl
 generalize Ft=M at*
 rw[Zmk]
 rcases hp with rfl|rfl|rfl
 ·have e:axI 17=(0,1,2):=rfl
  rw[e]at h1
  rw[h1];rfl
 ·have e:axI 18=(2,0,1):=rfl
  rw[e]at h1
  rw[h1];rfl
 ·have e:axI 19=(1,2,0):=rfl
  rw[e]at h1
  rw[h1];rfl
theorem Zqr {α:Type} (pre rest:List α) (x z:α):(pre++x::rest).set pre.length z=(pre++[z])++rest:=by
 rw[List.set_append_right _ _ (Nat.le_refl _),Nat.sub_self]
 simp
def DN {α:Type} (f:Nat->α) (z:α) (n i:Nat):List α:=(List.range i).map f++List.replicate (n-i) z
theorem Quo {α:Type} (f:Nat->α) (z:α) {n i:Nat} (h:i<=n):(DN f z n i).length=n:=by unfold DN;simp;omega
theorem Qv8 {α:Type} (f:Nat->α) (z:α) {n i:Nat} (h:i<n):(DN f z n i).set i (f i)=DN f z n (i+1):=by
 unfold DN
 have e:n-i=(n-(i+1))+1:=by omega
 rw[e,List.replicate_succ]
 have:=Zqr ((List.range i).map f) (List.replicate (n-(i+1)) z) z (f i)
 rw[List.length_map,List.length_range]at this
 rw[this,List.range_succ,List.map_append]
 rfl
theorem Qt9 {α:Type} (f:Nat->α) (z:α) (n:Nat):DN f z n n=(List.range n).map f:=by unfold DN;simp
theorem Zyp {α:Type} (l:List α) (d:α):(List.range l.length).map (fun i=>l.getD i d)=l:=by
 apply List.ext_getElem
 ·simp
 ·intro i h1 h2
  simp[h2]
def J0:Spk:=⟨0,0,0,0⟩
theorem Qyv {MS MP MF MK MV:Fn} {it:Itm} {l:List Spk} {cu cw:Int} (hl:l.length<=65537) (hcu:cu.natAbs<=16777216) (hcw:cw.natAbs<=16777216) (hok:∀s∈l,okS s)
  (hS:∀{u w h:Int},MS [I u,I w,I h,I it.plane]=some (ptR (spP it.plane u w h))) {f:Nat->List AC} (hf:∀i,f i=ptR (spP it.plane (cu+(l.getD i J0).u) (cw+(l.getD i J0).w) (l.getD i J0).h)):
  ∀(k i:Nat),i+k=l.length->An (Nf MS MP MF MK MV) (.view kPt (DN f [I 0,I 0,I 0] l.length i)::I cu::I cw:: .view DB (l.map CF)::I l.length::I i::Ag it)=
   some (1,[.view kPt ((List.range l.length).map f)])
 |0,i,hi=>by
  refine A7 ?_ (by simp)
  rw[Qxr]
  simp only[go_sem]
  rw[if_neg (by omega),show i=l.length by omega,Qt9]
 |k+1,i,hi=>by
  have hlt:i<l.length:=by omega
  have hs:Nf MS MP MF MK MV (.view kPt (DN f [I 0,I 0,I 0] l.length i)::I cu::I cw:: .view DB (l.map CF)::I l.length::I i::Ag it)=
    some (0, .view kPt (DN f [I 0,I 0,I 0] l.length (i+1))::I cu::I cw:: .view DB (l.map CF)::I l.length::I (i+1:Nat)::Ag it):=by
   rw[Qxr]
   have hr:nth [] (l.map CF) i=CF l[i]:=Ik _ _ _ _ hlt
   have ho:=hok _ (List.getElem_mem hlt)
   have hfl:=Quo f [I 0,I 0,I 0] (show i<=l.length by omega)
   have hfi:=hf i
   rw[show l.getD i J0=l[i] by simp[hlt]]at hfi
   have hset:=Qv8 f [I 0,I 0,I 0] hlt
   rw[hfi]at hset
   generalize l[i]=s at*
   obtain⟨s1,s2,-⟩:=ho
   simp only[go_sem,Int.toNat_natCast,List.length_map,hr]
   rw[if_pos (by omega),if_pos (by omega),Ae (x:=cu+s.u) (by omega),Ae (x:=cw+s.w) (by omega),Ae (x:=(i:Int)+1) (by omega)]
   simp only[hS,go_sem,hfl]
   rw[if_pos (by omega),hset]
   rfl
  rw[Bt hs]
  exact Qyv hl hcu hcw hok hS hf k (i+1) (by omega)
theorem Zey {MS MP MF MK MV:Fn} {N:Lp} {it:Itm} {S:List Spk} {C:Rw} {f:Pt} {u w h:Int} (hv:MV (Ag it)=some [B true])
  (hK:MK (Ag it)=some [.view DB (S.map CF),B true]) (hf:MF [I it.ce.x,I it.ce.y,I it.ce.z]=some (ptR f)) (hpp:MP [I f.x,I f.y,I f.z,I it.plane]=some [I u,I w,I h]) (hS:S.length<=65537)
  (hN:N [.view kPt (List.replicate S.length [I 0,I 0,I 0]),I u,I w, .view DB (S.map CF),I S.length,I 0,I it.kind,I it.block,I it.fr.x,I it.fr.y,I it.fr.z,I it.to.x,I it.to.y,I it.to.z,I it.plane,I it.ce.x,I it.ce.y,I it.ce.z,I it.dir,B it.full,I it.feed,B it.perRev,I it.side,I it.radius,I it.blend,I it.n,I it.speed,B it.on]=some (1,[.view kPt C])):
  Sg MS MP MF MK MV N (Ag it)=some [.view kPt C,B true]:=by
 rw[W0]
 simp only[go_sem,hv,hK,hf,hpp,List.length_map,Int.toNat_natCast,hN]
 rw[if_neg (by simp),if_neg (by simp),if_pos (by omega)]
theorem Zbx {MS MP MF MK MV:Fn} {it:Itm} (hV:∃v,MV (Ag it)=some [B v]/\(v=true↔C_ it)) (h:C_ it)
  (hK:MK (Ag it)=if it.kind=3 then some [.view DB ((Dj it).map CF),B true]else some [.view DB [],B false])
  (hF:∀{p:Pt},bd 100000000 p->MF [I p.x,I p.y,I p.z]=some (ptR (Ax p))) (hP:CQ it.plane->∀{p:Pt},MP [I p.x,I p.y,I p.z,I it.plane]=some [I (plU it.plane p),I (plW it.plane p),I (plH it.plane p)])
  (hS:CQ it.plane->∀{u w h:Int},MS [I u,I w,I h,I it.plane]=some (ptR (spP it.plane u w h))):
  Sg MS MP MF MK MV (An (Nf MS MP MF MK MV)) (Ag it)=some [.view kPt ((Cs it).map ptR),B true]:=by
 obtain⟨v,hv,hvv⟩:=hV
 rw[W0]
 have hv1:=hvv.2 h
 subst hv1
 obtain⟨-,h1,h2,ha⟩:=id h
 by_cases h3:it.kind=3
 ·obtain⟨hp,hd,hc,-⟩:=ha h3
  rw[if_pos h3]at hK
  obtain⟨c1,c2,c3⟩:=Hh (pl:=it.plane) (EP hc)
  have hsl:=(Qyj it).2
  have hl:=Qyv (MS:=MS) (MP:=MP) (MF:=MF) (MK:=MK) (MV:=MV) (it:=it) (l:=Dj it) (cu:=plU it.plane (Ax it.ce)) (cw:=plW it.plane (Ax it.ce)) hsl c1 c2 (Q0b h h3) (hS hp)
   (f:=fun i=>ptR (IG it ((Dj it).getD i J0))) (fun _=>rfl) (Dj it).length 0 (by omega)
  have hres:(List.range (Dj it).length).map (fun i=>ptR (IG it ((Dj it).getD i J0)))=((Dj it).map (IG it)).map ptR:=by
   rw[List.map_map]
   conv=>rhs;rw[<-Zyp (Dj it) J0]
   rw[List.map_map]
   rfl
  rw[hres]at hl
  have hf0:DN (fun i=>ptR (IG it ((Dj it).getD i J0))) [I 0,I 0,I 0] (Dj it).length 0=List.replicate (Dj it).length [I 0,I 0,I 0]:=by unfold DN;simp
  rw[hf0]at hl
  have hf:=hF (AU hc (by decide))
  have hpp:= @hP hp (Ax it.ce)
  have:=Zey (MS:=MS) (N:=An (Nf MS MP MF MK MV)) hv hK hf hpp hsl hl
  rw[W0]at this
  unfold Cs
  rw[if_pos h3]
  exact this
 ·rw[if_neg h3]at hK
  have f1:=hF (AU h1 (by decide))
  have f2:=hF (AU h2 (by decide))
  unfold Cs
  rw[if_neg h3]
  simp only[go_sem,hv,hK,f1,f2]
  simp
theorem Zqu {it:Itm} (h:C_ it):Ov (Ag it)=some [.view kPt ((Cs it).map ptR),B true]:=
 Zbx (Qly it) h (Zxc h) Qss (fun hp=>Qro hp) (fun hp=>Zlr hp)
end Go.Bm
