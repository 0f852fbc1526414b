/- The abstract machine, second form: 'funK' is sound: what it gives is what the call gives. -/
import Derived.Test.YtommijghjlikkaaGreatBmAny
import Derived.Test.YtommijghjlikkaaGreatBmSk
set_option linter.unusedVariables false
set_option linter.unusedSimpArgs false
namespace Go.Bm
open Go.RowKit
section
variable {P:Program} {C:Cfg} {w:World} {R:Type} {Z:Base}
theorem Zc4 {c a:Bool} (h:(bif c then a else false)=true):c=true/\a=true:=by cases c<;>simp at h;exact⟨rfl,h⟩
theorem Qqk {ops:Array Oper} {m:List Nat}:∀(ps earlier:List (Nat×Oper×Option Prim)) (i:Nat),ps.map (·.1)=List.range' i ps.length->JG C ops m i earlier (ps.map (·.2))=true->
  ∀pre x post,ps=pre++x::post->(C7 ops.toList m x.1||Prim.simple x.2.2)=true/\(∀e∈x.2.1.after,Region.binds .any e=true->e.on<x.1)/\
   ∀y∈earlier++pre,LF m x.1 y.1=true\/(C7 ops.toList m x.1=false/\C7 ops.toList m y.1=false/\Oper.apart ops y.2.1 x.2.1=true/\Prim.meet C.ro y.2.2 x.2.2=false/\Il y.2.1 y.2.2 x.2.1 x.2.2=true)
 |[],earlier,i,_,_,pre,x,post,h=>by simp at h
 |(j,o,p)::ps,earlier,i,hidx,hok,pre,x,post,h=>by
  simp only[List.map_cons,List.length_cons,List.range'_succ,List.cons.injEq]at hidx;obtain⟨rfl,hidx⟩:=hidx;simp only[List.map_cons,JG]at hok;generalize hc:((C7 ops.toList m j||Prim.simple p)&&o.after.toList.all (fun e=> !(Region.binds .any e)||Nat.blt e.on j)&&Aj (fun y:Nat×Oper×Option Prim=>LF m j y.1||(!(C7 ops.toList m j)&& !(C7 ops.toList m y.1)&&(Oper.apart ops y.2.1 o&& !(Prim.meet C.ro y.2.2 p)&&Il y.2.1 y.2.2 o p))) earlier)=c at hok;cases c
  ·simp at hok
  ·simp only[cond_true]at hok;simp only[Bool.and_eq_true]at hc;obtain⟨⟨c1,c2⟩,c3⟩:=hc;cases pre with
   |nil=>
    simp at h;obtain⟨rfl,rfl⟩:=h;refine⟨c1,fun e he hb=> ?_,fun y hy=> ?_⟩
    ·have:=List.all_eq_true.1 c2 e (by simpa using he);rw[hb]at this;simpa using this
    ·simp at hy;have:=Av.1 c3 y hy;rw[Bool.or_eq_true]at this;simp only[Bool.and_eq_true,Bool.not_eq_true']at this;rcases this with h|⟨⟨w1,w2⟩,⟨h1,h2⟩,h3⟩
     ·exact .inl h
     ·exact .inr ⟨w1,w2,h1,h2,h3⟩
   |cons q pre=>
    simp at h;obtain⟨rfl,rfl⟩:=h;obtain⟨h1,h2,h3⟩:=Qqk (pre++x::post) (earlier++[(j,o,p)]) (j+1) hidx hok pre x post rfl;refine⟨h1,h2,fun y hy=>h3 y ?_⟩;simpa using hy
theorem Q0j {ops:Array Oper} {m:List Nat}:∀(l:List (Oper×Option Prim)) (earlier:List (Nat×Oper×Option Prim)) (i:Nat),JG C ops m i earlier l=true->∀(j:Nat) (q:Oper×Option Prim),l[j]? =some q->(C7 ops.toList m (i+j)||Prim.simple q.2)=true
 |[],_,_,_,j,q,hq=>by simp at hq
 |(o,p)::l,earlier,i,h,j,q,hq=>by
  simp only[JG]at h;obtain⟨hc,h⟩:=Zc4 h;simp only[Bool.and_eq_true]at hc;cases j with
  |zero=>simp at hq;subst hq;exact hc.1.1
  |succ j=>
   rw[show i+(j+1)=i+1+j from by omega];exact Q0j l _ _ h j q (by simpa using hq)
theorem Rel.drew {s:St} {tmps:Array Value} (h:Rel Z s tmps w):Rel Z s tmps {w with drawn:=w.drawn+1}:=by
 obtain⟨ρ,h⟩:=h;have hcc:∀(a:AC) (x:Value),CC ρ w a x->CC ρ {w with drawn:=w.drawn+1} a x:=fun a x hx=>CC.mono (w:=w) (w':={w with drawn:=w.drawn+1}) (fun _ h=>h) (fun _ _=>rfl) a x (AC.agree_refl rfl rfl rfl a) hx;refine⟨ρ,h.tl,fun i v hi=>TVR.mono hcc v _ (h.tv i v hi),h.wt,h.wb,?_,h.bi,?_,h.ri,h.br,h.ib,h.fr.drew,h.fs,h.i0,h.i1,h.k0⟩
 ·intro k b hk;obtain⟨arr,q1,q2,q3⟩:=h.bx k b hk;exact⟨arr,q1,q2.mono fun a _ x hx=>hcc a x hx,q3⟩
 ·intro id r hr;obtain⟨q1,q2,q0,xs,q3,q4⟩:=h.ro id r hr;exact⟨q1,q2,q0,xs,Ko q3 (fun _ _=>rfl),RowC.mono (w:=w) (fun _ h=>h) (fun _ _=>rfl) q4⟩
theorem Zy7 (hspec:Ai P C) (hok:∀t∈C.eqOk,P.stoodInHeld t=false) (hmix:P.follows .mixedOrders=true) {id:Nat} {ops:Array Oper} {draw:Bool} {s:St} {a:Act} (hR:Rel Z s a.tmps w) {K:St->Option R} {r:R}
  (h:Wa P C ops draw s K=some r) {Q:Exit->Act->World->Prop} (hq:∀(s':St) (a':Act) (w':World),K s'=some r->Rel Z s' a'.tmps w'->a'.defers=a.defers->Q .normal a' w'):
  (Code.region id ops draw).wp P Q a w:=by
 cases draw
 ·exact wp_region_list (Q6t hspec hok _ s a w hR h hq)
 ·simp only[Wa,cond_true]at h;refine wp_region_any hmix ?_;obtain⟨m,h,hm⟩:=Qwz (ops:=ops.toList) ops.toList [] [] rfl rfl (fun i j hi=>by simp at hi) h;rcases Qnc hspec ops.toList 0 s _ r h with⟨ps,sf,q1,q2,q3,q4⟩|⟨acc,sf,q1,j,q,q2,q3⟩
  ·cases hd:JG C ops m 0 [] (ps.map (·.2))<;>rw[hd]at q4
   ·simp at q4
   ·simp only[cond_true]at q4;have hlen:ps.length=ops.size:=by have:=congrArg List.length q1;simpa using this
    have hidx:ps.map (·.1)=List.range' 0 ps.length:=by rw[q2];simp[hlen]
    have hsp:=Qqk ps [] 0 hidx hd;have hpos:∀(i:Nat) (x:Nat×Oper×Option Prim),ps[i]? =some x->x.1=i/\ops[i]? =some x.2.1:=by
     intro i x hx;have h1:(ps.map (·.1))[i]? =some x.1:=by simp[hx]
     have h2:(ps.map (·.2.1))[i]? =some x.2.1:=by simp[hx]
     rw[hidx,List.getElem?_range']at h1;rw[q1]at h2
     ·simp at h1;exact⟨by omega,by simpa using h2⟩
     ·exact(List.getElem?_eq_some_iff.1 hx).1
    refine Qxg hspec hok (m:=m) (sf:=sf) (d0:=a.defers) (fun a' w' hR' hd'=>hq sf a' w' q4 hR' hd') ops.size _ ps s a _ hlen ?_ q3 hR.wf hR.drew rfl;refine⟨by simp,fun x hx=> ?_,fun i hi=> ?_,?_,?_,?_⟩
    ·obtain⟨pre,post,hs⟩:=List.append_of_mem hx;obtain⟨c1,c2,_⟩:=hsp pre x post hs;obtain⟨i,hi⟩:=List.getElem?_of_mem hx;obtain⟨p1,p2⟩:=hpos i x hi;exact⟨by rw[p1];exact p2,c1,c2⟩
    ·constructor
     ·intro _;have hlt:i<ps.length:=by omega
      exact⟨ps[i],List.getElem_mem hlt,(hpos i ps[i] (List.getElem?_eq_getElem hlt)).1⟩
     ·intro _;simp[Array.getD,hi]
    ·rw[hidx];exact List.pairwise_lt_range'
    ·intro j o hj hl;have hlt:j<ops.size:=(Array.getElem?_eq_some_iff.1 hj).1;simp[Array.getD,hlt]at hl
    ·intro pre x post hs y hy;rcases(hsp pre x post hs).2.2 y (by simpa using hy)with h1|h1
     ·exact .inl (hm _ _ h1)
     ·exact .inr h1
  ·cases hd:JG C ops m 0 [] acc<;>rw[hd]at q1
   ·simp at q1
   ·have:=Q0j acc [] 0 hd j q q2;rw[q3]at this;simp at this
def OE:Ex->Exit
 | .normal=> .normal
 | .exit id=> .exit id
 | .ret=> .ret
def IK (Z:Base) (K:Ex->St->Option R) (r:R) (d:List Deferred):Exit->Act->World->Prop:=
 fun e a w=>∃ae s,OE ae=e/\K ae s=some r/\Rel Z s a.tmps w/\a.defers=d
theorem Q36 {step:St->(Ex->St->Option R)->Option R} {body:Code} {K:Ex->St->Option R} {r:R} {d:List Deferred}
  (hstep:∀(s:St) (a:Act) (w:World) (K':Ex->St->Option R),Rel Z s a.tmps w->a.defers=d->step s K'=some r->body.wp P (IK Z K' r d) a w):
  ∀(n:Nat) (s:St) (a:Act) (w:World),Rel Z s a.tmps w->a.defers=d->Pm P C step n s K=some r->Code.rounds P body (IK Z K r d) n a w
 |0,s,a,w,hR,hd,h=>by simp[Pm]at h
 |n+1,s,a,w,hR,hd,h=>by
  rw[Pm]at h;rw[rounds_succ];refine wp_mono (hstep s a w _ hR hd h) ?_;rintro e a' w' ⟨ae,s2,rfl,hK,hR2,hd2⟩;cases ae with
  |normal=>
   obtain⟨st,ht,hRt⟩:=Qf hR2 hK;exact Q36 hstep n st a' w' hRt hd2 ht
  |exit id=>exact⟨.exit id,s2,rfl,hK,hR2,hd2⟩
  |ret=>exact⟨.ret,s2,rfl,hK,hR2,hd2⟩
def InZ (Z:Base):Prop:=∀k b,Z.K0 k=some b->F0 k=true
def Iy (P:Program) (c:Code) (sk:Sk) (g:J6):Prop:=
 ∀(Z:Base) (_:InZ Z) (a:Act) (w:World) (vars:List AC) (R:Type) (K:Ex->St->Option R) (r:R),Rel Z (Bn sk vars) a.tmps w->g R vars K=some r->c.wp P (IK Z K r a.defers) a w
structure SubOK (P : Program) (C : Cfg) (c : Code) (blk : Nat) : Prop where
 l:∀p∈AH c blk,∀sk g,C.loops p.1=some (sk,g)->Iy P (.loop p.2) sk g
 b:∀p∈AW c,∀sk g,C.blocks p.1=some (sk,g)->Iy P (.block p.1 p.2) sk g
 c:∀p∈A2 c blk,∀sk g,C.conds p.1=some (sk,g)->Iy P (.cond (.tmp p.1) p.2.2.1 p.2.2.2) sk g
theorem H1:∀(c:Code) (b b':Nat),AH c b=AH c b'
 | .seq x y,b,b'=>by simp only[AH,H1 x b b',H1 y b b']
 | .cond _ x y,b,b'=>by simp only[AH,H1 x b b',H1 y b b']
 | .block _ x,b,b'=>by simp only[AH,H1 x b b']
 | .loop x,b,b'=>by simp only[AH,H1 x b b']
 | .skip,_,_=>rfl
 | .region _ _ _,_,_=>rfl
 | .exit _,_,_=>rfl
 | .ret,_,_=>rfl
 | .rangeFunc _ _ _ _,_,_=>rfl
 | .scope x,b,b'=>by simp only[AH,H1 x b b']
 | .label _,_,_=>rfl
 | .goto _,_,_=>rfl
 | .refuse _,_,_=>rfl
theorem HN:∀(c:Code) (b b':Nat),A2 c b=A2 c b'
 | .seq x y,b,b'=>by simp only[A2,HN x b b',HN y b b']
 | .cond c x y,b,b'=>by cases c<;>simp only[A2,HN x b b',HN y b b']
 | .block _ x,b,b'=>by simp only[A2,HN x b b']
 | .loop x,b,b'=>by simp only[A2,HN x b b']
 | .skip,_,_=>rfl
 | .region _ _ _,_,_=>rfl
 | .exit _,_,_=>rfl
 | .ret,_,_=>rfl
 | .rangeFunc _ _ _ _,_,_=>rfl
 | .scope x,b,b'=>by simp only[A2,HN x b b']
 | .label _,_,_=>rfl
 | .goto _,_,_=>rfl
 | .refuse _,_,_=>rfl
theorem SubOK.any {c:Code} (b:Nat) {b':Nat} (h:SubOK P C c b):SubOK P C c b':=
 ⟨fun p hp=>h.l p (by rw[H1 c b b'];exact hp),h.b,fun p hp=>h.c p (by rw[HN c b b'];exact hp)⟩
theorem Zg {c:Code} {told:Option (Sk×J6)} {s:St} {a:Act} {K:Ex->St->Option R} {r:R} {d:List Deferred} {run:Option R} (hZ:InZ Z)
  (ht:∀sk g,told=some (sk,g)->Iy P c sk g) (hR:Rel Z s a.tmps w) (hd:a.defers=d) (h:PX told s K run=some r) (hrun:run=some r->c.wp P (IK Z K r d) a w):c.wp P (IK Z K r d) a w:=by
 unfold PX at h;split at h
 ·exact hrun h
 ·rename_i sk g;obtain⟨hok,h2⟩:=BQ h;split at h2
  ·rename_i vars hv;obtain⟨ρ,hR⟩:=hR;obtain⟨tm,boxes,rows⟩:=s;subst hd;exact ht sk g rfl Z hZ a w vars R K r ⟨ρ,hR.rebuild hZ hok hv⟩ h2
  ·simp at h2
theorem Q1y {ρ:Env} {d:Nat} {a:AC} {x:Value} (h:CC ρ w a x):CC ρ w (a.killP d) x:=by
 cases a with
 |ptr k o=>simp only[AC.killP];cases Nat.beq k d<;>first|exact h|exact h.one
 |bsl k o=>simp only[AC.killP];cases Nat.beq k d<;>first|exact h|exact h.one
 |clo f fs cs=>simp only[AC.killP];cases(Aj (Jr d) fs&&Aj (Jr d) cs)<;>first|exact h|exact h.one
 |_=>exact h
theorem R1 {ρ:Env} {f:AC->AC} (hf:∀(a:AC) (x:Value),CC ρ w a x->CC ρ w (f a) x):∀{l:List AC} {xs:List Value},CL (CC ρ w) l xs->CL (CC ρ w) (l.map f) xs
 |[],[],_=>trivial
 |_::_,_::_,h=>⟨hf _ _ h.1,R1 hf h.2⟩
 |[],_::_,h=>h.elim
 |_::_,[],h=>h.elim
theorem Z0b {ρ:Env} {f:AC->AC} (hf:∀(a:AC) (x:Value),CC ρ w a x->CC ρ w (f a) x) {v:TV} {x:Value} (h:TVR ρ w v x):TVR ρ w (v.mapC f) x:=by
 cases v with
 |dead=>trivial
 |tup ps=>
  obtain⟨ys,rfl,hy⟩:=h;refine⟨ys,rfl,?_⟩;generalize ys.toList=l at hy;induction ps generalizing l with
  |nil=>cases l<;>first|exact hy|exact hy.elim
  |cons p ps ih=>
   cases l with
   |nil=>exact hy.elim
   |cons y l=>
    obtain⟨g,cs⟩:=p;refine⟨?_,ih l hy.2⟩;have:=hy.1;cases g
    ·obtain⟨a,h1,ha⟩:=this;subst h1;exact⟨_,rfl,hf _ _ ha⟩
    ·obtain⟨zs,h1,hz⟩:=this;exact⟨zs,h1,R1 hf hz⟩
 |v g cs=>
  cases g
  ·obtain⟨a,rfl,ha⟩:=h;exact⟨_,rfl,hf _ _ ha⟩
  ·obtain⟨ys,rfl,hy⟩:=h;exact⟨ys,rfl,R1 hf hy⟩
theorem RelE.forget {tm:List TV} {boxes:List (Nat×Box)} {rows:List (Nat×Row)} {ρ:Env} {tmps:Array Value} (h:RelE Z tm boxes rows ρ tmps w) {d:Nat} (hd:∀b,Z.K0 d≠some b):
  RelE Z (tm.map (TV.mapC (AC.killP d))) ((del d boxes).map fun p=>(p.1,(⟨p.2.ty,p.2.cells.map (AC.killP d)⟩:Box))) rows ρ tmps w:=by
 have hlk:∀k,Ab ((del d boxes).map fun p=>(p.1,(⟨p.2.ty,p.2.cells.map (AC.killP d)⟩:Box))) k=(Ab (del d boxes) k).map fun b=>⟨b.ty,b.cells.map (AC.killP d)⟩:=fun k=>F_ (fun b:Box=>(⟨b.ty,b.cells.map (AC.killP d)⟩:Box)) _ k;have hlk':∀(k:Nat) (b:Box),Ab ((del d boxes).map fun p=>(p.1,(⟨p.2.ty,p.2.cells.map (AC.killP d)⟩:Box))) k=some b->k≠d/\∃b',Ab boxes k=some b'/\b=⟨b'.ty,b'.cells.map (AC.killP d)⟩:=by
  intro k b hk;rw[hlk]at hk;simp only[Option.map_eq_some_iff]at hk;obtain⟨b',h1,rfl⟩:=hk;obtain⟨h2,h3⟩:=LC h1;exact⟨h2,b',h3,rfl⟩
 have hbx:∀(k:Nat) (b:Box),k≠d->Ab boxes k=some b->∃b',Ab ((del d boxes).map fun p=>(p.1,(⟨p.2.ty,p.2.cells.map (AC.killP d)⟩:Box))) k=some b':=fun k b hne hk=>⟨_,by rw[hlk,Lg _ _ _ hne,hk];rfl⟩;have hnp:∀a,Jr d a=true->AC.wfP boxes a->AC.wfP ((del d boxes).map fun p=>(p.1,(⟨p.2.ty,p.2.cells.map (AC.killP d)⟩:Box))) a:=by
  intro a hn ha;cases a<;>try exact trivial
  rename_i k o;obtain⟨b,hb⟩:=ha;simp only[Jr,Bool.not_eq_true']at hn;exact hbx k b (Gs hn) hb
 have hwf:∀a,AC.wf boxes rows a->AC.wf ((del d boxes).map fun p=>(p.1,(⟨p.2.ty,p.2.cells.map (AC.killP d)⟩:Box))) rows (a.killP d):=by
  intro a ha;cases a with
  |ptr k o=>
   simp only[AC.killP];cases hk:Nat.beq k d
   ·obtain⟨b,hb⟩:=ha;exact hbx k b (Gs hk) hb
   ·exact trivial
  |bsl k o=>
   simp only[AC.killP];cases hk:Nat.beq k d
   ·obtain⟨b,hb⟩:=ha;exact hbx k b (Gs hk) hb
   ·exact trivial
  |clo f fs cs=>
   simp only[AC.killP];cases hc:(Aj (Jr d) fs&&Aj (Jr d) cs)
   ·exact trivial
   ·simp only[Bool.and_eq_true]at hc;exact⟨fun a h'=>hnp a (Av.1 hc.1 a h') (ha.1 a h'),fun a h'=>hnp a (Av.1 hc.2 a h') (ha.2 a h')⟩
  |_=>exact ha
 refine⟨by simpa using h.tl,?_,?_,?_,?_,?_,h.ro,h.ri,?_,?_,h.fr,h.fs,h.i0,h.i1,?_⟩
 ·intro i v hi;simp only[List.getElem?_map,Option.map_eq_some_iff]at hi;obtain⟨u,hu,rfl⟩:=hi;exact Z0b (fun _ _=>Q1y) (h.tv i u hu)
 ·intro v hv;simp only[List.mem_map]at hv;obtain⟨u,hu,rfl⟩:=hv;have:=h.wt u hu;cases u with
  |dead=>trivial
  |v g cs=>
   intro a ha;simp only[List.mem_map]at ha;obtain⟨c,hc,rfl⟩:=ha;exact hwf c (this c hc)
  |tup ps=>
   intro p hp a ha;simp only[List.mem_map]at hp;obtain⟨q,hq,rfl⟩:=hp;simp only[List.mem_map]at ha;obtain⟨c,hc,rfl⟩:=ha;exact hwf c (this q hq c hc)
 ·intro k b hk a ha;obtain⟨_,b',hb',rfl⟩:=hlk' k b hk;simp only[List.mem_map]at ha;obtain⟨c,hc,rfl⟩:=ha;exact hwf c (h.wb k b' hb' c hc)
 ·intro k b hk;obtain⟨_,b',hb',rfl⟩:=hlk' k b hk;obtain⟨arr,h1,h2,h3⟩:=h.bx k b' hb';exact⟨arr,h1,R1 (fun _ _=>Q1y) h2,h3⟩
 ·intro k k' b b' hk hk';obtain⟨_,_,p1,_⟩:=hlk' k b hk;obtain⟨_,_,p2,_⟩:=hlk' k' b' hk';exact h.bi k k' _ _ p1 p2
 ·intro k b j q hk hq;obtain⟨_,_,p1,_⟩:=hlk' k b hk;exact h.br k _ j q p1 hq
 ·intro b hb;obtain⟨q1,q2,q3⟩:=h.ib b hb;exact⟨q1,fun k bo hk=>by obtain⟨_,_,p,_⟩:=hlk' k bo hk;exact q2 k _ p,q3⟩
 ·intro k b hk;obtain⟨p1,bo,p2⟩:=h.k0 k b hk;exact⟨p1,hbx k bo (by rintro rfl;exact hd b hk) p2⟩
theorem ZB (hZ:InZ Z) {tmps:Array Value} {K:St->Option R} {r:R}:∀(l:List Nat) (s:St),Rel Z s tmps w->OH l s K=some r->∃s',K s'=some r/\Rel Z s' tmps w
 |[],s,hR,h=>⟨s,h,hR⟩
 |d::l,⟨tm,boxes,rows⟩,hR,h=>by
  simp only[OH]at h;split at h
  ·exact ZB hZ l _ hR h
  ·cases hd:F0 d<;>rw[hd]at h
   ·simp only[cond_false,A0]at h;obtain⟨ρ,hR⟩:=hR;exact ZB hZ l _ ⟨ρ,hR.forget (d:=d) fun b hb=>by rw[hZ d b hb]at hd;cases hd⟩ h
   ·simp at h
theorem GH (hspec:Ai P C) (hok:∀t∈C.eqOk,P.stoodInHeld t=false) (hmix:P.follows .mixedOrders=true) (hZ:InZ Z) {r:R} {d:List Deferred}:
  ∀(c:Code) (L blk:Nat) (s:St) (a:Act) (w:World) (K:Ex->St->Option R),SubOK P C c blk->Rel Z s a.tmps w->a.defers=d->C2 P C L c blk s K=some r->c.wp P (IK Z K r d) a w
 | .skip,L,blk,s,a,w,K,hl,hR,hd,h=>wp_skip ⟨.normal,s,rfl,h,hR,hd⟩
 | .region id ops draw,L,blk,s,a,w,K,hl,hR,hd,h=>by
  rw[C2]at h;obtain⟨s0,h,hR⟩:=ZB hZ _ s hR h;exact Zy7 hspec hok hmix hR h fun s' a' w' hK hR' hd'=>⟨.normal,s',rfl,hK,hR',hd'.trans hd⟩
 | .seq x y,L,blk,s,a,w,K,hl,hR,hd,h=>by
  rw[C2]at h;refine wp_seq (wp_mono (GH hspec hok hmix hZ x L blk s a w _ ⟨fun p hp=>hl.l p (by simp[AH,hp]),fun p hp=>hl.b p (by simp[AW,hp]),fun p hp=>hl.c p (by simp[A2,hp])⟩ hR hd h) ?_);rintro e a' w' ⟨ae,s',rfl,hK,hR',hd'⟩;cases ae with
  |normal=>exact GH hspec hok hmix hZ y L blk s' a' w' K ⟨fun p hp=>hl.l p (by simp[AH,hp]),fun p hp=>hl.b p (by simp[AW,hp]),fun p hp=>hl.c p (by simp[A2,hp])⟩ hR' hd' hK
  |exit id=>exact⟨.exit id,s',rfl,hK,hR',hd'⟩
  |ret=>exact⟨.ret,s',rfl,hK,hR',hd'⟩
 | .cond c x y,L,blk,s,a,w,K,hl,hR,hd,h=>by
  have hx:SubOK P C x blk:=⟨fun p hp=>hl.l p (by simp[AH,hp]),fun p hp=>hl.b p (by simp[AW,hp]),fun p hp=>hl.c p (by cases c<;>simp[A2,hp])⟩;have hy:SubOK P C y blk:=⟨fun p hp=>hl.l p (by simp[AH,hp]),fun p hp=>hl.b p (by simp[AW,hp]),fun p hp=>hl.c p (by cases c<;>simp[A2,hp])⟩;rw[C2]at h;refine Zg (c:= .cond c x y) hZ ?_ hR hd h fun h2=> ?_
  ·intro sk g ht;unfold Q1w at ht;split at ht
   ·rename_i t;exact hl.c (t,0,x,y) (by simp[A2]) sk g ht
   ·simp at ht
  ·split at h2
   ·rename_i g hg;have hc:a.eval c= .bool g:=by
     obtain⟨ρ,hRE⟩:=hR;have:=Qqj hRE c;rw[hg]at this;exact this.bool
    refine wp_cond hc ?_;split at h2
    ·rename_i t;have hlb:∀b,g=b->Rel Z ⟨setL s.tmps t (.c (.bool b)),s.boxes,s.rows⟩ a.tmps w:=by
      rintro b rfl;obtain⟨ρ,hRE⟩:=hR;exact⟨ρ,hRE.learn t (by have e:a.tmps.getD t undef= .bool g:=hc;rw[e];exact TVR.mkBool _) (IB _)⟩
     cases g
     ·simp only[cond_false]at h2;rw[Fi]at h2;exact GH hspec hok hmix hZ y L blk _ a w K hy (hlb false rfl) hd h2
     ·simp only[cond_true]at h2;rw[Fi]at h2;exact GH hspec hok hmix hZ x L blk _ a w K hx (hlb true rfl) hd h2
    ·cases g
     ·exact GH hspec hok hmix hZ y L blk s a w K hy hR hd h2
     ·exact GH hspec hok hmix hZ x L blk s a w K hx hR hd h2
   ·simp at h2
 | .block id body,L,blk,s,a,w,K,hl,hR,hd,h=>by
  have hb:SubOK P C body id:=SubOK.any blk ⟨fun p hp=>hl.l p (by simp[AH,hp]),fun p hp=>hl.b p (by simp[AW,hp]),fun p hp=>hl.c p (by simp[A2,hp])⟩;rw[C2]at h;refine Zg (c:= .block id body) hZ (hl.b (id,body) (by simp[AW])) hR hd h fun h2=> ?_;refine wp_block (wp_mono (GH hspec hok hmix hZ body L id s a w _ hb hR hd h2) ?_);rintro e a' w' ⟨ae,s',rfl,hK,hR',hd'⟩;cases ae with
  |normal=>exact⟨.normal,s',rfl,hK,hR',hd'⟩
  |exit i=>
   simp only[OE,Exit.inBlock];dsimp only at hK;cases hb:Nat.beq i id<;>rw[hb]at hK
   ·have:i≠id:=fun e=>by rw[e]at hb;simp at hb
    rw[if_neg this];exact⟨.exit i,s',rfl,hK,hR',hd'⟩
   ·rw[if_pos (Nat.eq_of_beq_eq_true hb)];exact⟨.normal,s',rfl,hK,hR',hd'⟩
  |ret=>exact⟨.ret,s',rfl,hK,hR',hd'⟩
 | .loop body,L,blk,s,a,w,K,hl,hR,hd,h=>by
  rw[C2]at h;obtain⟨s',h',hR'⟩:=Rx _ s a.tmps hR _ r h;obtain⟨s1,h1,hR1⟩:=Qf hR' h';have hb:SubOK P C body blk:=⟨fun p hp=>hl.l p (by simp[AH,hp]),fun p hp=>hl.b p (by simp[AW,hp]),fun p hp=>hl.c p (by simp[A2,hp])⟩;refine Zg (c:= .loop body) hZ (hl.l (RJ body,body) (by simp[AH])) hR1 hd h1 fun h2=> ?_;exact wp_loop_rounds L (Q36 (fun s a w K' hR hd h=>GH hspec hok hmix hZ body L blk s a w K' hb hR hd h) L s1 a w hR1 hd h2)
 | .exit id,L,blk,s,a,w,K,hl,hR,hd,h=>wp_exit ⟨.exit id,s,rfl,h,hR,hd⟩
 | .ret,L,blk,s,a,w,K,hl,hR,hd,h=>wp_ret ⟨.ret,s,rfl,h,hR,hd⟩
 | .rangeFunc f ps asg body,L,blk,s,a,w,K,hl,hR,hd,h=>by simp[C2]at h
 | .scope b,L,blk,s,a,w,K,hl,hR,hd,h=>by
  rw[C2]at h;refine wp_scope_straight (wp_mono (GH hspec hok hmix hZ b L blk s a w K ⟨fun p hp=>hl.l p (by simp[AH,hp]),fun p hp=>hl.b p (by simp[AW,hp]),fun p hp=>hl.c p (by simp[A2,hp])⟩ hR hd h) ?_);rintro e a' w' ⟨ae,s',rfl,hK,hR',hd'⟩;cases ae with
  |normal=>exact⟨.normal,s',rfl,hK,hR',hd'⟩
  |exit i=>exact⟨.exit i,s',rfl,hK,hR',hd'⟩
  |ret=>exact⟨.ret,s',rfl,hK,hR',hd'⟩
 | .label l,L,blk,s,a,w,K,hl,hR,hd,h=>by
  rw[C2]at h;exact wp_label ⟨.normal,s,rfl,h,hR,hd⟩
 | .goto l,L,blk,s,a,w,K,hl,hR,hd,h=>by simp[C2]at h
 | .refuse why,L,blk,s,a,w,K,hl,hR,hd,h=>by simp[C2]at h
theorem Zry {e e':Ex} (h:RT e e'=true):e=e':=by
 cases e<;>cases e'<;>simp only[RT]at h<;>first|rfl|(simp at h;done)|(rw[Nat.eq_of_beq_eq_true h])
theorem Qli {s:St} {e':Ex} {tmps:Array Value} (hZ:InZ Z) (hR:Rel Z s tmps w):∀{exits:List (Ex×Sk)} {i n:Nat} {o:List AC},GR exits i e' s=some (n,o)->
  i<=n/\∃sk,(∀(R:Type) (K:Ex->St->Option R),Qc o K exits i n=K e' (Bn sk o))/\Rel Z (Bn sk o) tmps w
 |[],i,n,o,h=>by simp[GR]at h
 |(e,sk)::l,i,n,o,h=>by
  simp only[GR]at h;cases hb:(RT e e'&&sk.okB)<;>rw[hb]at h
  ·simp only[cond_false]at h;obtain⟨h1,sk',h2,h3⟩:=Qli hZ hR h;refine⟨by omega,sk',fun R K=> ?_,h3⟩;simp only[Qc];rw[JY (by omega)];exact h2 R K
  ·simp only[cond_true]at h;simp only[Bool.and_eq_true]at hb;split at h
   ·rename_i vars hv;simp at h;obtain⟨rfl,rfl⟩:=h;refine⟨Nat.le_refl _,sk,fun R K=> ?_,?_⟩
    ·simp only[Qc,Nat.beq_refl,cond_true];rw[Zry hb.1]
    ·obtain⟨ρ,hR⟩:=hR;obtain⟨tm,boxes,rows⟩:=s;exact⟨ρ,hR.rebuild hZ hb.2 hv⟩
   ·simp at h
theorem Zd6 (hspec:Ai P C) (hok:∀t∈C.eqOk,P.stoodInHeld t=false) (hmix:P.follows .mixedOrders=true) {L blk:Nat} {body:Code} {sk:Sk} {exits:List (Ex×Sk)} {m:List AC->Option (Nat×List AC)}
  (hsk:sk.okB=true) (hsub:SubOK P C body blk) (hm:∀vars o,m vars=some o->∃n,CW (AN P C L blk body sk exits) n vars=some o):Iy P (.loop body) sk (gOf exits m):=by
 intro Z hZ a w vars R K r hR h;simp only[gOf,Option.bind_eq_some_iff]at h;obtain⟨⟨t,o⟩,h1,h2⟩:=h;obtain⟨n,hn⟩:=hm vars _ h1;have key:∀(n:Nat) (vars:List AC) (a':Act) (w':World),Rel Z (Bn sk vars) a'.tmps w'->a'.defers=a.defers->CW (AN P C L blk body sk exits) n vars=some (t,o)->Code.rounds P body (IK Z K r a.defers) n a' w':=by
  intro n;induction n with
  |zero=>intro vars a' w' _ _ h;simp[CW]at h
  |succ n ih=>
   intro vars a' w' hR' hd' h;simp only[CW,Option.bind_eq_some_iff]at h;obtain⟨⟨t',o'⟩,q1,q2⟩:=h;rw[rounds_succ];refine wp_mono (GH hspec hok hmix hZ body L blk _ a' w' _ hsub hR' hd' q1) ?_;rintro e a2 w2 ⟨ae,s',rfl,hK,hR2,hd2⟩;have hexit:∀e':Ex,GR exits 1 e' s'=some (t',o')->IK Z K r a.defers (OE e') a2 w2:=by
    intro e' hx;obtain⟨p1,sk',p2,p3⟩:=Qli hZ hR2 hx;have ht:t'≠0:=by omega
    dsimp only at q2;rw[if_neg ht]at q2;simp at q2;obtain⟨rfl,rfl⟩:=q2;rw[p2 R K]at h2;exact⟨e',_,rfl,h2,p3,hd2⟩
   cases ae with
   |normal=>
    obtain⟨s3,h3,hR3⟩:=Qf hR2 hK;split at h3
    ·rename_i vars' hv;simp at h3;obtain⟨rfl,rfl⟩:=h3;simp only[if_true]at q2;obtain⟨ρ,hR3⟩:=hR3;obtain⟨tm,boxes,rows⟩:=s3;exact ih _ a2 w2 ⟨ρ,hR3.rebuild hZ hsk hv⟩ hd2 q2
    ·simp at h3
   |exit i=>exact hexit _ hK
   |ret=>exact hexit _ hK
 exact wp_loop_rounds n (key n vars a w hR rfl hn)
theorem Zjw (hspec:Ai P C) (hok:∀t∈C.eqOk,P.stoodInHeld t=false) (hmix:P.follows .mixedOrders=true) {L id:Nat} {body:Code} {sk:Sk} {exits:List (Ex×Sk)} {m:List AC->Option (Nat×List AC)}
  (hsub:SubOK P C body id) (hm:∀vars o,m vars=some o->Q5b P C L id body sk exits vars=some o):Iy P (.block id body) sk (gOf exits m):=by
 intro Z hZ a w vars R K r hR h;simp only[gOf,Option.bind_eq_some_iff]at h;obtain⟨⟨t,o⟩,h1,h2⟩:=h;have hb:=hm vars _ h1;refine wp_block (wp_mono (GH hspec hok hmix hZ body L id _ a w _ hsub hR rfl hb) ?_);rintro e a' w' ⟨ae,s',rfl,hK,hR',hd'⟩;have hexit:∀e':Ex,GR exits 1 e' s'=some (t,o)->IK Z K r a.defers (OE e') a' w':=by
  intro e' hx;obtain⟨p1,sk',p2,p3⟩:=Qli hZ hR' hx;rw[p2 R K]at h2;exact⟨e',_,rfl,h2,p3,hd'⟩
 cases ae with
 |normal=>exact hexit .normal hK
 |exit i=>
  simp only[OE,Exit.inBlock];dsimp only at hK;cases hb:Nat.beq i id<;>rw[hb]at hK
  ·have:i≠id:=fun e=>by rw[e]at hb;simp at hb
   rw[if_neg this];exact hexit (.exit i) hK
  ·rw[if_pos (Nat.eq_of_beq_eq_true hb)];exact hexit .normal hK
 |ret=>exact hexit .ret hK
end
end Go.Bm
