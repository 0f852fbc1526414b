/- The abstract machine, second form: a state as its shape and its variables. -/
import Derived.Test.YtommijghjlikkaaGreatBmFz
set_option linter.unusedVariables false
set_option linter.unusedSimpArgs false
namespace Go.Bm
open Go.RowKit

section
variable {P:Program} {C:Cfg} {ρ:Env} {w:World} {R:Type} {Z:Base} {tm:List TV} {boxes:List (Nat×Box)} {rows:List (Nat×Row)} {tmps:Array Value}

theorem WY:∀{l:List (Nat×Nat)} {cs:List AC},I3 l cs=true->cs=KV l
 |[],[],_=>rfl
 |(k,o)::l,a::cs,h=>by
  cases a<;>simp only[I3]at h<;>try (simp at h;done)
  simp only[Bool.and_eq_true]at h
  rw[Nat.eq_of_beq_eq_true h.1.1,Nat.eq_of_beq_eq_true h.1.2,WY h.2];rfl
 |[],_::_,h=>by simp[I3]at h
 |_::_,[],h=>by simp[I3]at h

structure Built (rows : List (Nat × Row)) (rl : Nat -> Nat) : Prop where
 rl:∀id r,Ab rows id=some r->rl id=r.l.length

def Seg (l:List AC) (i:Nat) (v:List AC):Prop:=∀j,j<v.length->nth .dead l (i+j)=nth .dead v j
theorem Seg.left {l:List AC} {i:Nat} {v u:List AC} (h:Seg l i (v++u)):Seg l i v:=fun j hj=>by
 rw[h j (by simp;omega),BJ,BJ,List.getD,List.getD,List.getElem?_append_left hj]
theorem Seg.right {l:List AC} {i:Nat} {v u:List AC} (h:Seg l i (v++u)):Seg l (i+v.length) u:=fun j hj=>by
 rw[Nat.add_assoc,h (v.length+j) (by simp;omega),BJ,BJ,List.getD,List.getD,List.getElem?_append_right (by omega)]
 simp
theorem Seg.one {l:List AC} {i:Nat} {a:AC} (h:Seg l i [a]):nth .dead l i=a:=h 0 (by simp)
theorem Seg.all (l:List AC):Seg l 0 l:=fun j _=>by rw[Nat.zero_add]

theorem Zgr {rl:Nat->Nat} (hrl:Built rows rl) {c:CS} {a:AC} {v:List AC} (h:JZ c a=some v) {l:List AC} {i:Nat} (hs:Seg l i v):
  (DG rl l c i).2=i+v.length/\∀x,AC.wf boxes rows a->CC ρ w a x->CC ρ w (DG rl l c i).1 x:=by
 cases c<;>cases a<;>simp only[JZ]at h<;>try (simp at h;done)
 case any.dead=>simp at h;subst h;exact⟨rfl,fun x _ h=>h.one⟩
 case any.int=>simp at h;subst h;exact⟨rfl,fun x _ h=>h.one⟩
 case any.bool=>simp at h;subst h;exact⟨rfl,fun x _ h=>h.one⟩
 case any.raw=>simp at h;subst h;exact⟨rfl,fun x _ h=>h.one⟩
 case any.nilSl=>simp at h;subst h;exact⟨rfl,fun x _ h=>h.one⟩
 case any.ptr=>simp at h;subst h;exact⟨rfl,fun x _ h=>h.one⟩
 case any.own=>simp at h;subst h;exact⟨rfl,fun x _ h=>h.one⟩
 case any.view=>simp at h;subst h;exact⟨rfl,fun x _ h=>h.one⟩
 case any.rptr=>simp at h;subst h;exact⟨rfl,fun x _ h=>h.one⟩
 case any.vptr=>simp at h;subst h;exact⟨rfl,fun x _ h=>h.one⟩
 case any.clo=>simp at h;subst h;exact⟨rfl,fun x _ h=>h.one⟩
 case any.bsl=>simp at h;subst h;exact⟨rfl,fun x _ h=>h.one⟩
 case int.int k k' n=>
  cases hk:kEq k k'<;>rw[hk]at h
  ·simp at h
  ·simp at h;subst h
   rw[<-NO hk]
   refine⟨rfl,fun x _ h=> ?_⟩
   simp only[DG,hs.one,Af];exact h
 case bool.bool b=>
  simp at h;subst h
  refine⟨rfl,fun x _ h=> ?_⟩
  simp only[DG,hs.one,B6];exact h
 case sl.nilSl ks=>
  simp at h;subst h
  refine⟨rfl,fun x _ h=> ?_⟩
  simp only[CC,CP]at h;subst h
  simp only[DG,hs.one,Br]
  exact Ra ks
 case sl.view ks ks' l=>
  cases hk:CD ks ks'<;>rw[hk]at h
  ·simp at h
  ·simp at h;subst h
   rw[<-IH hk]
   refine⟨rfl,fun x _ h=> ?_⟩
   simp only[DG,hs.one,Br];exact h
 case rawc.raw v=>
  simp at h;subst h
  refine⟨rfl,fun x _ h=> ?_⟩
  simp only[DG,hs.one];exact h
 case nil.nilSl=>simp at h;subst h;exact⟨rfl,fun x _ h=>h⟩
 case ptr.ptr k o k' o'=>
  cases hk:(Nat.beq k k'&&Nat.beq o o')<;>rw[hk]at h
  ·simp at h
  ·simp at h;subst h
   simp only[Bool.and_eq_true]at hk
   rw[<-Nat.eq_of_beq_eq_true hk.1,<-Nat.eq_of_beq_eq_true hk.2]
   exact⟨rfl,fun x _ h=>h⟩
 case bsl.bsl k o k' o'=>
  cases hk:(Nat.beq k k'&&Nat.beq o o')<;>rw[hk]at h
  ·simp at h
  ·simp at h;subst h
   simp only[Bool.and_eq_true]at hk
   rw[<-Nat.eq_of_beq_eq_true hk.1,<-Nat.eq_of_beq_eq_true hk.2]
   exact⟨rfl,fun x _ h=>h⟩
 case own.own id wd id' wd' n=>
  cases hk:(Nat.beq id id'&&Nat.beq wd wd')<;>rw[hk]at h
  ·simp at h
  ·simp at h;subst h
   simp only[Bool.and_eq_true]at hk
   rw[<-Nat.eq_of_beq_eq_true hk.1,<-Nat.eq_of_beq_eq_true hk.2]
   refine⟨rfl,fun x hw h=> ?_⟩
   obtain⟨r,h1,h2,h3⟩:=hw
   show CC ρ w (.own id wd (rl id)) x
   rw[hrl.rl id r h1]
   have:r.l.length=n:=h2
   rw[this];exact h
 case clo.clo f fs cs f' fs' cs'=>
  cases hk:(Nat.beq f f'&&I3 fs fs'&&I3 cs cs')<;>rw[hk]at h
  ·simp at h
  ·simp at h;subst h
   simp only[Bool.and_eq_true]at hk
   rw[<-Nat.eq_of_beq_eq_true hk.1.1,WY hk.1.2,WY hk.2]
   exact⟨rfl,fun x _ h=>h⟩

theorem R0 {rl:Nat->Nat} (hrl:Built rows rl) {l:List AC}:∀{cs:List CS} {as:List AC} {v:List AC},Gv cs as=some v->∀{i},Seg l i v->
  (DM rl l cs i).2=i+v.length/\(DM rl l cs i).1.length=as.length/\∀xs,(∀a∈as,AC.wf boxes rows a)->CL (CC ρ w) as xs->CL (CC ρ w) (DM rl l cs i).1 xs
 |[],[],v,h,i,_=>by simp[Gv]at h;subst h;exact⟨rfl,rfl,fun xs _ h=>h⟩
 |c::cs,a::as,v,h,i,hs=>by
  simp only[Gv]at h
  split at h
  ·rename_i v1 h1
   split at h
   ·rename_i v2 h2
    simp at h;subst h
    obtain⟨q1,q2⟩:=Zgr (ρ:=ρ) (w:=w) (boxes:=boxes) hrl h1 hs.left
    obtain⟨p1,p3,p2⟩:=R0 hrl h2 hs.right
    simp only[DM]
    generalize hb:DG rl l c i=q at q1 q2
    obtain⟨b,i'⟩:=q
    simp only at q1 q2
    subst q1
    refine⟨by simp only[p1,List.length_append];omega,by simp[p3],fun xs hw hx=> ?_⟩
    cases xs with
    |nil=>exact hx.elim
    |cons x xs=>exact⟨q2 x (hw a (by simp)) hx.1,p2 xs (fun b hb=>hw b (by simp[hb])) hx.2⟩
   ·simp at h
  ·simp at h
 |[],_::_,v,h,_,_=>by simp[Gv]at h
 |_::_,[],v,h,_,_=>by simp[Gv]at h

theorem Qoz {rl:Nat->Nat} (hrl:Built rows rl) {l:List AC}:∀{ps:List (Bool×List CS)} {qs:List (Bool×List AC)} {v:List AC},Lq ps qs=some v->∀{i},Seg l i v->
  (GA rl l ps i).2=i+v.length/\∀xs,(∀p∈qs,∀a∈p.2,AC.wf boxes rows a)->TP ρ w qs xs->TP ρ w (GA rl l ps i).1 xs
 |[],[],v,h,i,_=>by simp[Lq]at h;subst h;exact⟨rfl,fun xs _ h=>h⟩
 |(g,cs)::ps,(g',as)::qs,v,h,i,hs=>by
  simp only[Lq]at h
  cases hg:(g==g')<;>rw[hg]at h
  ·simp at h
  ·simp only[cond_true]at h
   have hg':g=g':=by simpa using hg
   subst hg'
   split at h
   ·rename_i v1 h1
    split at h
    ·rename_i v2 h2
     simp at h;subst h
     obtain⟨q1,q3,q2⟩:=R0 (ρ:=ρ) (w:=w) (boxes:=boxes) hrl h1 hs.left
     obtain⟨p1,p2⟩:=Qoz hrl h2 hs.right
     simp only[GA]
     generalize hb:DM rl l cs i=q at q1 q2 q3
     obtain⟨b,i'⟩:=q
     simp only at q1 q2 q3
     subst q1
     refine⟨by simp only[p1,List.length_append];omega,fun xs hw hx=> ?_⟩
     cases xs with
     |nil=>exact hx.elim
     |cons x xs=>
      refine⟨?_,p2 xs (fun p hp=>hw p (by simp[hp])) hx.2⟩
      have hx1:=hx.1
      have hw1:=hw (g,as) (by simp)
      cases g
      ·obtain⟨a,e1,e2⟩:=hx1
       dsimp only at e1 hw1
       subst e1
       have:=q2 [x] hw1 ⟨e2,trivial⟩
       cases b with
       |nil=>simp at q3
       |cons c b=>
        cases b with
        |nil=>exact⟨c,rfl,this.1⟩
        |cons=>simp at q3
      ·obtain⟨ys,e1,e2⟩:=hx1
       exact⟨ys,e1,q2 _ hw1 e2⟩
    ·simp at h
   ·simp at h
 |[],_::_,v,h,_,_=>by simp[Lq]at h
 |(_,_)::_,[],v,h,_,_=>by simp[Lq]at h

theorem Zpy {rl:Nat->Nat} (hrl:Built rows rl) {t:TS} {u:TV} {v:List AC} (h:Iqo t u=some v) {l:List AC} {i:Nat} (hs:Seg l i v):
  (Hp rl l t i).2=i+v.length/\∀x,TV.wf boxes rows u->TVR ρ w u x->TVR ρ w (Hp rl l t i).1 x:=by
 cases t with
 |dead=>simp[Iqo]at h;subst h;exact⟨rfl,fun _ _ _=>trivial⟩
 |v g cs=>
  cases u with
  |dead=>simp[Iqo]at h
  |tup=>simp[Iqo]at h
  |v g' as=>
   simp only[Iqo]at h
   cases hg:(g==g')<;>rw[hg]at h
   ·simp at h
   ·simp only[cond_true]at h
    have hg':g=g':=by simpa using hg
    subst hg'
    obtain⟨q1,q3,q2⟩:=R0 (ρ:=ρ) (w:=w) (boxes:=boxes) hrl h hs
    simp only[Hp]
    generalize hb:DM rl l cs i=q at q1 q2 q3
    obtain⟨b,i'⟩:=q
    simp only at q1 q2 q3
    refine⟨q1,fun x hw hx=> ?_⟩
    cases g
    ·obtain⟨a,rfl,e2⟩:=hx
     have:=q2 [x] hw ⟨e2,trivial⟩
     cases b with
     |nil=>simp at q3
     |cons c b=>
      cases b with
      |nil=>exact⟨c,rfl,this.1⟩
      |cons=>simp at q3
    ·obtain⟨ys,rfl,e2⟩:=hx
     exact⟨ys,rfl,q2 _ hw e2⟩
 |tup ps=>
  cases u with
  |dead=>simp[Iqo]at h
  |v=>simp[Iqo]at h
  |tup qs=>
   simp only[Iqo]at h
   obtain⟨q1,q2⟩:=Qoz (ρ:=ρ) (w:=w) (boxes:=boxes) hrl h hs
   simp only[Hp]
   generalize hb:GA rl l ps i=q at q1 q2
   obtain⟨b,i'⟩:=q
   simp only at q1 q2
   exact⟨q1,fun x hw ⟨ys,e1,e2⟩=>⟨ys,e1,q2 _ hw e2⟩⟩

theorem SM {rl:Nat->Nat} (hrl:Built rows rl) {l:List AC}:∀{ts:List TS} {us:List TV} {v:List AC},Jj ts us=some v->∀{i},Seg l i v->
  (Ez rl l ts i).2=i+v.length/\(Ez rl l ts i).1.length=us.length/\∀(n:Nat) (b:TV),(Ez rl l ts i).1[n]? =some b->∃u,us[n]? =some u/\∀x,TV.wf boxes rows u->TVR ρ w u x->TVR ρ w b x
 |[],[],v,h,i,_=>by simp[Jj]at h;subst h;exact⟨rfl,rfl,fun i b h=>by simp[Ez]at h⟩
 |t::ts,u::us,v,h,i,hs=>by
  simp only[Jj]at h
  split at h
  ·rename_i v1 h1
   split at h
   ·rename_i v2 h2
    simp at h;subst h
    obtain⟨q1,q2⟩:=Zpy (ρ:=ρ) (w:=w) (boxes:=boxes) hrl h1 hs.left
    obtain⟨p1,p3,p2⟩:=SM hrl h2 hs.right
    simp only[Ez]
    generalize hb:Hp rl l t i=q at q1 q2
    obtain⟨b,i'⟩:=q
    simp only at q1 q2
    subst q1
    refine⟨by simp only[p1,List.length_append];omega,by simp[p3],fun n c hi=> ?_⟩
    cases n with
    |zero=>simp at hi;subst hi;exact⟨u,rfl,q2⟩
    |succ n=>obtain⟨u',e1,e2⟩:=p2 n c (by simpa using hi);exact⟨u',by simpa using e1,e2⟩
   ·simp at h
  ·simp at h
 |[],_::_,v,h,_,_=>by simp[Jj]at h
 |_::_,[],v,h,_,_=>by simp[Jj]at h

theorem Qp0 {rl:Nat->Nat} (hrl:Built rows rl) {l:List AC}:∀{bs:List (Nat×TypeId×List CS)} {v:List AC},I9 bs boxes=some v->∀{i},Seg l i v->
  ∀k b,Ab (EF rl l bs i) k=some b->k∈bs.map (·.1)/\∃b0,Ab boxes k=some b0/\b.ty=b0.ty/\∀xs,(∀a∈b0.cells,AC.wf boxes rows a)->CL (CC ρ w) b0.cells xs->CL (CC ρ w) b.cells xs
 |[],v,h,i,_,k,b,hk=>by simp[EF,Ab]at hk
 |(j,t,cs)::bs,v,h,i,hs,k,b,hk=>by
  simp only[I9]at h
  split at h
  ·rename_i b0 hb0
   cases ht:Nat.beq t b0.ty<;>rw[ht]at h
   ·simp at h
   ·simp only[cond_true]at h
    split at h
    ·rename_i v1 h1
     split at h
     ·rename_i v2 h2
      simp at h;subst h
      obtain⟨q1,q3,q2⟩:=R0 (ρ:=ρ) (w:=w) (boxes:=boxes) hrl h1 hs.left
      simp only[EF]at hk
      generalize hb:DM rl l cs i=q at q1 q2 q3 hk
      obtain⟨c,i'⟩:=q
      simp only at q1 q2 q3 hk
      subst q1
      simp only[Ab]at hk
      cases hjk:Nat.beq j k<;>rw[hjk]at hk
      ·obtain⟨p1,p2⟩:=Qp0 hrl h2 hs.right k b hk
       exact⟨by simp at p1⊢;exact .inr p1,p2⟩
      ·have:=Nat.eq_of_beq_eq_true hjk;subst this
       simp at hk;subst hk
       exact⟨by simp,b0,hb0,Nat.eq_of_beq_eq_true ht,q2⟩
     ·simp at h
    ·simp at h
  ·simp at h

theorem Q2t {l:List AC}:∀{rs:List (Nat×TypeId×List Kd)} {v:List AC},IA rs rows=some v->∀{i},Seg l i v->
  (GM l rs i).2=i+v.length/\(∀id r,Ab (GM l rs i).1 id=some r->Ab rows id=some r)/\∀id t ks,Ab rs id=some (t,ks)->∃r,Ab (GM l rs i).1 id=some r/\r.ks=ks
 |[],v,h,i,_=>by simp[IA]at h;subst h;exact⟨rfl,fun id r h=>by simp[GM,Ab]at h,fun id t ks h=>by simp[Ab]at h⟩
 |(k,t,ks)::rs,v,h,i,hs=>by
  simp only[IA]at h
  split at h
  ·rename_i r hr
   cases hb:(Nat.beq t r.ty&&CD ks r.ks)<;>rw[hb]at h
   ·simp at h
   ·simp only[cond_true]at h
    simp only[Bool.and_eq_true]at hb
    split at h
    ·rename_i vs hvs
     simp at h;subst h
     have hs':Seg l i ([.view ks r.l]++vs):=hs
     obtain⟨q1,q2,q3⟩:=Q2t hvs (i:=i+1) hs'.right
     simp only[GM,hs'.left.one,Br]
     generalize hB:GM l rs (i+1)=q at q1 q2 q3
     obtain⟨B,i'⟩:=q
     simp only at q1 q2 q3
     refine⟨by simp only[q1,List.length_cons];omega,fun id r' hi=> ?_,fun id t' ks' hi=> ?_⟩
     ·simp only[Ab]at hi
      cases hk:Nat.beq k id<;>rw[hk]at hi
      ·exact q2 id r' hi
      ·have:=Nat.eq_of_beq_eq_true hk;subst this
       simp at hi;subst hi
       rw[hr,Nat.eq_of_beq_eq_true hb.1,IH hb.2]
     ·simp only[Ab]at hi⊢
      cases hk:Nat.beq k id<;>rw[hk]at hi
      ·simp only[cond_false]at hi⊢;exact q3 id t' ks' hi
      ·simp at hi;obtain⟨_,rfl⟩:=hi
       exact⟨_,rfl,rfl⟩
    ·simp at h
  ·simp at h

section names
variable {keys:List Nat} {rs:List (Nat×TypeId×List Kd)} {B':List (Nat×Box)} {R':List (Nat×Row)} {rl:Nat->Nat}

theorem Qmi (hk:∀k∈keys,∃b,Ab B' k=some b):∀(l:List (Nat×Nat)),Aj (fun p:Nat×Nat=>AH keys p.1) l=true->∀a∈KV l,AC.wfP B' a
 |[],_,a,ha=>by simp[KV]at ha
 |(k,o)::l,h,a,ha=>by
  have h1:=Av.1 h
  simp only[KV,List.mem_cons]at ha
  rcases ha with rfl|ha
  ·exact hk k (Eu.1 (h1 (k,o) (by simp)))
  ·exact Qmi hk l (Av.2 fun p hp=>h1 p (by simp[hp])) a ha

theorem Zxt (hk:∀k∈keys,∃b,Ab B' k=some b) (hr:∀id t ks,Ab rs id=some (t,ks)->∃r,Ab R' id=some r/\r.ks=ks/\rl id=r.l.length) {c:CS} (hc:c.okB keys rs=true) (l:List AC) (i:Nat):AC.wf B' R' (DG rl l c i).1:=by
 cases c<;>simp only[DG]<;>try trivial
 case rawc=>simp only[Lm];split<;>trivial
 case ptr k o=>exact hk k (Eu.1 hc)
 case bsl k o=>exact hk k (Eu.1 hc)
 case own id wd=>
  simp only[CS.okB]at hc
  split at hc
  ·rename_i t ks hl
   obtain⟨r,h1,h2,h3⟩:=hr id t ks hl
   refine⟨r,h1,h3.symm,?_⟩
   show r.ks.length=wd
   rw[h2];exact Nat.eq_of_beq_eq_true hc
  ·simp at hc
 case clo f fs cs=>
  simp only[CS.okB,Bool.and_eq_true]at hc
  exact⟨Qmi hk fs hc.1,Qmi hk cs hc.2⟩
theorem Qi (hk:∀k∈keys,∃b,Ab B' k=some b) (hr:∀id t ks,Ab rs id=some (t,ks)->∃r,Ab R' id=some r/\r.ks=ks/\rl id=r.l.length):∀{cs:List CS},Aj (CS.okB keys rs) cs=true->∀(l:List AC) (i:Nat),∀a∈(DM rl l cs i).1,AC.wf B' R' a
 |[],_,l,i,a,ha=>by simp[DM]at ha
 |c::cs,h,l,i,a,ha=>by
  have h1:=Av.1 h
  simp only[DM,List.mem_cons]at ha
  rcases ha with rfl|ha
  ·exact Zxt hk hr (h1 c (by simp)) l i
  ·exact Qi hk hr (Av.2 fun c hc=>h1 c (by simp[hc])) l _ a ha
theorem Qo9 (hk:∀k∈keys,∃b,Ab B' k=some b) (hr:∀id t ks,Ab rs id=some (t,ks)->∃r,Ab R' id=some r/\r.ks=ks/\rl id=r.l.length):∀{ps:List (Bool×List CS)},Aj (fun p:Bool×List CS=>Aj (CS.okB keys rs) p.2) ps=true->∀(l:List AC) (i:Nat),∀p∈(GA rl l ps i).1,∀a∈p.2,AC.wf B' R' a
 |[],_,l,i,p,hp=>by simp[GA]at hp
 |(g,cs)::ps,h,l,i,p,hp=>by
  have h1:=Av.1 h
  simp only[GA,List.mem_cons]at hp
  rcases hp with rfl|hp
  ·exact Qi hk hr (h1 (g,cs) (by simp)) l i
  ·exact Qo9 hk hr (Av.2 fun c hc=>h1 c (by simp[hc])) l _ p hp
theorem Zfq (hk:∀k∈keys,∃b,Ab B' k=some b) (hr:∀id t ks,Ab rs id=some (t,ks)->∃r,Ab R' id=some r/\r.ks=ks/\rl id=r.l.length) {t:TS} (ht:t.okB keys rs=true) (l:List AC) (i:Nat):TV.wf B' R' (Hp rl l t i).1:=by
 cases t with
 |dead=>trivial
 |v g cs=>exact Qi hk hr ht l i
 |tup ps=>exact Qo9 hk hr ht l i
theorem Qel (hk:∀k∈keys,∃b,Ab B' k=some b) (hr:∀id t ks,Ab rs id=some (t,ks)->∃r,Ab R' id=some r/\r.ks=ks/\rl id=r.l.length):∀{ts:List TS},Aj (TS.okB keys rs) ts=true->∀(l:List AC) (i:Nat),∀v∈(Ez rl l ts i).1,TV.wf B' R' v
 |[],_,l,i,v,hv=>by simp[Ez]at hv
 |t::ts,h,l,i,v,hv=>by
  have h1:=Av.1 h
  simp only[Ez,List.mem_cons]at hv
  rcases hv with rfl|hv
  ·exact Zfq hk hr (h1 t (by simp)) l i
  ·exact Qel hk hr (Av.2 fun c hc=>h1 c (by simp[hc])) l _ v hv
theorem Qwe (hk:∀k∈keys,∃b,Ab B' k=some b) (hr:∀id t ks,Ab rs id=some (t,ks)->∃r,Ab R' id=some r/\r.ks=ks/\rl id=r.l.length):∀{bs:List (Nat×TypeId×List CS)},Aj (fun p:Nat×TypeId×List CS=>Aj (CS.okB keys rs) p.2.2) bs=true->∀(l:List AC) (i k:Nat) (b:Box),Ab (EF rl l bs i) k=some b->∀a∈b.cells,AC.wf B' R' a
 |[],_,l,i,k,b,hb=>by simp[EF,Ab]at hb
 |(j,t,cs)::bs,h,l,i,k,b,hb=>by
  have h1:=Av.1 h
  simp only[EF,Ab]at hb
  cases hj:Nat.beq j k<;>rw[hj]at hb
  ·exact Qwe hk hr (Av.2 fun c hc=>h1 c (by simp[hc])) l _ k b hb
  ·simp at hb;subst hb
   exact Qi hk hr (h1 (j,t,cs) (by simp)) l i
end names

theorem Q5x {rl:Nat->Nat} (l:List AC):∀(bs:List (Nat×TypeId×List CS)) (i k:Nat),k∈bs.map (·.1)->∃b,Ab (EF rl l bs i) k=some b
 |[],_,k,h=>by simp at h
 |(j,t,cs)::bs,i,k,h=>by
  simp only[EF,Ab]
  cases hj:Nat.beq j k
  ·have:k∈bs.map (·.1):=by
    simp only[List.map_cons,List.mem_cons]at h
    exact h.resolve_left fun e=>GP hj e.symm
   exact Q5x l bs _ k this
  ·exact⟨_,rfl⟩

theorem RelE.rebuild {sk:Sk} {vars:List AC} (h:RelE Z tm boxes rows ρ tmps w) (hZ:∀k b,Z.K0 k=some b->FQ k=true) (hok:sk.okB=true) (hr:EX sk ⟨tm,boxes,rows⟩=some vars):
  RelE Z (Bf sk vars).tmps (Bf sk vars).boxes (Bf sk vars).rows ρ tmps w:=by
 simp only[EX]at hr
 obtain ⟨hin, hr⟩ : Aj (fun p : Nat × Box => !(FQ p.1) || AH (sk.boxes.map (·.1)) p.1) boxes = true /\ (match IA sk.rows rows with
  |some a=>match Jj sk.tmps tm with
   |some b=>match I9 sk.boxes boxes with
    |some c=>some (a++(b++c))
    |none=>none
   |none=>none
  |none=>none)=some vars:=by
  revert hr
  generalize Aj (fun p:Nat×Box=> !(FQ p.1)||AH (sk.boxes.map (·.1)) p.1) boxes=q
  intro hr
  cases q
  ·simp at hr
  ·exact⟨rfl,hr⟩
 split at hr
 ·rename_i va hva
  split at hr
  ·rename_i vb hvb
   split at hr
   ·rename_i vc hvc
    simp at hr;subst hr
    have hall:=Seg.all (va++(vb++vc))
    generalize hl:va++(vb++vc)=l at hall⊢
    rw[<-hl]at hall
    have hsa:Seg l 0 va:=by rw[<-hl];exact(Seg.all _).left
    have hsb:Seg l (0+va.length) vb:=by rw[<-hl];exact(Seg.all _).right.left
    have hsc:Seg l (0+va.length+vb.length) vc:=by rw[<-hl];exact(Seg.all _).right.right
    obtain⟨r1,r2,r3⟩:=Q2t hva hsa
    simp only[Bf]
    generalize hR:GM l sk.rows 0=qr at r1 r2 r3
    obtain⟨R',ir⟩:=qr
    simp only at r1 r2 r3⊢
    subst r1
    have hdis:sk.okB=true:=hok
    simp only[Sk.okB,Bool.and_eq_true]at hok
    obtain⟨⟨⟨ok1,ok2⟩,ok3⟩,ok4⟩:=hok

    have hown:∀id r,Ab R' id=some r->Dy R' id=r.l.length:=fun id r hl=>by simp only[Dy,hl]
    have hkeys:∀k∈sk.boxes.map (·.1),∃b,Ab (EF (Dy R') l sk.boxes (0+va.length+vb.length)) k=some b:=fun k hk=>Q5x l sk.boxes _ k hk
    have hrr:∀id t ks,Ab sk.rows id=some (t,ks)->∃r,Ab R' id=some r/\r.ks=ks/\Dy R' id=r.l.length:=fun id t ks hl=>by
     obtain⟨r,q1,q2⟩:=r3 id t ks hl
     exact⟨r,q1,q2,hown id r q1⟩

    let rl':Nat->Nat:=fun id=>match Ab rows id with
     |some r=>r.l.length
     |none=>0
    have hbl:Built rows rl':=⟨fun id r hl=>by simp only[rl',hl]⟩
    have hsame:∀id t ks,Ab sk.rows id=some (t,ks)->rl' id=Dy R' id:=fun id t ks hl=>by
     obtain⟨r,q1,_,q3⟩:=hrr id t ks hl
     simp only[rl',r2 id r q1,q3]
    have eC:∀(c:CS) (i:Nat),c.okB (sk.boxes.map (·.1)) sk.rows=true->DG rl' l c i=DG (Dy R') l c i:=by
     intro c i hc
     cases c<;>try rfl
     rename_i id wd
     simp only[CS.okB]at hc
     split at hc
     ·rename_i t ks hl
      simp only[DG,hsame id t ks hl]
     ·simp at hc
    have eCs:∀(cs:List CS) (i:Nat),Aj (CS.okB (sk.boxes.map (·.1)) sk.rows) cs=true->DM rl' l cs i=DM (Dy R') l cs i:=by
     intro cs
     induction cs with
     |nil=>intro i _;rfl
     |cons c cs ih=>
      intro i hc
      have h1:=Av.1 hc
      simp only[DM]
      rw[eC c i (h1 c (by simp))]
      rw[ih _ (Av.2 fun c hc=>h1 c (by simp[hc]))]
    have ePs:∀(ps:List (Bool×List CS)) (i:Nat),Aj (fun p:Bool×List CS=>Aj (CS.okB (sk.boxes.map (·.1)) sk.rows) p.2) ps=true->GA rl' l ps i=GA (Dy R') l ps i:=by
     intro ps
     induction ps with
     |nil=>intro i _;rfl
     |cons p ps ih=>
      intro i hc
      obtain⟨g,cs⟩:=p
      have h1:=Av.1 hc
      simp only[GA]
      rw[eCs cs i (h1 (g,cs) (by simp))]
      rw[ih _ (Av.2 fun c hc=>h1 c (by simp[hc]))]
    have eT:∀(t:TS) (i:Nat),t.okB (sk.boxes.map (·.1)) sk.rows=true->Hp rl' l t i=Hp (Dy R') l t i:=by
     intro t i ht
     cases t with
     |dead=>rfl
     |v g cs=>simp only[Hp];rw[eCs cs i ht]
     |tup ps=>simp only[Hp];rw[ePs ps i ht]
    have eTs:∀(ts:List TS) (i:Nat),Aj (TS.okB (sk.boxes.map (·.1)) sk.rows) ts=true->Ez rl' l ts i=Ez (Dy R') l ts i:=by
     intro ts
     induction ts with
     |nil=>intro i _;rfl
     |cons c cs ih=>
      intro i hc
      have h1:=Av.1 hc
      simp only[Ez]
      rw[eT c i (h1 c (by simp))]
      rw[ih _ (Av.2 fun c hc=>h1 c (by simp[hc]))]
    have eBs:∀(bs:List (Nat×TypeId×List CS)) (i:Nat),Aj (fun p:Nat×TypeId×List CS=>Aj (CS.okB (sk.boxes.map (·.1)) sk.rows) p.2.2) bs=true->EF rl' l bs i=EF (Dy R') l bs i:=by
     intro bs
     induction bs with
     |nil=>intro i _;rfl
     |cons p bs ih=>
      intro i hc
      obtain⟨k,t,cs⟩:=p
      have h1:=Av.1 hc
      simp only[EF]
      rw[eCs cs i (h1 (k,t,cs) (by simp))]
      rw[ih _ (Av.2 fun c hc=>h1 c (by simp[hc]))]
    have hT:=SM (ρ:=ρ) (w:=w) (boxes:=boxes) hbl hvb hsb
    rw[eTs sk.tmps _ ok3]at hT
    obtain⟨t1,t2,t3⟩:=hT
    have tw:=Qel (rl:=Dy R') hkeys hrr ok3 l (0+va.length)
    generalize hT':Ez (Dy R') l sk.tmps (0+va.length)=qt at t1 t2 t3 tw
    obtain⟨T',it⟩:=qt
    simp only at t1 t2 t3 tw⊢
    subst t1
    have hB:=Qp0 (ρ:=ρ) (w:=w) hbl hvc hsc
    rw[eBs sk.boxes _ ok4]at hB
    refine⟨by rw[t2];exact h.tl,fun i v hi=> ?_,tw,Qwe hkeys hrr ok4 l _,fun k b hk=> ?_,fun k k' b b' hk hk' he=> ?_,fun id r hi=>h.ro id r (r2 id r hi),fun id id' r r' g hi hi'=>h.ri id id' r r' g (r2 id r hi) (r2 id' r' hi'),fun k b id r hk hi=> ?_,fun b hb=> ?_,h.fr,h.fs,h.i0,h.i1,fun k b hk=> ?_⟩
    ·obtain⟨u,hu,hx⟩:=t3 i v hi
     exact hx _ (h.wt u (List.mem_of_getElem? hu)) (h.tv i u hu)
    ·obtain⟨_,b0,q1,q2,q3⟩:=hB k b hk
     obtain⟨arr,p1,p2,p3⟩:=h.bx k b0 q1
     exact⟨arr,by rw[q2];exact p1,q3 _ (h.wb k b0 q1) p2,p3⟩
    ·obtain⟨_,b0,q1,_⟩:=hB k b hk
     obtain⟨_,b0',q1',_⟩:=hB k' b' hk'
     exact h.bi k k' _ _ q1 q1' he
    ·obtain⟨_,b0,q1,_⟩:=hB k b hk
     exact h.br k b0 id r q1 (r2 id r hi)
    ·obtain⟨q1,q2,q3⟩:=h.ib b hb
     exact⟨q1,fun k bo hk=>by obtain⟨_,b0,p1,_⟩:=hB k bo hk;exact q2 k b0 p1,fun id r hi=>q3 id r (r2 id r hi)⟩
    ·obtain⟨q1,bo,q2⟩:=h.k0 k b hk
     refine⟨q1,hkeys k ?_⟩
     have:=Av.1 hin (k,bo) (ND q2)
     simp only[hZ k b hk,Bool.not_true,Bool.false_or]at this
     exact Eu.1 this
   ·simp at hr
  ·simp at hr
 ·simp at hr
end
end Go.Bm
