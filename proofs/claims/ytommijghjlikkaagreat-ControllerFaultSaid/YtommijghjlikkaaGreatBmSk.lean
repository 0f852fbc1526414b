/- The abstract machine, second form: a state as its shape and its variables. -/
import Derived.Test.YtommijghjlikkaaGreatBmFz
set_option linter.unusedVariables false
set_option linter.unusedSimpArgs false
namespace Go.Bm
open Go.RowKit
section
variable {P:Program} {C:Cfg} {ρ:Env} {w:World} {R:Type} {Z:Base} {tm:List TV} {boxes:List (Nat×Box)} {rows:List (Nat×Row)} {tmps:Array Value}
theorem Xh:∀{l:List (Nat×Nat)} {cs:List AC},I1 l cs=true->cs=LG l
 |[],[],_=>rfl
 |(k,o)::l,a::cs,h=>by
  cases a<;>simp only[I1]at h<;>try (simp at h;done)
  simp only[Bool.and_eq_true]at h;rw[Nat.eq_of_beq_eq_true h.1.1,Nat.eq_of_beq_eq_true h.1.2,Xh h.2];rfl
 |[],_::_,h=>by simp[I1]at h
 |_::_,[],h=>by simp[I1]at h
structure Built (rows : List (Nat × Row)) (rl : Nat -> Nat) : Prop where
 rl:∀id r,Ab rows id=some r->rl id=r.l.length
def Seg (l:List AC) (i:Nat) (v:List AC):Prop:=∀j,j<v.length->nth .dead l (i+j)=nth .dead v j
theorem Seg.left {l:List AC} {i:Nat} {v u:List AC} (h:Seg l i (v++u)):Seg l i v:=fun j hj=>by
 rw[h j (by simp;omega),BK,BK,List.getD,List.getD,List.getElem?_append_left hj]
theorem Seg.right {l:List AC} {i:Nat} {v u:List AC} (h:Seg l i (v++u)):Seg l (i+v.length) u:=fun j hj=>by
 rw[Nat.add_assoc,h (v.length+j) (by simp;omega),BK,BK,List.getD,List.getD,List.getElem?_append_right (by omega)];simp
theorem Seg.one {l:List AC} {i:Nat} {a:AC} (h:Seg l i [a]):nth .dead l i=a:=h 0 (by simp)
theorem Seg.all (l:List AC):Seg l 0 l:=fun j _=>by rw[Nat.zero_add]
theorem Zzr {rl:Nat->Nat} (hrl:Built rows rl) {c:CS} {a:AC} {v:List AC} (h:JI c a=some v) {l:List AC} {i:Nat} (hs:Seg l i v):
  (D6 rl l c i).2=i+v.length/\∀x,AC.wf boxes rows a->CC ρ w a x->CC ρ w (D6 rl l c i).1 x:=by
 cases c<;>cases a<;>simp only[JI]at h<;>try (simp at h;done)
 case any.dead=>simp at h;subst h;exact⟨rfl,fun x _ h=>h.one⟩
 case any.int=>simp at h;subst h;exact⟨rfl,fun x _ h=>h.one⟩
 case any.bool=>simp at h;subst h;exact⟨rfl,fun x _ h=>h.one⟩
 case any.raw=>simp at h;subst h;exact⟨rfl,fun x _ h=>h.one⟩
 case any.nilSl=>simp at h;subst h;exact⟨rfl,fun x _ h=>h.one⟩
 case any.ptr=>simp at h;subst h;exact⟨rfl,fun x _ h=>h.one⟩
 case any.own=>simp at h;subst h;exact⟨rfl,fun x _ h=>h.one⟩
 case any.view=>simp at h;subst h;exact⟨rfl,fun x _ h=>h.one⟩
 case any.rptr=>simp at h;subst h;exact⟨rfl,fun x _ h=>h.one⟩
 case any.vptr=>simp at h;subst h;exact⟨rfl,fun x _ h=>h.one⟩
 case any.clo=>simp at h;subst h;exact⟨rfl,fun x _ h=>h.one⟩
 case any.bsl=>simp at h;subst h;exact⟨rfl,fun x _ h=>h.one⟩
 case int.int k k' n=>
  cases hk:kEq k k'<;>rw[hk]at h
  ·simp at h
  ·simp at h;subst h;rw[<-Ol hk];refine⟨rfl,fun x _ h=> ?_⟩;simp only[D6,hs.one,Af];exact h
 case bool.bool b=>
  simp at h;subst h;refine⟨rfl,fun x _ h=> ?_⟩;simp only[D6,hs.one,CV];exact h
 case sl.nilSl ks=>
  simp at h;subst h;refine⟨rfl,fun x _ h=> ?_⟩;simp only[CC,CP]at h;subst h;simp only[D6,hs.one,BL];exact Rv ks
 case sl.view ks ks' l=>
  cases hk:CR ks ks'<;>rw[hk]at h
  ·simp at h
  ·simp at h;subst h;rw[<-IU hk];refine⟨rfl,fun x _ h=> ?_⟩;simp only[D6,hs.one,BL];exact h
 case rawc.raw v=>
  simp at h;subst h;refine⟨rfl,fun x _ h=> ?_⟩;simp only[D6,hs.one];exact h
 case nil.nilSl=>simp at h;subst h;exact⟨rfl,fun x _ h=>h⟩
 case ptr.ptr k o k' o'=>
  cases hk:(Nat.beq k k'&&Nat.beq o o')<;>rw[hk]at h
  ·simp at h
  ·simp at h;subst h;simp only[Bool.and_eq_true]at hk;rw[<-Nat.eq_of_beq_eq_true hk.1,<-Nat.eq_of_beq_eq_true hk.2];exact⟨rfl,fun x _ h=>h⟩
 case bsl.bsl k o k' o'=>
  cases hk:(Nat.beq k k'&&Nat.beq o o')<;>rw[hk]at h
  ·simp at h
  ·simp at h;subst h;simp only[Bool.and_eq_true]at hk;rw[<-Nat.eq_of_beq_eq_true hk.1,<-Nat.eq_of_beq_eq_true hk.2];exact⟨rfl,fun x _ h=>h⟩
 case own.own id wd id' wd' n=>
  cases hk:(Nat.beq id id'&&Nat.beq wd wd')<;>rw[hk]at h
  ·simp at h
  ·simp at h;subst h;simp only[Bool.and_eq_true]at hk;rw[<-Nat.eq_of_beq_eq_true hk.1,<-Nat.eq_of_beq_eq_true hk.2];refine⟨rfl,fun x hw h=> ?_⟩;obtain⟨r,h1,h2,h3⟩:=hw;show CC ρ w (.own id wd (rl id)) x;rw[hrl.rl id r h1];have:r.l.length=n:=h2;rw[this];exact h
 case clo.clo f fs cs f' fs' cs'=>
  cases hk:(Nat.beq f f'&&I1 fs fs'&&I1 cs cs')<;>rw[hk]at h
  ·simp at h
  ·simp at h;subst h;simp only[Bool.and_eq_true]at hk;rw[<-Nat.eq_of_beq_eq_true hk.1.1,Xh hk.1.2,Xh hk.2];exact⟨rfl,fun x _ h=>h⟩
theorem Qy {rl:Nat->Nat} (hrl:Built rows rl) {l:List AC}:∀{cs:List CS} {as:List AC} {v:List AC},GB cs as=some v->∀{i},Seg l i v->
  (D7 rl l cs i).2=i+v.length/\(D7 rl l cs i).1.length=as.length/\∀xs,(∀a∈as,AC.wf boxes rows a)->CL (CC ρ w) as xs->CL (CC ρ w) (D7 rl l cs i).1 xs
 |[],[],v,h,i,_=>by simp[GB]at h;subst h;exact⟨rfl,rfl,fun xs _ h=>h⟩
 |c::cs,a::as,v,h,i,hs=>by
  simp only[GB]at h;split at h
  ·rename_i v1 h1;split at h
   ·rename_i v2 h2;simp at h;subst h;obtain⟨q1,q2⟩:=Zzr (ρ:=ρ) (w:=w) (boxes:=boxes) hrl h1 hs.left;obtain⟨p1,p3,p2⟩:=Qy hrl h2 hs.right;simp only[D7];generalize hb:D6 rl l c i=q at q1 q2;obtain⟨b,i'⟩:=q;simp only at q1 q2;subst q1;refine⟨by simp only[p1,List.length_append];omega,by simp[p3],fun xs hw hx=> ?_⟩;cases xs with
    |nil=>exact hx.elim
    |cons x xs=>exact⟨q2 x (hw a (by simp)) hx.1,p2 xs (fun b hb=>hw b (by simp[hb])) hx.2⟩
   ·simp at h
  ·simp at h
 |[],_::_,v,h,_,_=>by simp[GB]at h
 |_::_,[],v,h,_,_=>by simp[GB]at h
theorem Qyk {rl:Nat->Nat} (hrl:Built rows rl) {l:List AC}:∀{ps:List (Bool×List CS)} {qs:List (Bool×List AC)} {v:List AC},KY ps qs=some v->∀{i},Seg l i v->
  (Gx rl l ps i).2=i+v.length/\∀xs,(∀p∈qs,∀a∈p.2,AC.wf boxes rows a)->TP ρ w qs xs->TP ρ w (Gx rl l ps i).1 xs
 |[],[],v,h,i,_=>by simp[KY]at h;subst h;exact⟨rfl,fun xs _ h=>h⟩
 |(g,cs)::ps,(g',as)::qs,v,h,i,hs=>by
  simp only[KY]at h;cases hg:(g==g')<;>rw[hg]at h
  ·simp at h
  ·simp only[cond_true]at h;have hg':g=g':=by simpa using hg
   subst hg';split at h
   ·rename_i v1 h1;split at h
    ·rename_i v2 h2;simp at h;subst h;obtain⟨q1,q3,q2⟩:=Qy (ρ:=ρ) (w:=w) (boxes:=boxes) hrl h1 hs.left;obtain⟨p1,p2⟩:=Qyk hrl h2 hs.right;simp only[Gx];generalize hb:D7 rl l cs i=q at q1 q2 q3;obtain⟨b,i'⟩:=q;simp only at q1 q2 q3;subst q1;refine⟨by simp only[p1,List.length_append];omega,fun xs hw hx=> ?_⟩;cases xs with
     |nil=>exact hx.elim
     |cons x xs=>
      refine⟨?_,p2 xs (fun p hp=>hw p (by simp[hp])) hx.2⟩;have hx1:=hx.1;have hw1:=hw (g,as) (by simp);cases g
      ·obtain⟨a,e1,e2⟩:=hx1;dsimp only at e1 hw1;subst e1;have:=q2 [x] hw1 ⟨e2,trivial⟩;cases b with
       |nil=>simp at q3
       |cons c b=>
        cases b with
        |nil=>exact⟨c,rfl,this.1⟩
        |cons=>simp at q3
      ·obtain⟨ys,e1,e2⟩:=hx1;exact⟨ys,e1,q2 _ hw1 e2⟩
    ·simp at h
   ·simp at h
 |[],_::_,v,h,_,_=>by simp[KY]at h
 |(_,_)::_,[],v,h,_,_=>by simp[KY]at h
theorem Zsq {rl:Nat->Nat} (hrl:Built rows rl) {t:TS} {u:TV} {v:List AC} (h:IE t u=some v) {l:List AC} {i:Nat} (hs:Seg l i v):
  (Hx rl l t i).2=i+v.length/\∀x,TV.wf boxes rows u->TVR ρ w u x->TVR ρ w (Hx rl l t i).1 x:=by
 cases t with
 |dead=>simp[IE]at h;subst h;exact⟨rfl,fun _ _ _=>trivial⟩
 |v g cs=>
  cases u with
  |dead=>simp[IE]at h
  |tup=>simp[IE]at h
  |v g' as=>
   simp only[IE]at h;cases hg:(g==g')<;>rw[hg]at h
   ·simp at h
   ·simp only[cond_true]at h;have hg':g=g':=by simpa using hg
    subst hg';obtain⟨q1,q3,q2⟩:=Qy (ρ:=ρ) (w:=w) (boxes:=boxes) hrl h hs;simp only[Hx];generalize hb:D7 rl l cs i=q at q1 q2 q3;obtain⟨b,i'⟩:=q;simp only at q1 q2 q3;refine⟨q1,fun x hw hx=> ?_⟩;cases g
    ·obtain⟨a,rfl,e2⟩:=hx;have:=q2 [x] hw ⟨e2,trivial⟩;cases b with
     |nil=>simp at q3
     |cons c b=>
      cases b with
      |nil=>exact⟨c,rfl,this.1⟩
      |cons=>simp at q3
    ·obtain⟨ys,rfl,e2⟩:=hx;exact⟨ys,rfl,q2 _ hw e2⟩
 |tup ps=>
  cases u with
  |dead=>simp[IE]at h
  |v=>simp[IE]at h
  |tup qs=>
   simp only[IE]at h;obtain⟨q1,q2⟩:=Qyk (ρ:=ρ) (w:=w) (boxes:=boxes) hrl h hs;simp only[Hx];generalize hb:Gx rl l ps i=q at q1 q2;obtain⟨b,i'⟩:=q;simp only at q1 q2;exact⟨q1,fun x hw ⟨ys,e1,e2⟩=>⟨ys,e1,q2 _ hw e2⟩⟩
theorem QV {rl:Nat->Nat} (hrl:Built rows rl) {l:List AC}:∀{ts:List TS} {us:List TV} {v:List AC},JU ts us=some v->∀{i},Seg l i v->
  (EQ rl l ts i).2=i+v.length/\(EQ rl l ts i).1.length=us.length/\∀(n:Nat) (b:TV),(EQ rl l ts i).1[n]? =some b->∃u,us[n]? =some u/\∀x,TV.wf boxes rows u->TVR ρ w u x->TVR ρ w b x
 |[],[],v,h,i,_=>by simp[JU]at h;subst h;exact⟨rfl,rfl,fun i b h=>by simp[EQ]at h⟩
 |t::ts,u::us,v,h,i,hs=>by
  simp only[JU]at h;split at h
  ·rename_i v1 h1;split at h
   ·rename_i v2 h2;simp at h;subst h;obtain⟨q1,q2⟩:=Zsq (ρ:=ρ) (w:=w) (boxes:=boxes) hrl h1 hs.left;obtain⟨p1,p3,p2⟩:=QV hrl h2 hs.right;simp only[EQ];generalize hb:Hx rl l t i=q at q1 q2;obtain⟨b,i'⟩:=q;simp only at q1 q2;subst q1;refine⟨by simp only[p1,List.length_append];omega,by simp[p3],fun n c hi=> ?_⟩;cases n with
    |zero=>simp at hi;subst hi;exact⟨u,rfl,q2⟩
    |succ n=>obtain⟨u',e1,e2⟩:=p2 n c (by simpa using hi);exact⟨u',by simpa using e1,e2⟩
   ·simp at h
  ·simp at h
 |[],_::_,v,h,_,_=>by simp[JU]at h
 |_::_,[],v,h,_,_=>by simp[JU]at h
theorem Qr3 {rl:Nat->Nat} (hrl:Built rows rl) {l:List AC}:∀{bs:List (Nat×TypeId×List CS)} {v:List AC},Kk bs boxes=some v->∀{i},Seg l i v->
  ∀k b,Ab (ES rl l bs i) k=some b->k∈bs.map (·.1)/\∃b0,Ab boxes k=some b0/\b.ty=b0.ty/\∀xs,(∀a∈b0.cells,AC.wf boxes rows a)->CL (CC ρ w) b0.cells xs->CL (CC ρ w) b.cells xs
 |[],v,h,i,_,k,b,hk=>by simp[ES,Ab]at hk
 |(j,t,cs)::bs,v,h,i,hs,k,b,hk=>by
  simp only[Kk]at h;split at h
  ·rename_i b0 hb0;cases ht:Nat.beq t b0.ty<;>rw[ht]at h
   ·simp at h
   ·simp only[cond_true]at h;split at h
    ·rename_i v1 h1;split at h
     ·rename_i v2 h2;simp at h;subst h;obtain⟨q1,q3,q2⟩:=Qy (ρ:=ρ) (w:=w) (boxes:=boxes) hrl h1 hs.left;simp only[ES]at hk;generalize hb:D7 rl l cs i=q at q1 q2 q3 hk;obtain⟨c,i'⟩:=q;simp only at q1 q2 q3 hk;subst q1;simp only[Ab]at hk;cases hjk:Nat.beq j k<;>rw[hjk]at hk
      ·obtain⟨p1,p2⟩:=Qr3 hrl h2 hs.right k b hk;exact⟨by simp at p1⊢;exact .inr p1,p2⟩
      ·have:=Nat.eq_of_beq_eq_true hjk;subst this;simp at hk;subst hk;exact⟨by simp,b0,hb0,Nat.eq_of_beq_eq_true ht,q2⟩
     ·simp at h
    ·simp at h
  ·simp at h
theorem Qru {l:List AC}:∀{rs:List (Nat×TypeId×List Kd)} {v:List AC},Jg rs rows=some v->∀{i},Seg l i v->
  (Gz l rs i).2=i+v.length/\(∀id r,Ab (Gz l rs i).1 id=some r->Ab rows id=some r)/\∀id t ks,Ab rs id=some (t,ks)->∃r,Ab (Gz l rs i).1 id=some r/\r.ks=ks
 |[],v,h,i,_=>by simp[Jg]at h;subst h;exact⟨rfl,fun id r h=>by simp[Gz,Ab]at h,fun id t ks h=>by simp[Ab]at h⟩
 |(k,t,ks)::rs,v,h,i,hs=>by
  simp only[Jg]at h;split at h
  ·rename_i r hr;cases hb:(Nat.beq t r.ty&&CR ks r.ks)<;>rw[hb]at h
   ·simp at h
   ·simp only[cond_true]at h;simp only[Bool.and_eq_true]at hb;split at h
    ·rename_i vs hvs;simp at h;subst h;have hs':Seg l i ([.view ks r.l]++vs):=hs;obtain⟨q1,q2,q3⟩:=Qru hvs (i:=i+1) hs'.right;simp only[Gz,hs'.left.one,BL];generalize hB:Gz l rs (i+1)=q at q1 q2 q3;obtain⟨B,i'⟩:=q;simp only at q1 q2 q3;refine⟨by simp only[q1,List.length_cons];omega,fun id r' hi=> ?_,fun id t' ks' hi=> ?_⟩
     ·simp only[Ab]at hi;cases hk:Nat.beq k id<;>rw[hk]at hi
      ·exact q2 id r' hi
      ·have:=Nat.eq_of_beq_eq_true hk;subst this;simp at hi;subst hi;rw[hr,Nat.eq_of_beq_eq_true hb.1,IU hb.2]
     ·simp only[Ab]at hi⊢;cases hk:Nat.beq k id<;>rw[hk]at hi
      ·simp only[cond_false]at hi⊢;exact q3 id t' ks' hi
      ·simp at hi;obtain⟨_,rfl⟩:=hi;exact⟨_,rfl,rfl⟩
    ·simp at h
  ·simp at h
section names
variable {keys:List Nat} {rs:List (Nat×TypeId×List Kd)} {B':List (Nat×Box)} {R':List (Nat×Row)} {rl:Nat->Nat}
theorem UI (hk:∀k∈keys,∃b,Ab B' k=some b):∀(l:List (Nat×Nat)),Aj (fun p:Nat×Nat=>AK keys p.1) l=true->∀a∈LG l,AC.wfP B' a
 |[],_,a,ha=>by simp[LG]at ha
 |(k,o)::l,h,a,ha=>by
  have h1:=Av.1 h;simp only[LG,List.mem_cons]at ha;rcases ha with rfl|ha
  ·exact hk k (E3.1 (h1 (k,o) (by simp)))
  ·exact UI hk l (Av.2 fun p hp=>h1 p (by simp[hp])) a ha
theorem Zcj (hk:∀k∈keys,∃b,Ab B' k=some b) (hr:∀id t ks,Ab rs id=some (t,ks)->∃r,Ab R' id=some r/\r.ks=ks/\rl id=r.l.length) {c:CS} (hc:c.okB keys rs=true) (l:List AC) (i:Nat):AC.wf B' R' (D6 rl l c i).1:=by
 cases c<;>simp only[D6]<;>try trivial
 case rawc=>simp only[LB];split<;>trivial
 case ptr k o=>exact hk k (E3.1 hc)
 case bsl k o=>exact hk k (E3.1 hc)
 case own id wd=>
  simp only[CS.okB]at hc;split at hc
  ·rename_i t ks hl;obtain⟨r,h1,h2,h3⟩:=hr id t ks hl;refine⟨r,h1,h3.symm,?_⟩;show r.ks.length=wd;rw[h2];exact Nat.eq_of_beq_eq_true hc
  ·simp at hc
 case clo f fs cs=>
  simp only[CS.okB,Bool.and_eq_true]at hc;exact⟨UI hk fs hc.1,UI hk cs hc.2⟩
theorem Sf (hk:∀k∈keys,∃b,Ab B' k=some b) (hr:∀id t ks,Ab rs id=some (t,ks)->∃r,Ab R' id=some r/\r.ks=ks/\rl id=r.l.length):∀{cs:List CS},Aj (CS.okB keys rs) cs=true->∀(l:List AC) (i:Nat),∀a∈(D7 rl l cs i).1,AC.wf B' R' a
 |[],_,l,i,a,ha=>by simp[D7]at ha
 |c::cs,h,l,i,a,ha=>by
  have h1:=Av.1 h;simp only[D7,List.mem_cons]at ha;rcases ha with rfl|ha
  ·exact Zcj hk hr (h1 c (by simp)) l i
  ·exact Sf hk hr (Av.2 fun c hc=>h1 c (by simp[hc])) l _ a ha
theorem Qut (hk:∀k∈keys,∃b,Ab B' k=some b) (hr:∀id t ks,Ab rs id=some (t,ks)->∃r,Ab R' id=some r/\r.ks=ks/\rl id=r.l.length):∀{ps:List (Bool×List CS)},Aj (fun p:Bool×List CS=>Aj (CS.okB keys rs) p.2) ps=true->∀(l:List AC) (i:Nat),∀p∈(Gx rl l ps i).1,∀a∈p.2,AC.wf B' R' a
 |[],_,l,i,p,hp=>by simp[Gx]at hp
 |(g,cs)::ps,h,l,i,p,hp=>by
  have h1:=Av.1 h;simp only[Gx,List.mem_cons]at hp;rcases hp with rfl|hp
  ·exact Sf hk hr (h1 (g,cs) (by simp)) l i
  ·exact Qut hk hr (Av.2 fun c hc=>h1 c (by simp[hc])) l _ p hp
theorem Zwc (hk:∀k∈keys,∃b,Ab B' k=some b) (hr:∀id t ks,Ab rs id=some (t,ks)->∃r,Ab R' id=some r/\r.ks=ks/\rl id=r.l.length) {t:TS} (ht:t.okB keys rs=true) (l:List AC) (i:Nat):TV.wf B' R' (Hx rl l t i).1:=by
 cases t with
 |dead=>trivial
 |v g cs=>exact Sf hk hr ht l i
 |tup ps=>exact Qut hk hr ht l i
theorem Qib (hk:∀k∈keys,∃b,Ab B' k=some b) (hr:∀id t ks,Ab rs id=some (t,ks)->∃r,Ab R' id=some r/\r.ks=ks/\rl id=r.l.length):∀{ts:List TS},Aj (TS.okB keys rs) ts=true->∀(l:List AC) (i:Nat),∀v∈(EQ rl l ts i).1,TV.wf B' R' v
 |[],_,l,i,v,hv=>by simp[EQ]at hv
 |t::ts,h,l,i,v,hv=>by
  have h1:=Av.1 h;simp only[EQ,List.mem_cons]at hv;rcases hv with rfl|hv
  ·exact Zwc hk hr (h1 t (by simp)) l i
  ·exact Qib hk hr (Av.2 fun c hc=>h1 c (by simp[hc])) l _ v hv
theorem Q3l (hk:∀k∈keys,∃b,Ab B' k=some b) (hr:∀id t ks,Ab rs id=some (t,ks)->∃r,Ab R' id=some r/\r.ks=ks/\rl id=r.l.length):∀{bs:List (Nat×TypeId×List CS)},Aj (fun p:Nat×TypeId×List CS=>Aj (CS.okB keys rs) p.2.2) bs=true->∀(l:List AC) (i k:Nat) (b:Box),Ab (ES rl l bs i) k=some b->∀a∈b.cells,AC.wf B' R' a
 |[],_,l,i,k,b,hb=>by simp[ES,Ab]at hb
 |(j,t,cs)::bs,h,l,i,k,b,hb=>by
  have h1:=Av.1 h;simp only[ES,Ab]at hb;cases hj:Nat.beq j k<;>rw[hj]at hb
  ·exact Q3l hk hr (Av.2 fun c hc=>h1 c (by simp[hc])) l _ k b hb
  ·simp at hb;subst hb;exact Sf hk hr (h1 (j,t,cs) (by simp)) l i
end names
theorem Qwx {rl:Nat->Nat} (l:List AC):∀(bs:List (Nat×TypeId×List CS)) (i k:Nat),k∈bs.map (·.1)->∃b,Ab (ES rl l bs i) k=some b
 |[],_,k,h=>by simp at h
 |(j,t,cs)::bs,i,k,h=>by
  simp only[ES,Ab];cases hj:Nat.beq j k
  ·have:k∈bs.map (·.1):=by
    simp only[List.map_cons,List.mem_cons]at h;exact h.resolve_left fun e=>Gs hj e.symm
   exact Qwx l bs _ k this
  ·exact⟨_,rfl⟩
theorem RelE.rebuild {sk:Sk} {vars:List AC} (h:RelE Z tm boxes rows ρ tmps w) (hZ:∀k b,Z.K0 k=some b->F0 k=true) (hok:sk.okB=true) (hr:E8 sk ⟨tm,boxes,rows⟩=some vars):
  RelE Z (Bn sk vars).tmps (Bn sk vars).boxes (Bn sk vars).rows ρ tmps w:=by
 simp only[E8]at hr;obtain ⟨hin, hr⟩ : Aj (fun p : Nat × Box => !(F0 p.1) || AK (sk.boxes.map (·.1)) p.1) boxes = true /\ (match Jg sk.rows rows with
  |some a=>match JU sk.tmps tm with
   |some b=>match Kk sk.boxes boxes with
    |some c=>some (a++(b++c))
    |none=>none
   |none=>none
  |none=>none)=some vars:=by
  revert hr
  generalize Aj (fun p:Nat×Box=> !(F0 p.1)||AK (sk.boxes.map (·.1)) p.1) boxes=q;intro hr;cases q
  ·simp at hr
  ·exact⟨rfl,hr⟩
 split at hr
 ·rename_i va hva;split at hr
  ·rename_i vb hvb;split at hr
   ·rename_i vc hvc;simp at hr;subst hr;have hall:=Seg.all (va++(vb++vc));generalize hl:va++(vb++vc)=l at hall⊢;rw[<-hl]at hall;have hsa:Seg l 0 va:=by rw[<-hl];exact(Seg.all _).left
    have hsb:Seg l (0+va.length) vb:=by rw[<-hl];exact(Seg.all _).right.left
    have hsc:Seg l (0+va.length+vb.length) vc:=by rw[<-hl];exact(Seg.all _).right.right
    obtain⟨r1,r2,r3⟩:=Qru hva hsa;simp only[Bn];generalize hR:Gz l sk.rows 0=qr at r1 r2 r3;obtain⟨R',ir⟩:=qr;simp only at r1 r2 r3⊢;subst r1;have hdis:sk.okB=true:=hok;simp only[Sk.okB,Bool.and_eq_true]at hok;obtain⟨⟨⟨ok1,ok2⟩,ok3⟩,ok4⟩:=hok
    have hown:∀id r,Ab R' id=some r->Dy R' id=r.l.length:=fun id r hl=>by simp only[Dy,hl]
    have hkeys:∀k∈sk.boxes.map (·.1),∃b,Ab (ES (Dy R') l sk.boxes (0+va.length+vb.length)) k=some b:=fun k hk=>Qwx l sk.boxes _ k hk;have hrr:∀id t ks,Ab sk.rows id=some (t,ks)->∃r,Ab R' id=some r/\r.ks=ks/\Dy R' id=r.l.length:=fun id t ks hl=>by
     obtain⟨r,q1,q2⟩:=r3 id t ks hl;exact⟨r,q1,q2,hown id r q1⟩
    let rl':Nat->Nat:=fun id=>match Ab rows id with
     |some r=>r.l.length
     |none=>0
    have hbl:Built rows rl':=⟨fun id r hl=>by simp only[rl',hl]⟩;have hsame:∀id t ks,Ab sk.rows id=some (t,ks)->rl' id=Dy R' id:=fun id t ks hl=>by
     obtain⟨r,q1,_,q3⟩:=hrr id t ks hl;simp only[rl',r2 id r q1,q3]
    have eC:∀(c:CS) (i:Nat),c.okB (sk.boxes.map (·.1)) sk.rows=true->D6 rl' l c i=D6 (Dy R') l c i:=by
     intro c i hc;cases c<;>try rfl
     rename_i id wd;simp only[CS.okB]at hc;split at hc
     ·rename_i t ks hl;simp only[D6,hsame id t ks hl]
     ·simp at hc
    have eCs:∀(cs:List CS) (i:Nat),Aj (CS.okB (sk.boxes.map (·.1)) sk.rows) cs=true->D7 rl' l cs i=D7 (Dy R') l cs i:=by
     intro cs;induction cs with
     |nil=>intro i _;rfl
     |cons c cs ih=>
      intro i hc;have h1:=Av.1 hc;simp only[D7];rw[eC c i (h1 c (by simp))];rw[ih _ (Av.2 fun c hc=>h1 c (by simp[hc]))]
    have ePs:∀(ps:List (Bool×List CS)) (i:Nat),Aj (fun p:Bool×List CS=>Aj (CS.okB (sk.boxes.map (·.1)) sk.rows) p.2) ps=true->Gx rl' l ps i=Gx (Dy R') l ps i:=by
     intro ps;induction ps with
     |nil=>intro i _;rfl
     |cons p ps ih=>
      intro i hc;obtain⟨g,cs⟩:=p;have h1:=Av.1 hc;simp only[Gx];rw[eCs cs i (h1 (g,cs) (by simp))];rw[ih _ (Av.2 fun c hc=>h1 c (by simp[hc]))]
    have eT:∀(t:TS) (i:Nat),t.okB (sk.boxes.map (·.1)) sk.rows=true->Hx rl' l t i=Hx (Dy R') l t i:=by
     intro t i ht;cases t with
     |dead=>rfl
     |v g cs=>simp only[Hx];rw[eCs cs i ht]
     |tup ps=>simp only[Hx];rw[ePs ps i ht]
    have eTs:∀(ts:List TS) (i:Nat),Aj (TS.okB (sk.boxes.map (·.1)) sk.rows) ts=true->EQ rl' l ts i=EQ (Dy R') l ts i:=by
     intro ts;induction ts with
     |nil=>intro i _;rfl
     |cons c cs ih=>
      intro i hc;have h1:=Av.1 hc;simp only[EQ];rw[eT c i (h1 c (by simp))];rw[ih _ (Av.2 fun c hc=>h1 c (by simp[hc]))]
    have eBs:∀(bs:List (Nat×TypeId×List CS)) (i:Nat),Aj (fun p:Nat×TypeId×List CS=>Aj (CS.okB (sk.boxes.map (·.1)) sk.rows) p.2.2) bs=true->ES rl' l bs i=ES (Dy R') l bs i:=by
     intro bs;induction bs with
     |nil=>intro i _;rfl
     |cons p bs ih=>
      intro i hc;obtain⟨k,t,cs⟩:=p;have h1:=Av.1 hc;simp only[ES];rw[eCs cs i (h1 (k,t,cs) (by simp))];rw[ih _ (Av.2 fun c hc=>h1 c (by simp[hc]))]
    have hT:=QV (ρ:=ρ) (w:=w) (boxes:=boxes) hbl hvb hsb;rw[eTs sk.tmps _ ok3]at hT;obtain⟨t1,t2,t3⟩:=hT;have tw:=Qib (rl:=Dy R') hkeys hrr ok3 l (0+va.length);generalize hT':EQ (Dy R') l sk.tmps (0+va.length)=qt at t1 t2 t3 tw;obtain⟨T',it⟩:=qt;simp only at t1 t2 t3 tw⊢;subst t1;have hB:=Qr3 (ρ:=ρ) (w:=w) hbl hvc hsc;rw[eBs sk.boxes _ ok4]at hB;refine⟨by rw[t2];exact h.tl,fun i v hi=> ?_,tw,Q3l hkeys hrr ok4 l _,fun k b hk=> ?_,fun k k' b b' hk hk' he=> ?_,fun id r hi=>h.ro id r (r2 id r hi),fun id id' r r' g hi hi'=>h.ri id id' r r' g (r2 id r hi) (r2 id' r' hi'),fun k b id r hk hi=> ?_,fun b hb=> ?_,h.fr,h.fs,h.i0,h.i1,fun k b hk=> ?_⟩
    ·obtain⟨u,hu,hx⟩:=t3 i v hi;exact hx _ (h.wt u (List.mem_of_getElem? hu)) (h.tv i u hu)
    ·obtain⟨_,b0,q1,q2,q3⟩:=hB k b hk;obtain⟨arr,p1,p2,p3⟩:=h.bx k b0 q1;exact⟨arr,by rw[q2];exact p1,q3 _ (h.wb k b0 q1) p2,p3⟩
    ·obtain⟨_,b0,q1,_⟩:=hB k b hk;obtain⟨_,b0',q1',_⟩:=hB k' b' hk';exact h.bi k k' _ _ q1 q1' he
    ·obtain⟨_,b0,q1,_⟩:=hB k b hk;exact h.br k b0 id r q1 (r2 id r hi)
    ·obtain⟨q1,q2,q3⟩:=h.ib b hb;exact⟨q1,fun k bo hk=>by obtain⟨_,b0,p1,_⟩:=hB k bo hk;exact q2 k b0 p1,fun id r hi=>q3 id r (r2 id r hi)⟩
    ·obtain⟨q1,bo,q2⟩:=h.k0 k b hk;refine⟨q1,hkeys k ?_⟩;have:=Av.1 hin (k,bo) (OA q2);simp only[hZ k b hk,Bool.not_true,Bool.false_or]at this;exact E3.1 this
   ·simp at hr
  ·simp at hr
 ·simp at hr
end
end Go.Bm
