/- the abstract machine -/
import Derived.Test.YtommijghjlikkaaGreatBmFz
import Derived.ArgAppend
import Derived.LoopN
set_option linter.unusedVariables false
set_option linter.unusedSimpArgs false
namespace Go.Bm
open Go.RowKit
section
variable {P:Program} {C:Cfg} {ρ:Env} {w:World} {R:Type} {Z:Base} {tm:List TV} {aB:List (Nat×Box)} {aC:List (Nat×Row)} {tmps:Array Value}
theorem YX:∀{l:List (Nat×Nat)} {cs:List AC},Jg l cs=true->cs=Lz l
 |[],[],_=>rfl
 |(k,o)::l,a::cs,h=>by
  cases a<;>simp only[Jg]at h<;>try (simp at h;done)
  simp only[Bool.and_eq_true]at h;rw[Nat.eq_of_beq_eq_true h.1.1,Nat.eq_of_beq_eq_true h.1.2,YX h.2];rfl
 |[],_::_,h=>by simp[Jg]at h
 |_::_,[],h=>by simp[Jg]at h
structure Built (aC : List (Nat × Row)) (rl : Nat -> Nat) : Prop where
 rl:∀id r,Ab aC id=some r->rl id=r.l.length
def Seg (l:List AC) (i:Nat) (v:List AC):Prop:=∀j,j<v.length->nth .dead l (i+j)=nth .dead v j
theorem Seg.left {l:List AC} {i:Nat} {v u:List AC} (h:Seg l i (v++u)):Seg l i v:=fun j hj=>by
 rw[h j (by simp;omega),BR,BR,List.getD,List.getD,List.getElem?_append_left hj]
theorem Seg.right {l:List AC} {i:Nat} {v u:List AC} (h:Seg l i (v++u)):Seg l (i+v.length) u:=fun j hj=>by
 rw[Nat.add_assoc,h (v.length+j) (by simp;omega),BR,BR,List.getD,List.getD,List.getElem?_append_right (by omega)];simp
theorem Seg.one {l:List AC} {i:Nat} {a:AC} (h:Seg l i [a]):nth .dead l i=a:=h 0 (by simp)
theorem Seg.all (l:List AC):Seg l 0 l:=fun j _=>by rw[Nat.zero_add]
theorem Zx4 {rl:Nat->Nat} (hrl:Built aC rl) {c:CS} {a:AC} {v:List AC} (h:Kq c a=some v) {l:List AC} {i:Nat} (hs:Seg l i v):
  (DN rl l c i).2=i+v.length/\∀x,AC.wf aB aC a->CC ρ w a x->CC ρ w (DN rl l c i).1 x:=by
 cases c<;>cases a<;>simp only[Kq]at h<;>try (simp at h;done)
 case any.dead=>simp at h;subst h;exact⟨rfl,fun x _ h=>h.one⟩
 case any.int=>simp at h;subst h;exact⟨rfl,fun x _ h=>h.one⟩
 case any.bool=>simp at h;subst h;exact⟨rfl,fun x _ h=>h.one⟩
 case any.raw=>simp at h;subst h;exact⟨rfl,fun x _ h=>h.one⟩
 case any.nilSl=>simp at h;subst h;exact⟨rfl,fun x _ h=>h.one⟩
 case any.ptr=>simp at h;subst h;exact⟨rfl,fun x _ h=>h.one⟩
 case any.own=>simp at h;subst h;exact⟨rfl,fun x _ h=>h.one⟩
 case any.view=>simp at h;subst h;exact⟨rfl,fun x _ h=>h.one⟩
 case any.rptr=>simp at h;subst h;exact⟨rfl,fun x _ h=>h.one⟩
 case any.vptr=>simp at h;subst h;exact⟨rfl,fun x _ h=>h.one⟩
 case any.clo=>simp at h;subst h;exact⟨rfl,fun x _ h=>h.one⟩
 case any.bsl=>simp at h;subst h;exact⟨rfl,fun x _ h=>h.one⟩
 case int.int k k' n=>
  cases hk:kEq k k'<;>rw[hk]at h
  ·simp at h
  ·simp at h;subst h;rw[<-NB hk];refine⟨rfl,fun x _ h=> ?_⟩;simp only[DN,hs.one,Af];exact h
 case bool.bool b=>
  simp at h;subst h;refine⟨rfl,fun x _ h=> ?_⟩;simp only[DN,hs.one,Dp];exact h
 case sl.nilSl ks=>
  simp at h;subst h;refine⟨rfl,fun x _ h=> ?_⟩;simp only[CC,CP]at h;subst h;simp only[DN,hs.one,BI];exact Tg ks
 case sl.view ks ks' l=>
  cases hk:CT ks ks'<;>rw[hk]at h
  ·simp at h
  ·simp at h;subst h;rw[<-IK hk];refine⟨rfl,fun x _ h=> ?_⟩;simp only[DN,hs.one,BI];exact h
 case rawc.raw v=>
  simp at h;subst h;refine⟨rfl,fun x _ h=> ?_⟩;simp only[DN,hs.one];exact h
 case nil.nilSl=>simp at h;subst h;exact⟨rfl,fun x _ h=>h⟩
 case ptr.ptr k o k' o'=>
  cases hk:(Nat.beq k k'&&Nat.beq o o')<;>rw[hk]at h
  ·simp at h
  ·simp at h;subst h;simp only[Bool.and_eq_true]at hk;rw[<-Nat.eq_of_beq_eq_true hk.1,<-Nat.eq_of_beq_eq_true hk.2];exact⟨rfl,fun x _ h=>h⟩
 case bsl.bsl k o k' o'=>
  cases hk:(Nat.beq k k'&&Nat.beq o o')<;>rw[hk]at h
  ·simp at h
  ·simp at h;subst h;simp only[Bool.and_eq_true]at hk;rw[<-Nat.eq_of_beq_eq_true hk.1,<-Nat.eq_of_beq_eq_true hk.2];exact⟨rfl,fun x _ h=>h⟩
 case own.own id wd id' wd' n=>
  cases hk:(Nat.beq id id'&&Nat.beq wd wd')<;>rw[hk]at h
  ·simp at h
  ·simp at h;subst h;simp only[Bool.and_eq_true]at hk;rw[<-Nat.eq_of_beq_eq_true hk.1,<-Nat.eq_of_beq_eq_true hk.2];refine⟨rfl,fun x hw h=> ?_⟩;obtain⟨r,h1,h2,h3⟩:=hw;show CC ρ w (.own id wd (rl id)) x;rw[hrl.rl id r h1];have:r.l.length=n:=h2;rw[this];exact h
 case clo.clo f fs cs f' fs' cs'=>
  cases hk:(Nat.beq f f'&&Jg fs fs'&&Jg cs cs')<;>rw[hk]at h
  ·simp at h
  ·simp at h;subst h;simp only[Bool.and_eq_true]at hk;rw[<-Nat.eq_of_beq_eq_true hk.1.1,YX hk.1.2,YX hk.2];exact⟨rfl,fun x _ h=>h⟩
theorem SG {rl:Nat->Nat} (hrl:Built aC rl) {l:List AC}:∀{cs:List CS} {as:List AC} {v:List AC},Gq cs as=some v->∀{i},Seg l i v->
  (DR rl l cs i).2=i+v.length/\(DR rl l cs i).1.length=as.length/\∀xs,(∀a∈as,AC.wf aB aC a)->CL (CC ρ w) as xs->CL (CC ρ w) (DR rl l cs i).1 xs
 |[],[],v,h,i,_=>by simp[Gq]at h;subst h;exact⟨rfl,rfl,fun xs _ h=>h⟩
 |c::cs,a::as,v,h,i,hs=>by
  simp only[Gq]at h;split at h
  ·rename_i v1 h1;split at h
   ·rename_i v2 h2;simp at h;subst h;obtain⟨q1,q2⟩:=Zx4 (ρ:=ρ) (w:=w) (aB:=aB) hrl h1 hs.left;obtain⟨p1,p3,p2⟩:=SG hrl h2 hs.right;simp only[DR];generalize hb:DN rl l c i=q at q1 q2;obtain⟨b,i'⟩:=q;simp only at q1 q2;subst q1;refine⟨by simp only[p1,List.length_append];omega,by simp[p3],fun xs hw hx=> ?_⟩;cases xs with
    |nil=>exact hx.elim
    |cons x xs=>exact⟨q2 x (hw a (by simp)) hx.1,p2 xs (fun b hb=>hw b (by simp[hb])) hx.2⟩
   ·simp at h
  ·simp at h
 |[],_::_,v,h,_,_=>by simp[Gq]at h
 |_::_,[],v,h,_,_=>by simp[Gq]at h
theorem Qui {rl:Nat->Nat} (hrl:Built aC rl) {l:List AC}:∀{ps:List (Bool×List CS)} {qs:List (Bool×List AC)} {v:List AC},L_ ps qs=some v->∀{i},Seg l i v->
  (GX rl l ps i).2=i+v.length/\∀xs,(∀p∈qs,∀a∈p.2,AC.wf aB aC a)->TP ρ w qs xs->TP ρ w (GX rl l ps i).1 xs
 |[],[],v,h,i,_=>by simp[L_]at h;subst h;exact⟨rfl,fun xs _ h=>h⟩
 |(g,cs)::ps,(g',as)::qs,v,h,i,hs=>by
  simp only[L_]at h;cases hg:(g==g')<;>rw[hg]at h
  ·simp at h
  ·simp only[cond_true]at h;have hg':g=g':=by simpa using hg
   subst hg';split at h
   ·rename_i v1 h1;split at h
    ·rename_i v2 h2;simp at h;subst h;obtain⟨q1,q3,q2⟩:=SG (ρ:=ρ) (w:=w) (aB:=aB) hrl h1 hs.left;obtain⟨p1,p2⟩:=Qui hrl h2 hs.right;simp only[GX];generalize hb:DR rl l cs i=q at q1 q2 q3;obtain⟨b,i'⟩:=q;simp only at q1 q2 q3;subst q1;refine⟨by simp only[p1,List.length_append];omega,fun xs hw hx=> ?_⟩;cases xs with
     |nil=>exact hx.elim
     |cons x xs=>
      refine⟨?_,p2 xs (fun p hp=>hw p (by simp[hp])) hx.2⟩;have hx1:=hx.1;have hw1:=hw (g,as) (by simp);cases g
      ·obtain⟨a,e1,e2⟩:=hx1;dsimp only at e1 hw1;subst e1;have:=q2 [x] hw1 ⟨e2,trivial⟩;cases b with
       |nil=>simp at q3
       |cons c b=>
        cases b with
        |nil=>exact⟨c,rfl,this.1⟩
        |cons=>simp at q3
      ·obtain⟨ys,e1,e2⟩:=hx1;exact⟨ys,e1,q2 _ hw1 e2⟩
    ·simp at h
   ·simp at h
 |[],_::_,v,h,_,_=>by simp[L_]at h
 |(_,_)::_,[],v,h,_,_=>by simp[L_]at h
theorem Zrv {rl:Nat->Nat} (hrl:Built aC rl) {t:TS} {u:TV} {v:List AC} (h:IN t u=some v) {l:List AC} {i:Nat} (hs:Seg l i v):
  (HN rl l t i).2=i+v.length/\∀x,TV.wf aB aC u->TVR ρ w u x->TVR ρ w (HN rl l t i).1 x:=by
 cases t with
 |dead=>simp[IN]at h;subst h;exact⟨rfl,fun _ _ _=>trivial⟩
 |v g cs=>
  cases u with
  |dead=>simp[IN]at h
  |tup=>simp[IN]at h
  |v g' as=>
   simp only[IN]at h;cases hg:(g==g')<;>rw[hg]at h
   ·simp at h
   ·simp only[cond_true]at h;have hg':g=g':=by simpa using hg
    subst hg';obtain⟨q1,q3,q2⟩:=SG (ρ:=ρ) (w:=w) (aB:=aB) hrl h hs;simp only[HN];generalize hb:DR rl l cs i=q at q1 q2 q3;obtain⟨b,i'⟩:=q;simp only at q1 q2 q3;refine⟨q1,fun x hw hx=> ?_⟩;cases g
    ·obtain⟨a,rfl,e2⟩:=hx;have:=q2 [x] hw ⟨e2,trivial⟩;cases b with
     |nil=>simp at q3
     |cons c b=>
      cases b with
      |nil=>exact⟨c,rfl,this.1⟩
      |cons=>simp at q3
    ·obtain⟨ys,rfl,e2⟩:=hx;exact⟨ys,rfl,q2 _ hw e2⟩
 |tup ps=>
  cases u with
  |dead=>simp[IN]at h
  |v=>simp[IN]at h
  |tup qs=>
   simp only[IN]at h;obtain⟨q1,q2⟩:=Qui (ρ:=ρ) (w:=w) (aB:=aB) hrl h hs;simp only[HN];generalize hb:GX rl l ps i=q at q1 q2;obtain⟨b,i'⟩:=q;simp only at q1 q2;exact⟨q1,fun x hw ⟨ys,e1,e2⟩=>⟨ys,e1,q2 _ hw e2⟩⟩
theorem Tn {rl:Nat->Nat} (hrl:Built aC rl) {l:List AC}:∀{ts:List TS} {us:List TV} {v:List AC},JW ts us=some v->∀{i},Seg l i v->
  (EP rl l ts i).2=i+v.length/\(EP rl l ts i).1.length=us.length/\∀(n:Nat) (b:TV),(EP rl l ts i).1[n]? =some b->∃u,us[n]? =some u/\∀x,TV.wf aB aC u->TVR ρ w u x->TVR ρ w b x
 |[],[],v,h,i,_=>by simp[JW]at h;subst h;exact⟨rfl,rfl,fun i b h=>by simp[EP]at h⟩
 |t::ts,u::us,v,h,i,hs=>by
  simp only[JW]at h;split at h
  ·rename_i v1 h1;split at h
   ·rename_i v2 h2;simp at h;subst h;obtain⟨q1,q2⟩:=Zrv (ρ:=ρ) (w:=w) (aB:=aB) hrl h1 hs.left;obtain⟨p1,p3,p2⟩:=Tn hrl h2 hs.right;simp only[EP];generalize hb:HN rl l t i=q at q1 q2;obtain⟨b,i'⟩:=q;simp only at q1 q2;subst q1;refine⟨by simp only[p1,List.length_append];omega,by simp[p3],fun n c hi=> ?_⟩;cases n with
    |zero=>simp at hi;subst hi;exact⟨u,rfl,q2⟩
    |succ n=>obtain⟨u',e1,e2⟩:=p2 n c (by simpa using hi);exact⟨u',by simpa using e1,e2⟩
   ·simp at h
  ·simp at h
 |[],_::_,v,h,_,_=>by simp[JW]at h
 |_::_,[],v,h,_,_=>by simp[JW]at h
theorem Q7q {rl:Nat->Nat} (hrl:Built aC rl) {l:List AC}:∀{bs:List (Nat×TypeId×List CS)} {v:List AC},Kj bs aB=some v->∀{i},Seg l i v->
  ∀k b,Ab (EG rl l bs i) k=some b->k∈bs.map (·.1)/\∃b0,Ab aB k=some b0/\b.ty=b0.ty/\∀xs,(∀a∈b0.cells,AC.wf aB aC a)->CL (CC ρ w) b0.cells xs->CL (CC ρ w) b.cells xs
 |[],v,h,i,_,k,b,hk=>by simp[EG,Ab]at hk
 |(j,t,cs)::bs,v,h,i,hs,k,b,hk=>by
  simp only[Kj]at h;split at h
  ·rename_i b0 hb0;cases ht:Nat.beq t b0.ty<;>rw[ht]at h
   ·simp at h
   ·simp only[cond_true]at h;split at h
    ·rename_i v1 h1;split at h
     ·rename_i v2 h2;simp at h;subst h;obtain⟨q1,q3,q2⟩:=SG (ρ:=ρ) (w:=w) (aB:=aB) hrl h1 hs.left;simp only[EG]at hk;generalize hb:DR rl l cs i=q at q1 q2 q3 hk;obtain⟨c,i'⟩:=q;simp only at q1 q2 q3 hk;subst q1;simp only[Ab]at hk;cases hjk:Nat.beq j k<;>rw[hjk]at hk
      ·obtain⟨p1,p2⟩:=Q7q hrl h2 hs.right k b hk;exact⟨by simp at p1⊢;exact .inr p1,p2⟩
      ·have:=Nat.eq_of_beq_eq_true hjk;subst this;simp at hk;subst hk;exact⟨by simp,b0,hb0,Nat.eq_of_beq_eq_true ht,q2⟩
     ·simp at h
    ·simp at h
  ·simp at h
theorem Za1 {l:List AC}:∀{rs:List (Nat×TypeId×List Kd)} {v:List AC},Iy rs aC=some v->∀{i},Seg l i v->
  (Ha l rs i).2=i+v.length/\(∀id r,Ab (Ha l rs i).1 id=some r->Ab aC id=some r)/\∀id t ks,Ab rs id=some (t,ks)->∃r,Ab (Ha l rs i).1 id=some r/\r.ks=ks
 |[],v,h,i,_=>by simp[Iy]at h;subst h;exact⟨rfl,fun id r h=>by simp[Ha,Ab]at h,fun id t ks h=>by simp[Ab]at h⟩
 |(k,t,ks)::rs,v,h,i,hs=>by
  simp only[Iy]at h;split at h
  ·rename_i r hr;cases hb:(Nat.beq t r.ty&&CT ks r.ks)<;>rw[hb]at h
   ·simp at h
   ·simp only[cond_true]at h;simp only[Bool.and_eq_true]at hb;split at h
    ·rename_i vs hvs;simp at h;subst h;have hs':Seg l i ([.view ks r.l]++vs):=hs;obtain⟨q1,q2,q3⟩:=Za1 hvs (i:=i+1) hs'.right;simp only[Ha,hs'.left.one,BI];generalize hB:Ha l rs (i+1)=q at q1 q2 q3;obtain⟨B,i'⟩:=q;simp only at q1 q2 q3;refine⟨by simp only[q1,List.length_cons];omega,fun id r' hi=> ?_,fun id t' ks' hi=> ?_⟩
     ·simp only[Ab]at hi;cases hk:Nat.beq k id<;>rw[hk]at hi
      ·exact q2 id r' hi
      ·have:=Nat.eq_of_beq_eq_true hk;subst this;simp at hi;subst hi;rw[hr,Nat.eq_of_beq_eq_true hb.1,IK hb.2]
     ·simp only[Ab]at hi⊢;cases hk:Nat.beq k id<;>rw[hk]at hi
      ·simp only[cond_false]at hi⊢;exact q3 id t' ks' hi
      ·simp at hi;obtain⟨_,rfl⟩:=hi;exact⟨_,rfl,rfl⟩
    ·simp at h
  ·simp at h
section names
variable {keys:List Nat} {rs:List (Nat×TypeId×List Kd)} {B':List (Nat×Box)} {R':List (Nat×Row)} {rl:Nat->Nat}
theorem ZS (hk:∀k∈keys,∃b,Ab B' k=some b):∀(l:List (Nat×Nat)),Ak (fun p:Nat×Nat=>AR keys p.1) l=true->∀a∈Lz l,AC.wfP B' a
 |[],_,a,ha=>by simp[Lz]at ha
 |(k,o)::l,h,a,ha=>by
  have h1:=Ax.1 h;simp only[Lz,List.mem_cons]at ha;rcases ha with rfl|ha
  ·exact hk k (ED.1 (h1 (k,o) (by simp)))
  ·exact ZS hk l (Ax.2 fun p hp=>h1 p (by simp[hp])) a ha
theorem Zb7 (hk:∀k∈keys,∃b,Ab B' k=some b) (hr:∀id t ks,Ab rs id=some (t,ks)->∃r,Ab R' id=some r/\r.ks=ks/\rl id=r.l.length) {c:CS} (hc:c.okB keys rs=true) (l:List AC) (i:Nat):AC.wf B' R' (DN rl l c i).1:=by
 cases c<;>simp only[DN]<;>try trivial
 case rawc=>simp only[Lh];split<;>trivial
 case ptr k o=>exact hk k (ED.1 hc)
 case bsl k o=>exact hk k (ED.1 hc)
 case own id wd=>
  simp only[CS.okB]at hc;split at hc
  ·rename_i t ks hl;obtain⟨r,h1,h2,h3⟩:=hr id t ks hl;refine⟨r,h1,h3.symm,?_⟩;show r.ks.length=wd;rw[h2];exact Nat.eq_of_beq_eq_true hc
  ·simp at hc
 case clo f fs cs=>
  simp only[CS.okB,Bool.and_eq_true]at hc;exact⟨ZS hk fs hc.1,ZS hk cs hc.2⟩
theorem RL (hk:∀k∈keys,∃b,Ab B' k=some b) (hr:∀id t ks,Ab rs id=some (t,ks)->∃r,Ab R' id=some r/\r.ks=ks/\rl id=r.l.length):∀{cs:List CS},Ak (CS.okB keys rs) cs=true->∀(l:List AC) (i:Nat),∀a∈(DR rl l cs i).1,AC.wf B' R' a
 |[],_,l,i,a,ha=>by simp[DR]at ha
 |c::cs,h,l,i,a,ha=>by
  have h1:=Ax.1 h;simp only[DR,List.mem_cons]at ha;rcases ha with rfl|ha
  ·exact Zb7 hk hr (h1 c (by simp)) l i
  ·exact RL hk hr (Ax.2 fun c hc=>h1 c (by simp[hc])) l _ a ha
theorem Quy (hk:∀k∈keys,∃b,Ab B' k=some b) (hr:∀id t ks,Ab rs id=some (t,ks)->∃r,Ab R' id=some r/\r.ks=ks/\rl id=r.l.length):∀{ps:List (Bool×List CS)},Ak (fun p:Bool×List CS=>Ak (CS.okB keys rs) p.2) ps=true->∀(l:List AC) (i:Nat),∀p∈(GX rl l ps i).1,∀a∈p.2,AC.wf B' R' a
 |[],_,l,i,p,hp=>by simp[GX]at hp
 |(g,cs)::ps,h,l,i,p,hp=>by
  have h1:=Ax.1 h;simp only[GX,List.mem_cons]at hp;rcases hp with rfl|hp
  ·exact RL hk hr (h1 (g,cs) (by simp)) l i
  ·exact Quy hk hr (Ax.2 fun c hc=>h1 c (by simp[hc])) l _ p hp
theorem Zx1 (hk:∀k∈keys,∃b,Ab B' k=some b) (hr:∀id t ks,Ab rs id=some (t,ks)->∃r,Ab R' id=some r/\r.ks=ks/\rl id=r.l.length) {t:TS} (ht:t.okB keys rs=true) (l:List AC) (i:Nat):TV.wf B' R' (HN rl l t i).1:=by
 cases t with
 |dead=>trivial
 |v g cs=>exact RL hk hr ht l i
 |tup ps=>exact Quy hk hr ht l i
theorem U5 (hk:∀k∈keys,∃b,Ab B' k=some b) (hr:∀id t ks,Ab rs id=some (t,ks)->∃r,Ab R' id=some r/\r.ks=ks/\rl id=r.l.length):∀{ts:List TS},Ak (TS.okB keys rs) ts=true->∀(l:List AC) (i:Nat),∀v∈(EP rl l ts i).1,TV.wf B' R' v
 |[],_,l,i,v,hv=>by simp[EP]at hv
 |t::ts,h,l,i,v,hv=>by
  have h1:=Ax.1 h;simp only[EP,List.mem_cons]at hv;rcases hv with rfl|hv
  ·exact Zx1 hk hr (h1 t (by simp)) l i
  ·exact U5 hk hr (Ax.2 fun c hc=>h1 c (by simp[hc])) l _ v hv
theorem Q0f (hk:∀k∈keys,∃b,Ab B' k=some b) (hr:∀id t ks,Ab rs id=some (t,ks)->∃r,Ab R' id=some r/\r.ks=ks/\rl id=r.l.length):∀{bs:List (Nat×TypeId×List CS)},Ak (fun p:Nat×TypeId×List CS=>Ak (CS.okB keys rs) p.2.2) bs=true->∀(l:List AC) (i k:Nat) (b:Box),Ab (EG rl l bs i) k=some b->∀a∈b.cells,AC.wf B' R' a
 |[],_,l,i,k,b,hb=>by simp[EG,Ab]at hb
 |(j,t,cs)::bs,h,l,i,k,b,hb=>by
  have h1:=Ax.1 h;simp only[EG,Ab]at hb;cases hj:Nat.beq j k<;>rw[hj]at hb
  ·exact Q0f hk hr (Ax.2 fun c hc=>h1 c (by simp[hc])) l _ k b hb
  ·simp at hb;subst hb;exact RL hk hr (h1 (j,t,cs) (by simp)) l i
end names
theorem Q9n {rl:Nat->Nat} (l:List AC):∀(bs:List (Nat×TypeId×List CS)) (i k:Nat),k∈bs.map (·.1)->∃b,Ab (EG rl l bs i) k=some b
 |[],_,k,h=>by simp at h
 |(j,t,cs)::bs,i,k,h=>by
  simp only[EG,Ab];cases hj:Nat.beq j k
  ·have:k∈bs.map (·.1):=by
    simp only[List.map_cons,List.mem_cons]at h;exact h.resolve_left fun e=>GU hj e.symm
   exact Q9n l bs _ k this
  ·exact⟨_,rfl⟩
theorem RelE.rebuild {sk:Sk} {vars:List AC} (h:RelE Z tm aB aC ρ tmps w) (hZ:∀k b,Z.K0 k=some b->Fqs k=true) (hok:sk.okB=true) (hr:E2 sk ⟨tm,aB,aC⟩=some vars):
  RelE Z (Bq sk vars).tmps (Bq sk vars).aB (Bq sk vars).aC ρ tmps w:=by
 simp only[E2]at hr;obtain ⟨hin, hr⟩ : Ak (fun p : Nat × Box => !(Fqs p.1) || AR (sk.aB.map (·.1)) p.1) aB = true /\ (match Iy sk.aC aC with
  |some a=>match JW sk.tmps tm with
   |some b=>match Kj sk.aB aB with
    |some c=>some (a++(b++c))
    |none=>none
   |none=>none
  |none=>none)=some vars:=by
  revert hr
  generalize Ak (fun p:Nat×Box=> !(Fqs p.1)||AR (sk.aB.map (·.1)) p.1) aB=q;intro hr;cases q
  ·simp at hr
  ·exact⟨rfl,hr⟩
 split at hr
 ·rename_i va hva;split at hr
  ·rename_i vb hvb;split at hr
   ·rename_i vc hvc;simp at hr;subst hr;have hall:=Seg.all (va++(vb++vc));generalize hl:va++(vb++vc)=l at hall⊢;rw[<-hl]at hall;have hsa:Seg l 0 va:=by rw[<-hl];exact(Seg.all _).left
    have hsb:Seg l (0+va.length) vb:=by rw[<-hl];exact(Seg.all _).right.left
    have hsc:Seg l (0+va.length+vb.length) vc:=by rw[<-hl];exact(Seg.all _).right.right
    obtain⟨r1,r2,r3⟩:=Za1 hva hsa;simp only[Bq];generalize hR:Ha l sk.aC 0=qr at r1 r2 r3;obtain⟨R',ir⟩:=qr;simp only at r1 r2 r3⊢;subst r1;have hdis:sk.okB=true:=hok;simp only[Sk.okB,Bool.and_eq_true]at hok;obtain⟨⟨⟨ok1,ok2⟩,ok3⟩,ok4⟩:=hok
    have hown:∀id r,Ab R' id=some r->DG R' id=r.l.length:=fun id r hl=>by simp only[DG,hl]
    have hkeys:∀k∈sk.aB.map (·.1),∃b,Ab (EG (DG R') l sk.aB (0+va.length+vb.length)) k=some b:=fun k hk=>Q9n l sk.aB _ k hk;have hrr:∀id t ks,Ab sk.aC id=some (t,ks)->∃r,Ab R' id=some r/\r.ks=ks/\DG R' id=r.l.length:=fun id t ks hl=>by
     obtain⟨r,q1,q2⟩:=r3 id t ks hl;exact⟨r,q1,q2,hown id r q1⟩
    let rl':Nat->Nat:=fun id=>match Ab aC id with
     |some r=>r.l.length
     |none=>0
    have hbl:Built aC rl':=⟨fun id r hl=>by simp only[rl',hl]⟩;have hsame:∀id t ks,Ab sk.aC id=some (t,ks)->rl' id=DG R' id:=fun id t ks hl=>by
     obtain⟨r,q1,_,q3⟩:=hrr id t ks hl;simp only[rl',r2 id r q1,q3]
    have eC:∀(c:CS) (i:Nat),c.okB (sk.aB.map (·.1)) sk.aC=true->DN rl' l c i=DN (DG R') l c i:=by
     intro c i hc;cases c<;>try rfl
     rename_i id wd;simp only[CS.okB]at hc;split at hc
     ·rename_i t ks hl;simp only[DN,hsame id t ks hl]
     ·simp at hc
    have eCs:∀(cs:List CS) (i:Nat),Ak (CS.okB (sk.aB.map (·.1)) sk.aC) cs=true->DR rl' l cs i=DR (DG R') l cs i:=by
     intro cs;induction cs with
     |nil=>intro i _;rfl
     |cons c cs ih=>
      intro i hc;have h1:=Ax.1 hc;simp only[DR];rw[eC c i (h1 c (by simp))];rw[ih _ (Ax.2 fun c hc=>h1 c (by simp[hc]))]
    have ePs:∀(ps:List (Bool×List CS)) (i:Nat),Ak (fun p:Bool×List CS=>Ak (CS.okB (sk.aB.map (·.1)) sk.aC) p.2) ps=true->GX rl' l ps i=GX (DG R') l ps i:=by
     intro ps;induction ps with
     |nil=>intro i _;rfl
     |cons p ps ih=>
      intro i hc;obtain⟨g,cs⟩:=p;have h1:=Ax.1 hc;simp only[GX];rw[eCs cs i (h1 (g,cs) (by simp))];rw[ih _ (Ax.2 fun c hc=>h1 c (by simp[hc]))]
    have eT:∀(t:TS) (i:Nat),t.okB (sk.aB.map (·.1)) sk.aC=true->HN rl' l t i=HN (DG R') l t i:=by
     intro t i ht;cases t with
     |dead=>rfl
     |v g cs=>simp only[HN];rw[eCs cs i ht]
     |tup ps=>simp only[HN];rw[ePs ps i ht]
    have eTs:∀(ts:List TS) (i:Nat),Ak (TS.okB (sk.aB.map (·.1)) sk.aC) ts=true->EP rl' l ts i=EP (DG R') l ts i:=by
     intro ts;induction ts with
     |nil=>intro i _;rfl
     |cons c cs ih=>
      intro i hc;have h1:=Ax.1 hc;simp only[EP];rw[eT c i (h1 c (by simp))];rw[ih _ (Ax.2 fun c hc=>h1 c (by simp[hc]))]
    have eBs:∀(bs:List (Nat×TypeId×List CS)) (i:Nat),Ak (fun p:Nat×TypeId×List CS=>Ak (CS.okB (sk.aB.map (·.1)) sk.aC) p.2.2) bs=true->EG rl' l bs i=EG (DG R') l bs i:=by
     intro bs;induction bs with
     |nil=>intro i _;rfl
     |cons p bs ih=>
      intro i hc;obtain⟨k,t,cs⟩:=p;have h1:=Ax.1 hc;simp only[EG];rw[eCs cs i (h1 (k,t,cs) (by simp))];rw[ih _ (Ax.2 fun c hc=>h1 c (by simp[hc]))]
    have hT:=Tn (ρ:=ρ) (w:=w) (aB:=aB) hbl hvb hsb;rw[eTs sk.tmps _ ok3]at hT;obtain⟨t1,t2,t3⟩:=hT;have tw:=U5 (rl:=DG R') hkeys hrr ok3 l (0+va.length);generalize hT':EP (DG R') l sk.tmps (0+va.length)=qt at t1 t2 t3 tw;obtain⟨T',it⟩:=qt;simp only at t1 t2 t3 tw⊢;subst t1;have hB:=Q7q (ρ:=ρ) (w:=w) hbl hvc hsc;rw[eBs sk.aB _ ok4]at hB;refine⟨by rw[t2];exact h.tl,fun i v hi=> ?_,tw,Q0f hkeys hrr ok4 l _,fun k b hk=> ?_,fun k k' b b' hk hk' he=> ?_,fun id r hi=>h.ro id r (r2 id r hi),fun id id' r r' g hi hi'=>h.ri id id' r r' g (r2 id r hi) (r2 id' r' hi'),fun k b id r hk hi=> ?_,fun b hb=> ?_,h.fr,h.fs,h.i0,h.i1,fun k b hk=> ?_⟩
    ·obtain⟨u,hu,hx⟩:=t3 i v hi;exact hx _ (h.wt u (List.mem_of_getElem? hu)) (h.tv i u hu)
    ·obtain⟨_,b0,q1,q2,q3⟩:=hB k b hk;obtain⟨arr,p1,p2,p3⟩:=h.bx k b0 q1;exact⟨arr,by rw[q2];exact p1,q3 _ (h.wb k b0 q1) p2,p3⟩
    ·obtain⟨_,b0,q1,_⟩:=hB k b hk;obtain⟨_,b0',q1',_⟩:=hB k' b' hk';exact h.bi k k' _ _ q1 q1' he
    ·obtain⟨_,b0,q1,_⟩:=hB k b hk;exact h.br k b0 id r q1 (r2 id r hi)
    ·obtain⟨q1,q2,q3⟩:=h.ib b hb;exact⟨q1,fun k bo hk=>by obtain⟨_,b0,p1,_⟩:=hB k bo hk;exact q2 k b0 p1,fun id r hi=>q3 id r (r2 id r hi)⟩
    ·obtain⟨q1,bo,q2⟩:=h.k0 k b hk;refine⟨q1,hkeys k ?_⟩;have:=Ax.1 hin (k,bo) (NH q2);simp only[hZ k b hk,Bool.not_true,Bool.false_or]at this;exact ED.1 this
   ·simp at hr
  ·simp at hr
 ·simp at hr
end
end Go.Bm
namespace Go.Bm
open Go.RowKit
section
variable {P:Program} {C:Cfg} {ρ:Env} {w:World} {R:Type} {Z:Base} {tm:List TV} {aB:List (Nat×Box)} {aC:List (Nat×Row)} {tmps:Array Value}
theorem FF {α:Type}:∀(l:List α) (o:Nat) (vs:List α),o+vs.length<=l.length->splice l o vs=l.take o++vs++l.drop (o+vs.length)
 |l,o,[],h=>by simp[Pu]
 |[],o,_::_,h=>by simp at h
 |x::l,0,v::vs,h=>by
  simp only[splice,List.take_zero,List.nil_append,List.cons_append];rw[FF l 0 vs (by simp at h⊢;omega)];simp
 |x::l,o+1,v::vs,h=>by
  simp only[splice];rw[FF l o (v::vs) (by simp at h⊢;omega)];simp only[List.take_succ_cons,List.cons_append,List.length_cons];rw[show o+1+(vs.length+1)=(o+(vs.length+1))+1 from by omega,List.drop_succ_cons]
theorem Q8f {t:TypeId} {x:Value} {b off:Nat} {cur:Array Value} {ty:TypeId} (hs:szT P t=some x.cells.toList.length) (hb:w.heap[b]? =some (.cells cur ty (0,0)))
  (hl:off+x.cells.toList.length<=cur.size) (h1:∀v∈x.cells.toList,v.oneCell'=true):
  (storeVar t ⟨b,off,none⟩ x).run P w= .ok () (w.setRow b (splice cur.toList off x.cells.toList).toArray):=by
 have:=run_storeCells_at P b off ty x.cells.toList 0 cur w hb (by simpa using hl) h1;simp only[Nat.add_zero]at this;have hsz:=Dt hs w;simp only[storeVar,Sem.run_bind,hsz,Result.andThen_ok];rw[FF _ _ _ (by simpa using hl)];rw[if_neg (by simp)];exact this
theorem Zxx {α:Type} (xs vs:List α) (i wd sub n:Nat) (hi:i<n) (hl:xs.length=n*wd) (hv:sub+vs.length<=wd):
  cut (splice xs (i*wd+sub) vs) (i*wd) wd=splice (cut xs (i*wd) wd) sub vs:=by
 have hle:i*wd+wd<=n*wd:=by
  calc i*wd+wd=(i+1)*wd:=by rw[Nat.add_mul,Nat.one_mul]
   _<=n*wd:=Nat.mul_le_mul_right _ hi
 have hcl:(cut xs (i*wd) wd).length=wd:=by simp[cut];omega
 rw[FF _ _ _ (by omega),FF _ _ _ (by rw[hcl];exact hv)];apply List.ext_getElem?;intro j;simp only[cut,List.getElem?_take,List.getElem?_drop,List.getElem?_append,List.length_take,List.length_append,List.length_drop];by_cases hj:j<wd
 ·rw[if_pos hj];by_cases h1:j<sub
  ·rw[if_pos (by omega),if_pos (by omega),if_pos (by omega),if_pos (by omega),if_pos (by omega),if_pos h1,if_pos hj]
  ·by_cases h2:j<sub+vs.length
   ·rw[if_pos (by omega),if_neg (by omega),if_pos (by omega),if_neg (by omega)];congr 1;omega
   ·rw[if_neg (by omega),if_neg (by omega),if_pos (by omega)];congr 1;omega
 ·rw[if_neg hj,if_neg (by omega)];rw[if_neg (by omega)]
theorem Zij {α:Type} (xs vs:List α) (i j wd sub n:Nat) (hi:i<n) (hij:j≠i) (hl:xs.length=n*wd) (hv:sub+vs.length<=wd):
  cut (splice xs (i*wd+sub) vs) (j*wd) wd=cut xs (j*wd) wd:=by
 have hle:i*wd+wd<=n*wd:=by
  calc i*wd+wd=(i+1)*wd:=by rw[Nat.add_mul,Nat.one_mul]
   _<=n*wd:=Nat.mul_le_mul_right _ hi
 rw[FF _ _ _ (by omega)];have hsep:j*wd+wd<=i*wd\/i*wd+wd<=j*wd:=by
  rcases Nat.lt_or_gt_of_ne hij with h|h
  ·left
   calc j*wd+wd=(j+1)*wd:=by rw[Nat.add_mul,Nat.one_mul]
    _<=i*wd:=Nat.mul_le_mul_right _ h
  ·right
   calc i*wd+wd=(i+1)*wd:=by rw[Nat.add_mul,Nat.one_mul]
    _<=j*wd:=Nat.mul_le_mul_right _ h
 apply List.ext_getElem?;intro k;simp only[cut,List.getElem?_take,List.getElem?_drop,List.getElem?_append,List.length_take,List.length_append];by_cases hk:k<wd
 ·rw[if_pos hk,if_pos hk];rcases hsep with h|h
  ·rw[if_pos (by omega),if_pos (by omega),if_pos (by omega)]
  ·rw[if_neg (by omega)];congr 1;omega
 ·rw[if_neg hk,if_neg hk]
theorem Zi0 {o:Oper} {a:Act} {f:FuncId} {xs:List Value} {next:Act->World->Prop} {Q:Exit->Act->World->Prop} (hc:Q1 P f) (he:execOp a.eval o=callFunc f xs.toArray)
  (h:Calls P f xs.toArray w fun e w'=>∃x,e= .returned x/\next (a.put o.dst x) w'):o.wp P a w next Q:=by
 obtain⟨fn,h1,h2,h3⟩:=hc;unfold Oper.wp;have:(execOp a.eval o).run P w= .ok (.enter f xs.toArray) w:=by
  rw[he];simp only[callFunc,Sem.run_bind,run_program,Result.andThen_ok,h1];rw[if_neg (by rw[h2];simp),if_neg (by rw[h3];simp)];rfl
 rw[this,Oper.upon_enter];refine h.mono fun e w' ⟨x,he,hn⟩=> ?_;subst he;exact hn
theorem RT {o:Oper} {a:Act} {f:FuncId} {xs:List Value} {next:Act->World->Prop} {Q:Exit->Act->World->Prop} (he:execOp a.eval o=callFunc f xs.toArray)
  (h:CallsX P f xs.toArray w fun e w'=>∃x,e= .returned x/\next (a.put o.dst x) w'):o.wp P a w next Q:=by
 rcases h with⟨h1,h2⟩|⟨x,w',h1,y,h2,h3⟩
 ·exact Zi0 h1 he h2
 ·simp only[Ending.returned.injEq]at h2;subst h2;unfold Oper.wp;rw[he,h1];exact h3
theorem Hi {o:Oper} {a:Act} {x:Value} {w':World} {next:Act->World->Prop} {Q:Exit->Act->World->Prop} (he:(execOp a.eval o).run P w= .ok (.value x) w') (h:next (a.put o.dst x) w'):o.wp P a w next Q:=by
 unfold Oper.wp;rw[he];exact h
theorem Qs5 {o:Oper} {a:Act} {w':World} {next:Act->World->Prop} {Q:Exit->Act->World->Prop} (he:(execOp a.eval o).run P w= .ok .skip w') (h:next (a.put o.dst undef) w'):o.wp P a w next Q:=by
 unfold Oper.wp;rw[he];exact h
theorem CL.one {l:List AC} {xs:List Value} (h:CL (CC ρ w) l xs):∀v∈xs,v.oneCell'=true:=by
 induction l generalizing xs with
 |nil=>cases xs<;>first|(intro v hv;simp at hv;done)|exact h.elim
 |cons a l ih=>
  cases xs with
  |nil=>exact h.elim
  |cons y xs=>
   intro v hv;simp only[List.mem_cons]at hv;rcases hv with rfl|hv
   ·exact h.1.one
   ·exact ih h.2 v hv
theorem CL.oneP {im:Nat->Prop} {l:List AC} {xs:List Value} (h:CL (CP im w) l xs):∀v∈xs,v.oneCell'=true:=by
 induction l generalizing xs with
 |nil=>cases xs<;>first|(intro v hv;simp at hv;done)|exact h.elim
 |cons a l ih=>
  cases xs with
  |nil=>exact h.elim
  |cons y xs=>
   intro v hv;simp only[List.mem_cons]at hv;rcases hv with rfl|hv
   ·exact h.1.one
   ·exact ih h.2 v hv
theorem RowC.one {im:Nat->Prop} {ks:List Kd} {l:List (List AC)} {xs:List Value} (h:RowC im w ks l xs) (hwd:0<ks.length):∀v∈xs,v.oneCell'=true:=by
 intro v hv;obtain⟨j,hj,rfl⟩:=List.getElem_of_mem hv;have hjn:j/ks.length<l.length:=by rw[Nat.div_lt_iff_lt_mul hwd];rw[h.1]at hj;exact hj
 have hm:j%ks.length<ks.length:=Nat.mod_lt _ hwd;refine(h.2.2 (j/ks.length) _ (List.getElem?_eq_getElem hjn)).oneP _ ?_;have:(cut xs (j/ks.length*ks.length) ks.length)[j%ks.length]? =some xs[j]:=by
  simp only[cut,List.getElem?_take,hm,if_true,List.getElem?_drop];rw[show j/ks.length*ks.length+j%ks.length=j from by rw[Nat.mul_comm];exact Nat.div_add_mod j ks.length];exact List.getElem?_eq_getElem hj
 exact List.mem_of_getElem? this
theorem RowC.append {im:Nat->Prop} {ks:List Kd} {l m:List (List AC)} {xs ys:List Value} (h:RowC im w ks l xs) (h':RowC im w ks m ys):
  RowC im w ks (l++m) (xs++ys):=by
 refine⟨by rw[List.length_append,h.1,h'.1,List.length_append,Nat.add_mul],fun c hc=> ?_,fun i c hi=> ?_⟩
 ·rcases List.mem_append.1 hc with hc|hc
  ·exact h.2.1 c hc
  ·exact h'.2.1 c hc
 ·by_cases hin:i<l.length
  ·rw[List.getElem?_append_left hin]at hi;have hle:i*ks.length+ks.length<=l.length*ks.length:=by
    calc i*ks.length+ks.length=(i+1)*ks.length:=by rw[Nat.add_mul,Nat.one_mul]
     _<=l.length*ks.length:=Nat.mul_le_mul_right _ hin
   have:cut (xs++ys) (i*ks.length) ks.length=cut xs (i*ks.length) ks.length:=by
    have:=h.1;simp only[cut];rw[List.drop_append_of_le_length (by omega),List.take_append_of_le_length (by rw[List.length_drop];omega)]
   rw[this];exact h.2.2 i c hi
  ·rw[List.getElem?_append_right (by omega)]at hi;have:cut (xs++ys) (i*ks.length) ks.length=cut ys ((i-l.length)*ks.length) ks.length:=by
    have h1:=h.1;simp only[cut];rw[List.drop_append,List.drop_eq_nil_of_le (by rw[h1];exact Nat.mul_le_mul_right _ (by omega)),List.nil_append,h1,<-Nat.sub_mul]
   rw[this];exact h'.2.2 (i-l.length) c hi
theorem Zcj {t ty e:TypeId} {i:TypeInfo} (ht:P.underlying t=some (.slice e)) (hi:P.info? e=some i)
  {b off sLen sCap:Nat} {cur:Array Value} {e':TypeId} (hb:w.heap[b]? =some (.cells cur e' (0,0))) {a:Addr} {m c:Nat} {news:List Value} (hl:news.length=m*i.size) (hnews:∀j u,news[j]? =some u->w.cell? (a.add j)=some u) (h1:∀u∈news,u.oneCell'=true)
  (hroom:sLen+m<=sCap) (hle:off+sLen*i.size+news.length<=cur.size):
  (Builtin.append_ #[t,t] ty #[.slice (some ⟨b,off,none⟩) sLen sCap, .slice (some a) m c]).run P w= .ok (.slice (some ⟨b,off,none⟩) (sLen+m) sCap) (w.setRow b (splice cur.toList (off+sLen*i.size) news).toArray):=by
 have hfc:=run_firstCells_some (P:=P) w i.size m a m c news hl hnews;have hst:=run_storeCells_at P b (off+sLen*i.size) e' news 0 cur w hb (by simpa using hle) h1;simp only[Nat.add_zero]at hst;rw[FF _ _ _ (by simpa using hle)];simp[Builtin.append_,run_underlying ht,sizeOf,typeInfo,hi,Builtin.lenOf,hroom,hfc,Addr.add_lit,hst]
theorem Q7u {t ty e:TypeId} {i:TypeInfo} {z:Value} {size:Nat} (ht:P.underlying t=some (.slice e)) (hi:P.info? e=some i) (hz:i.zero=some z)
  (hsize:i.size=size) (hzs:z.cells.size=size) (hsz:0<size)
  {v:Value} {n:Nat} {xs:List Value} (hown:D8 w e size v n xs)
  {ad:Option Addr} {m c:Nat} {news:List Value} (hl:news.length=m*size) (hnews:m=0\/∃a,ad=some a/\∀j u,news[j]? =some u->w.cell? (a.add j)=some u) (h1:∀u∈news,u.oneCell'=true)
  (h63:n+m<=maxLen) (hbytes:(n+m)*i.bytes<=140737488355328):
  ∃v' w',(Builtin.append_ #[t,t] ty #[v, .slice ad m c]).run P w= .ok v' w'/\D8 w' e size v' (n+m) (xs++news)/\w.grownBy w' v.ownBlock/\(v'.ownBlock=v.ownBlock\/v'.ownBlock=some w.heap.size):=by
 cases ad with
 |some a=>
  have hn:∀j u,news[j]? =some u->w.cell? (a.add j)=some u:=by
   rcases hnews with rfl|⟨a',ha',hh⟩
   ·have:news=[]:=List.eq_nil_of_length_eq_zero (by simpa using hl);subst this;intro j u h;simp at h
   ·simp at ha';subst ha';exact hh
  rcases hown.2 with⟨rfl,rfl⟩|⟨g,o,cap,cur,rfl,e3,e4,e5,e6,e7⟩
  ·have hx:xs=[]:=List.eq_nil_of_length_eq_zero (by simpa using hown.1);subst hx;obtain⟨v',w',q1,q2,q3,_,q5⟩:=run_append_own_at (P:=P) w 0 t ty e i z size i.bytes ht hi hz hsize rfl hzs hsz (.slice none 0 0) 0 [] (World.ownsRow_nil w 0 e size) a m c news hl hn h1 h63 hbytes (Nat.zero_le _);exact⟨v',w',q1,Q9o q2,q3,q5⟩
  ·by_cases hr:n+m<=cap
   ·subst hsize;have hb1:n*i.size+m*i.size<=cap*i.size:=by rw[<-Nat.add_mul];exact Nat.mul_le_mul_right _ hr
    have q:=Zcj (P:=P) (ty:=ty) (off:=o) (sLen:=n) (sCap:=cap) (c:=c) ht hi e3 hl hn h1 hr (by rw[hl];omega);have hsl:=LM cur.toList (o+n*i.size) news;refine⟨_,_,q,⟨by rw[List.length_append,hown.1,hl,Nat.add_mul], .inr ⟨g,o,cap,_,rfl,setRow_heap w g cur _ e _ e3,hr,e5,by simp only[List.size_toArray];rw[hsl,Array.length_toList];exact e6,?_⟩⟩,⟨rfl,rfl,rfl,by simp,fun k hk hne=>setRow_other w g k _ (fun e=>hne (by rw[e];rfl))⟩, .inl rfl⟩;have hL:o+n*i.size+news.length<=cur.toList.length:=by rw[hl,Array.length_toList];omega
    show((splice cur.toList (o+n*i.size) news).toArray.toList.drop o).take ((n+m)*i.size)=xs++news;simp only[List.toList_toArray];rw[FF _ _ _ hL,List.append_assoc,List.drop_append_of_le_length (by simp;omega),List.drop_take,show o+n*i.size-o=n*i.size from by omega,e7,<-List.append_assoc];rw[List.take_append_of_le_length (by rw[List.length_append,hown.1,hl,Nat.add_mul];omega),List.take_of_length_le (by rw[List.length_append,hown.1,hl,Nat.add_mul];omega)]
   ·obtain ⟨v', w', q1, q2, q3⟩ := run_append_arg_grows (P := P) w t ty e i z size i.bytes ht hi hz hsize rfl hzs hsz ⟨g, o, none⟩ n cap xs hown.1 (fun j u hj => by
     have:=Pg hown (g:=g) rfl j u hj;rw[Addr.add_lit];exact this) a m c news hl hn (by omega) h63 hbytes
    have hr2 := run_append_grow (P := P) w t ty e i z ht hi hz ⟨g, o, none⟩ n cap xs (by rw [hsize]; exact hown.1) (fun j u hj => by
     have:=Pg hown (g:=g) rfl j u hj;rw[Addr.add_lit];exact this) a m c news (by rw[hsize];exact hl) hn (by omega) (by simp only[maxLen]at h63;omega) (growslice_fits (by omega) hbytes)
    rw[q1]at hr2;simp only[Result.ok.injEq]at hr2;refine⟨v',w',q1,Q9o q2,⟨q3.os,q3.tape,q3.output,q3.size,fun k hk _=>q3.block k hk (by simp)⟩, .inr ?_⟩;rw[hr2.1];rfl
 |none=>
  have hm:m=0:=by
   rcases hnews with h|⟨_,h,_⟩
   ·exact h
   ·simp at h
  subst hm;have hn:news=[]:=List.eq_nil_of_length_eq_zero (by simpa using hl);subst hn;refine⟨v,w,?_,by simpa using hown,⟨rfl,rfl,rfl,Nat.le_refl _,fun _ _ _=>rfl⟩, .inl rfl⟩;rcases hown.2 with⟨rfl,rfl⟩|⟨g,o,cap,cur,rfl,_,hnc,_⟩
  ·simp[Builtin.append_,run_underlying ht,sizeOf,typeInfo,hi,Builtin.lenOf,Builtin.firstCells]
  ·simp[Builtin.append_,run_underlying ht,sizeOf,typeInfo,hi,Builtin.lenOf,Builtin.firstCells,hnc,storeCells]
theorem Z4p (h:RelE Z tm aB aC ρ tmps w) {ks:List Kd} {a:AC} {x:Value} {m:List (List AC)} (hs:Gt aC ks a=some m) (hc:CC ρ w a x):
  ∃ad c news,x= .slice ad m.length c/\RowC ρ.im w ks m news/\(m.length=0\/∃a,ad=some a/\∀j u,news[j]? =some u->w.cell? (a.add j)=some u):=by
 unfold Gt at hs;split at hs
 ·simp at hs;subst hs;simp only[CC,CP]at hc;subst hc;exact⟨none,0,[],rfl,⟨by simp,by simp,fun i c hi=>by simp at hi⟩, .inl rfl⟩
 ·rename_i ks' l;cases hb:CT ks ks'<;>rw[hb]at hs
  ·simp at hs
  ·simp at hs;subst hs;have:=IK hb;subst this;simp only[CC,CP]at hc;obtain⟨ad,cap,rfl,hle,hk,hf⟩:=hc;rcases hf with rfl|⟨b,o,rfl,_,hss⟩
   ·exact⟨ad,cap,[],rfl,⟨by simp,by simp,fun i c hi=>by simp at hi⟩, .inl rfl⟩
   ·obtain⟨ys,q1,q2⟩:=Zho l hk hss;refine⟨_,cap,ys,rfl,q1, .inr ⟨_,rfl,fun j u hj=> ?_⟩⟩;rw[Addr.add_lit];exact q2 j u hj
 ·rename_i id w' n;split at hs
  ·rename_i r hr;cases hb:CT ks r.ks<;>rw[hb]at hs
   ·simp at hs
   ·simp at hs;subst hs;have:=IK hb;subst this;obtain⟨q1,q2,_,xs,q3,q4⟩:=h.ro id r hr;obtain⟨hc1,hc2,hc3⟩:=hc;subst hc1;rcases q3.2 with⟨e1,e2⟩|⟨g',o,cap,cur,e1,e3,e4,e5,e6,e7⟩
    ·have e2':r.l.length=0:=e2;exact⟨none,0,xs,by rw[e1,e2'],q4, .inl e2⟩
    ·refine⟨some ⟨g',o,none⟩,cap,xs,e1,q4, .inr ⟨_,rfl,fun j u hj=> ?_⟩⟩;have:=Pg q3 (g:=g') (by rw[e1];rfl) j u hj;rw[e1]at this;rw[Addr.add_lit];exact this
  ·simp at hs
 ·simp at hs
theorem RelE.growIm {im':Nat->Prop} {w':World} (hR:RelE Z tm aB aC ρ tmps w) (hbel:Below w.heap.size w w') (him1:∀b,ρ.im b->im' b) (him2:∀b,im' b->ρ.im b\/(w.heap.size<=b/\b<w'.heap.size)):
  RelE Z tm aB aC {ρ with im:=im'} tmps w':=by
 have hold:∀b,b<w.heap.size->w'.heap[b]? =w.heap[b]? :=fun b hb=>hbel.block b hb;have hcc:∀(a:AC) (x:Value),CC ρ w a x->CC {ρ with im:=im'} w' a x:=fun a x hx=>CC.mono (ρ:=ρ) (ρ':={ρ with im:=im'}) him1 (fun b hb=>hold b (hR.ib b hb).1) a x (AC.agree_refl rfl rfl rfl a) hx;refine⟨hR.tl,fun i v hi=>TVR.mono hcc v _ (hR.tv i v hi),hR.wt,hR.wb,?_,hR.bi,?_,hR.ri,hR.br,?_,hR.fr.trans (Fr.of_below hbel hR.fs),fun k hk=>Nat.lt_of_lt_of_le (hR.fs k hk) hbel.size,fun b hb=>him1 b (hR.i0 b hb),fun b hb=>(him2 b hb).elim (hR.i1 b) fun q=> .inr fun hf=>absurd (hR.fs b hf) (by omega),fun k b hk=>hR.k0 k b hk⟩
 ·intro k b hk;obtain⟨arr,q1,q2,q3⟩:=hR.bx k b hk;exact⟨arr,by rw[hold _ (Nl q1)];exact q1,q2.mono fun a _ x hx=>hcc a x hx,q3⟩
 ·intro id r0 hr0;obtain⟨q1,q2,q0,ys,q3,q4⟩:=hR.ro id r0 hr0;exact⟨q1,q2,q0,ys,K4 q3 fun g hg=>hold g (hR.rwlt hr0 hg).2,q4.mono him1 (fun b hb=>hold b (hR.ib b hb).1)⟩
 ·intro b hb;rcases him2 b hb with hb'|⟨hb1,hb2⟩
  ·obtain⟨q1,q2,q3⟩:=hR.ib b hb';exact⟨Nat.lt_of_lt_of_le q1 hbel.size,q2,q3⟩
  ·exact⟨hb2,fun k bo hk e=>by have:=hR.bxlt hk;have e':ρ.bx k=b:=e;omega,fun id r0 hr0 e=>by have e':(ρ.rv id).ownBlock=some b:=e;have:=(hR.rwlt hr0 e').2;omega⟩
end
end Go.Bm
namespace Go.Bm
open Go.RowKit
section
variable {P:Program} {C:Cfg} {ρ:Env} {w:World} {R:Type} {Z:Base} {tm:List TV} {aB:List (Nat×Box)} {aC:List (Nat×Row)} {tmps:Array Value}
def AC.nmP (Kp:Nat->Prop):AC->Prop
 | .ptr k _=>Kp k
 |_=>True
def AC.nm (Kp Ip:Nat->Prop):AC->Prop
 | .ptr k _=>Kp k
 | .bsl k _=>Kp k
 | .own id _ _=>Ip id
 | .rptr id _ _=>Ip id
 | .clo _ fs cs=>(∀a∈fs,AC.nmP Kp a)/\∀a∈cs,AC.nmP Kp a
 |_=>True
def TV.nm (Kp Ip:Nat->Prop):TV->Prop
 | .v _ cs=>∀a∈cs,AC.nm Kp Ip a
 | .tup ps=>∀p∈ps,∀a∈p.2,AC.nm Kp Ip a
 | .dead=>True
theorem AC.nm_of_inK {keys ids:List Nat} {a:AC} (h:AC.inK keys ids a=true):a.nm (· ∈keys) (· ∈ids):=by
 have hp:∀l:List AC,Ak (AC.inK.inP keys) l=true->∀a∈l,AC.nmP (· ∈keys) a:=by
  intro l hl a ha;have:=Ax.1 hl a ha;cases a<;>first|trivial|exact ED.1 this
 cases a with
 |ptr k o=>exact ED.1 h
 |bsl k o=>exact ED.1 h
 |own id w n=>exact ED.1 h
 |rptr id i s=>exact ED.1 h
 |clo f fs cs=>
  simp only[AC.inK,Bool.and_eq_true]at h;exact⟨hp fs h.1,hp cs h.2⟩
 |_=>trivial
theorem TV.nm_of_inK {keys ids:List Nat} {v:TV} (h:TV.inK keys ids v=true):v.nm (· ∈keys) (· ∈ids):=by
 cases v with
 |dead=>trivial
 |v g cs=>exact fun a ha=>AC.nm_of_inK (Ax.1 h a ha)
 |tup ps=>exact fun p hp a ha=>AC.nm_of_inK (Ax.1 (Ax.1 h p hp) a ha)
theorem AC.nm_of_wf {a:AC} (h:AC.wf aB aC a):a.nm (fun k=>∃b,Ab aB k=some b) (fun i=>∃r,Ab aC i=some r):=by
 have hp:∀l:List AC,(∀a∈l,AC.wfP aB a)->∀a∈l,AC.nmP (fun k=>∃b,Ab aB k=some b) a:=by
  intro l hl a ha;have:=hl a ha;cases a<;>first|trivial|exact this
 cases a with
 |ptr k o=>exact h
 |bsl k o=>exact h
 |own id w n=>obtain⟨r,h1,_⟩:=h;exact⟨r,h1⟩
 |rptr id i s=>obtain⟨r,h1,_⟩:=h;exact⟨r,h1⟩
 |clo f fs cs=>exact⟨hp fs h.1,hp cs h.2⟩
 |_=>trivial
theorem TV.nm_of_wf {v:TV} (h:TV.wf aB aC v):v.nm (fun k=>∃b,Ab aB k=some b) (fun i=>∃r,Ab aC i=some r):=by
 cases v with
 |dead=>trivial
 |v g cs=>exact fun a ha=>AC.nm_of_wf (h a ha)
 |tup ps=>exact fun p hp a ha=>AC.nm_of_wf (h p hp a ha)
theorem Qio {ρ1 ρ2:Env} {Kp:Nat->Prop} {rk:Nat->Nat} (hb:∀k,Kp k->ρ2.bx (rk k)=ρ1.bx k) (hi:ρ2.im=ρ1.im):∀(l:List AC) (xs:List Value),(∀a∈l,AC.nmP Kp a)->CLc ρ1 w l xs->CLc ρ2 w (AC.ren.renP rk l) xs
 |[],[],_,_=>trivial
 |a::l,x::xs,hn,h=>by
  have ih:=Qio hb hi l xs (fun b hb=>hn b (by simp[hb])) h.2;have h1:=h.1;have hn1:=hn a (by simp);cases a<;>simp only[AC.ren.renP]<;>refine⟨?_,ih⟩<;>first
   |(simp only[CCc]at h1⊢;rw[hb _ hn1];exact h1)
   |(simp only[CCc]at h1⊢;rw[hi];exact h1)
 |[],_::_,_,h=>h.elim
 |_::_,[],_,h=>h.elim
theorem ZM {ρ1 ρ2:Env} {Kp Ip:Nat->Prop} {rk ri:Nat->Nat} (hb:∀k,Kp k->ρ2.bx (rk k)=ρ1.bx k) (hr:∀i,Ip i->ρ2.rv (ri i)=ρ1.rv i/\ρ2.wd (ri i)=ρ1.wd i) (hi:ρ2.im=ρ1.im)
  {a:AC} {x:Value} (hn:a.nm Kp Ip) (h:CC ρ1 w a x):CC ρ2 w (a.ren rk ri) x:=by
 cases a with
 |ptr k o=>simp only[AC.ren,CC]at*;rw[hb k hn];exact h
 |bsl k o=>simp only[AC.ren,CC]at*;rw[hb k hn];exact h
 |own id w n=>simp only[AC.ren,CC]at*;rw[(hr id hn).1,(hr id hn).2];exact h
 |rptr id i s=>simp only[AC.ren,CC]at*;rw[(hr id hn).1,(hr id hn).2];exact h
 |vptr cs s=>simp only[AC.ren,CC]at*;rw[hi];exact h
 |clo f fs cs=>
  obtain⟨xs,ys,h1,h2,h3⟩:=h;exact⟨xs,ys,h1,Qio hb hi fs _ hn.1 h2,Qio hb hi cs _ hn.2 h3⟩
 |dead=>exact h
 |int=>simp only[AC.ren,CC]at*;rw[hi];exact h
 |bool=>simp only[AC.ren,CC]at*;rw[hi];exact h
 |raw=>simp only[AC.ren,CC]at*;rw[hi];exact h
 |nilSl=>simp only[AC.ren,CC]at*;rw[hi];exact h
 |view=>simp only[AC.ren,CC]at*;rw[hi];exact h
theorem Qs {ρ1 ρ2:Env} {Kp Ip:Nat->Prop} {rk ri:Nat->Nat} (hb:∀k,Kp k->ρ2.bx (rk k)=ρ1.bx k) (hr:∀i,Ip i->ρ2.rv (ri i)=ρ1.rv i/\ρ2.wd (ri i)=ρ1.wd i) (hi:ρ2.im=ρ1.im):
  ∀{l:List AC} {xs:List Value},(∀a∈l,a.nm Kp Ip)->CL (CC ρ1 w) l xs->CL (CC ρ2 w) (l.map (AC.ren rk ri)) xs
 |[],[],_,h=>h
 |a::l,y::xs,hn,h=>⟨ZM hb hr hi (hn a (by simp)) h.1,Qs hb hr hi (fun b hb=>hn b (by simp[hb])) h.2⟩
 |[],_::_,_,h=>h.elim
 |_::_,[],_,h=>h.elim
theorem Qsv {ρ1 ρ2:Env} {Kp Ip:Nat->Prop} {rk ri:Nat->Nat} (hb:∀k,Kp k->ρ2.bx (rk k)=ρ1.bx k) (hr:∀i,Ip i->ρ2.rv (ri i)=ρ1.rv i/\ρ2.wd (ri i)=ρ1.wd i) (hi:ρ2.im=ρ1.im)
  {v:TV} {x:Value} (hn:v.nm Kp Ip) (h:TVR ρ1 w v x):TVR ρ2 w (v.ren rk ri) x:=by
 cases v with
 |dead=>trivial
 |v b cs=>
  cases b
  ·obtain⟨a,rfl,ha⟩:=h;exact⟨_,rfl,ZM hb hr hi (hn a (by simp)) ha⟩
  ·obtain⟨ys,rfl,hy⟩:=h;exact⟨ys,rfl,Qs hb hr hi hn hy⟩
 |tup ps=>
  obtain⟨ys,rfl,hy⟩:=h;refine⟨ys,rfl,?_⟩;generalize ys.toList=l at hy;induction ps generalizing l with
  |nil=>cases l<;>first|exact hy|exact hy.elim
  |cons p ps ih=>
   cases l with
   |nil=>exact hy.elim
   |cons y l=>
    obtain⟨b,cs⟩:=p;refine⟨?_,ih (fun q hq=>hn q (by simp[hq])) l hy.2⟩;have h1:=hy.1;have hw1:=hn (b,cs) (by simp);cases b
    ·obtain⟨a,q1,q2⟩:=h1;subst q1;exact⟨_,rfl,ZM hb hr hi (hw1 a (by simp)) q2⟩
    ·obtain⟨zs,q1,q2⟩:=h1;exact⟨zs,q1,Qs hb hr hi hw1 q2⟩
theorem Tp {b1 b2:List (Nat×Box)} {r1 r2:List (Nat×Row)} {Kp Ip:Nat->Prop} {rk ri:Nat->Nat} (hb:∀k,Kp k->(∃b,Ab b1 k=some b)->∃b,Ab b2 (rk k)=some b)
  (hr:∀i r,Ip i->Ab r1 i=some r->∃r',Ab r2 (ri i)=some r'/\r'.n=r.n/\r'.w=r.w) {a:AC} (hn:a.nm Kp Ip) (h:AC.wf b1 r1 a):AC.wf b2 r2 (a.ren rk ri):=by
 have hp:∀l:List AC,(∀a∈l,AC.nmP Kp a)->(∀a∈l,AC.wfP b1 a)->∀a∈AC.ren.renP rk l,AC.wfP b2 a:=by
  intro l;induction l with
  |nil=>intro _ _ a ha;simp[AC.ren.renP]at ha
  |cons c l ih=>
   intro hn hw a ha;have ih':=ih (fun b hb=>hn b (by simp[hb])) (fun b hb=>hw b (by simp[hb]));have h1:=hn c (by simp);have h2:=hw c (by simp);cases c<;>simp only[AC.ren.renP,List.mem_cons]at ha<;>rcases ha with rfl|ha<;>first
    |exact ih' a ha
    |exact hb _ h1 h2
    |trivial
 cases a with
 |ptr k o=>exact hb k hn h
 |bsl k o=>exact hb k hn h
 |own id w n=>obtain⟨r,q1,q2,q3⟩:=h;obtain⟨r',p1,p2,p3⟩:=hr id r hn q1;exact⟨r',p1,by rw[p2,q2],by rw[p3,q3]⟩
 |rptr id i s=>obtain⟨r,q1,q2⟩:=h;obtain⟨r',p1,p2,p3⟩:=hr id r hn q1;exact⟨r',p1,by rw[p2];exact q2⟩
 |vptr=>exact h
 |clo f fs cs=>exact⟨hp fs hn.1 h.1,hp cs hn.2 h.2⟩
 |_=>trivial
theorem Q4a {b1 b2:List (Nat×Box)} {r1 r2:List (Nat×Row)} {Kp Ip:Nat->Prop} {rk ri:Nat->Nat} (hb:∀k,Kp k->(∃b,Ab b1 k=some b)->∃b,Ab b2 (rk k)=some b)
  (hr:∀i r,Ip i->Ab r1 i=some r->∃r',Ab r2 (ri i)=some r'/\r'.n=r.n/\r'.w=r.w) {v:TV} (hn:v.nm Kp Ip) (h:TV.wf b1 r1 v):TV.wf b2 r2 (v.ren rk ri):=by
 cases v with
 |dead=>trivial
 |v g cs=>
  intro a ha;simp only[List.mem_map]at ha;obtain⟨c,hc,rfl⟩:=ha;exact Tp hb hr (hn c hc) (h c hc)
 |tup ps=>
  intro p hp a ha;simp only[List.mem_map]at hp;obtain⟨q,hq,rfl⟩:=hp;simp only[List.mem_map]at ha;obtain⟨c,hc,rfl⟩:=ha;exact Tp hb hr (hn q hq c hc) (h q hq c hc)
theorem Iu:∀{l:List Nat},Bz l=true↔l.Nodup
 |[]=>by simp[Bz]
 |k::l=>by
  simp only[Bz,List.nodup_cons,<-Iu (l:=l)];cases h:AR l k
  ·have: ¬k∈l:=fun hm=>by rw[ED.2 hm]at h;cases h
   simp[this]
  ·have:=ED.1 h;simp[this]
theorem DV {l:List Nat} {n:Nat} (h:n∈l):pos l n<l.length/\nth 0 l (pos l n)=n:=by
 induction l with
 |nil=>simp at h
 |cons m l ih=>
  simp only[pos];cases hb:Nat.beq m n
  ·have hne:=GU hb;have:n∈l:=by
    rcases List.mem_cons.1 h with e|e
    ·exact absurd e.symm hne
    ·exact e
   obtain⟨h1,h2⟩:=ih this;exact⟨by simp only[cond_false,List.length_cons];omega,by simp only[cond_false];exact h2⟩
  ·exact⟨by simp,by simpa [nth]using Nat.eq_of_beq_eq_true hb⟩
theorem Zva {l:List Nat} {m n:Nat} (hm:m∈l) (hn:n∈l) (h:pos l m=pos l n):m=n:=by
 rw[<-(DV hm).2,<-(DV hn).2,h]
theorem Iw {l:List Nat} (hd:l.Nodup) {i:Nat} (hi:i<l.length):pos l (nth 0 l i)=i:=by
 induction l generalizing i with
 |nil=>simp at hi
 |cons m l ih=>
  cases i with
  |zero=>simp[nth,pos]
  |succ i=>
   have hi':i<l.length:=by simpa using hi
   have hmem:nth 0 l i∈l:=by
    rw[BR,List.getD,List.getElem?_eq_getElem hi'];exact List.getElem_mem hi'
   rw[List.nodup_cons]at hd;simp only[nth,pos];rw[Kr (by rintro rfl;exact hd.1 hmem)];simp only[cond_false];rw[ih hd.2 hi']
theorem E5 {l:List Nat} {i:Nat} (hi:i<l.length):nth 0 l i∈l:=by
 rw[BR,List.getD,List.getElem?_eq_getElem hi];exact List.getElem_mem hi
theorem KQ {rk ri:Nat->Nat}:∀{keys:List Nat} {b:Nat} {mb:List (Nat×Box)},Di aB rk ri b keys=some mb->
  (∀i,i<keys.length->∃x,Ab aB (nth 0 keys i)=some x/\Ab mb (b+i)=some ⟨x.ty,x.cells.map (AC.ren rk ri)⟩)/\∀c x,Ab mb c=some x->∃i,i<keys.length/\c=b+i
 |[],b,mb,h=>by simp[Di]at h;subst h;exact⟨fun i hi=>by simp at hi,fun c x h=>by simp[Ab]at h⟩
 |k::keys,b,mb,h=>by
  simp only[Di]at h;split at h
  ·rename_i x hx;split at h
   ·rename_i l hl;simp at h;subst h;obtain⟨h1,h2⟩:=KQ hl;refine⟨fun i hi=> ?_,fun c y hc=> ?_⟩
    ·cases i with
     |zero=>exact⟨x,hx,by simp[Ab]⟩
     |succ i=>
      obtain⟨y,q1,q2⟩:=h1 i (by simpa using hi);refine⟨y,q1,?_⟩;rw[show b+(i+1)=b+1+i from by omega];simp only[Ab];rw[Kr (by omega)];exact q2
    ·simp only[Ab]at hc;cases hb:Nat.beq b c<;>rw[hb]at hc
     ·obtain⟨i,q1,q2⟩:=h2 c y hc;exact⟨i+1,by simp;omega,by omega⟩
     ·exact⟨0,by simp,(Nat.eq_of_beq_eq_true hb).symm⟩
   ·simp at h
  ·simp at h
theorem W4:∀{keys:List Nat} {b:Nat} {mb:List (Nat×Row)},F8 aC b keys=some mb->
  (∀i,i<keys.length->∃x,Ab aC (nth 0 keys i)=some x/\Ab mb (b+i)=some x)/\∀c x,Ab mb c=some x->∃i,i<keys.length/\c=b+i
 |[],b,mb,h=>by simp[F8]at h;subst h;exact⟨fun i hi=>by simp at hi,fun c x h=>by simp[Ab]at h⟩
 |k::keys,b,mb,h=>by
  simp only[F8]at h;split at h
  ·rename_i x hx;split at h
   ·rename_i l hl;simp at h;subst h;obtain⟨h1,h2⟩:=W4 hl;refine⟨fun i hi=> ?_,fun c y hc=> ?_⟩
    ·cases i with
     |zero=>exact⟨x,hx,by simp[Ab]⟩
     |succ i=>
      obtain⟨y,q1,q2⟩:=h1 i (by simpa using hi);refine⟨y,q1,?_⟩;rw[show b+(i+1)=b+1+i from by omega];simp only[Ab];rw[Kr (by omega)];exact q2
    ·simp only[Ab]at hc;cases hb:Nat.beq b c<;>rw[hb]at hc
     ·obtain⟨i,q1,q2⟩:=h2 c y hc;exact⟨i+1,by simp;omega,by omega⟩
     ·exact⟨0,by simp,(Nat.eq_of_beq_eq_true hb).symm⟩
   ·simp at h
  ·simp at h
def Ho {α β:Type} (rk:Nat->Nat) (g:α->β):List (Nat×α)->List (Nat×β)->List (Nat×β)
 |[],l=>l
 |(k,b)::m,l=>Ho rk g m (ins l (rk k) (g b))
theorem ZU (rk ri:Nat->Nat):∀(m:List (Nat×Box)) (l:List (Nat×Box)),LB rk ri m l=Ho rk (fun b=>⟨b.ty,b.cells.map (AC.ren rk ri)⟩) m l
 |[],_=>rfl
 |(_,_)::m,_=>by simp only[LB,Ho];exact ZU rk ri m _
theorem Zak (ri:Nat->Nat):∀(m:List (Nat×Row)) (l:List (Nat×Row)),Ko ri m l=Ho ri (fun b=>b) m l
 |[],_=>rfl
 |(_,_)::m,_=>by simp only[Ko,Ho];exact Zak ri m _
theorem Tu {α β:Type} {rk:Nat->Nat} {g:α->β}:∀{m:List (Nat×α)} {l:List (Nat×β)},(m.map (·.1)).Nodup->(∀k∈m.map (·.1),∀j∈m.map (·.1),rk k=rk j->k=j)->(∀k∈m.map (·.1),Ab l (rk k)=none)->
  (∀k b,Ab m k=some b->Ab (Ho rk g m l) (rk k)=some (g b))/\(∀n,(∀k∈m.map (·.1),n≠rk k)->Ab (Ho rk g m l) n=Ab l n)
 |[],l,_,_,_=>⟨fun k b h=>by simp[Ab]at h,fun n _=>rfl⟩
 |(j,c)::m,l,hd,hi,hn=>by
  simp only[List.map_cons,List.nodup_cons]at hd;have hne:∀k∈m.map (·.1),rk k≠rk j:=fun k hk e=>hd.1 (by have:=hi k (by simp at hk⊢;exact .inr hk) j (by simp) e;rw[<-this];exact hk);obtain ⟨h1, h2⟩ := Tu (rk := rk) (g := g) (m := m) (l := ins l (rk j) (g c)) hd.2 (fun k hk q hq => hi k (by simp at hk ⊢; exact .inr hk) q (by simp at hq ⊢; exact .inr hq)) (fun k hk => by
   rw[Dl _ _ _ _ (hne k hk)];exact hn k (by simp at hk⊢;exact .inr hk))
  have hj:Ab (ins l (rk j) (g c)) (rk j)=some (g c):=Eo _ _ _ (hn j (by simp));refine⟨fun k b hk=> ?_,fun n hnn=> ?_⟩
  ·simp only[Ab]at hk;cases hb:Nat.beq j k<;>rw[hb]at hk
   ·exact h1 k b hk
   ·have:=Nat.eq_of_beq_eq_true hb;subst this;simp at hk;subst hk;simp only[Ho];rw[h2 (rk j) (fun k hk e=>hne k hk e.symm)];exact hj
  ·simp only[Ho];rw[h2 n (fun k hk=>hnn k (by simp at hk⊢;exact .inr hk))];exact Dl _ _ _ _ (hnn j (by simp))
theorem J1 {α:Type}:∀(ks:List Nat) (l:List (Nat×α)) (n:Nat),Ab (Dx ks l) n=if n∈ks then none else Ab l n
 |[],l,n=>by simp[Dx]
 |k::ks,l,n=>by
  simp only[Dx];rw[J1 ks];by_cases h:n=k
  ·subst h;simp only[ST,List.mem_cons,true_or,if_true];split<;>rfl
  ·rw[L9 _ _ _ h];simp[h]
theorem Ma {α:Type}:∀{l:List (Nat×α)} {k:Nat},k∈l.map (·.1)↔∃b,Ab l k=some b
 |[],k=>by simp[Ab]
 |(j,c)::l,k=>by
  simp only[List.map_cons,List.mem_cons,Ab];cases hb:Nat.beq j k
  ·simp only[cond_false,<-Ma (l:=l)];constructor
   ·rintro(e|e)
    ·exact absurd e.symm (GU hb)
    ·exact e
   ·exact .inr
  ·simp[Nat.eq_of_beq_eq_true hb]
theorem Jp {α:Type} {names:List Nat}:∀{l:List (Nat×α)} {k:Nat},k∈Bd names l↔k∈l.map (·.1)/\ ¬(base<=k/\k-base<names.length)
 |[],k=>by simp[Bd]
 |(j,c)::l,k=>by
  simp only[Bd,List.map_cons,List.mem_cons];cases hb:(Nat.ble base j&&Nat.blt (j-base) names.length)
  ·have hj: ¬(base<=j/\j-base<names.length):=by
    rintro⟨h1,h2⟩;have e1:=Nat.ble_eq_true_of_le h1;have e2:Nat.blt (j-base) names.length=true:=Nat.ble_eq_true_of_le h2;rw[e1,e2]at hb;cases hb
   simp only[cond_false,List.mem_cons,Jp (l:=l)];constructor
   ·rintro(rfl|⟨h1,h2⟩)
    ·exact⟨.inl rfl,hj⟩
    ·exact⟨.inr h1,h2⟩
   ·rintro⟨rfl|h1,h2⟩
    ·exact .inl rfl
    ·exact .inr ⟨h1,h2⟩
  ·simp only[Bool.and_eq_true]at hb;have hj:base<=j/\j-base<names.length:=⟨Nat.le_of_ble_eq_true hb.1,Nat.le_of_ble_eq_true hb.2⟩;simp only[cond_true,Jp (l:=l)];constructor
   ·rintro⟨h1,h2⟩;exact⟨.inr h1,h2⟩
   ·rintro⟨rfl|h1,h2⟩
    ·exact absurd hj h2
    ·exact⟨h1,h2⟩
theorem KP {names fresh:List Nat} {d k:Nat} (h:base<=k/\k-base<names.length):Bx names fresh d k=nth 0 names (k-base):=by
 unfold Bx;rw[Nat.ble_eq_true_of_le h.1,show Nat.blt (k-base) names.length=true from Nat.ble_eq_true_of_le h.2];rfl
theorem Qse {names fresh:List Nat} {d k:Nat} (h: ¬(base<=k/\k-base<names.length)):Bx names fresh d k=100000+100*d+pos fresh k:=by
 unfold Bx;have:(Nat.ble base k&&Nat.blt (k-base) names.length)=false:=by
  apply Bool.eq_false_iff.2;intro hb;simp only[Bool.and_eq_true]at hb;exact h ⟨Nat.le_of_ble_eq_true hb.1,Nat.le_of_ble_eq_true hb.2⟩
 rw[this];rfl
theorem Qxq {α β:Type} {names:List Nat} {d:Nat} {m':List (Nat×α)} {l:List (Nat×β)} (hd:names.Nodup) (hn:∀k∈names,∃b,Ab l k=some b)
  (hf:∀k∈Bd names m',Ab l (Bx names (Bd names m') d k)=none):
  ∀k∈m'.map (·.1),∀j∈m'.map (·.1),Bx names (Bd names m') d k=Bx names (Bd names m') d j->k=j:=by
 intro k hk j hj he;by_cases ck:base<=k/\k-base<names.length<;>by_cases cj:base<=j/\j-base<names.length
 ·rw[KP ck,KP cj]at he;have:=congrArg (pos names) he;rw[Iw hd ck.2,Iw hd cj.2]at this;omega
 ·have h1:=hf j (Jp.2 ⟨hj,cj⟩);rw[<-he,KP ck]at h1;obtain⟨b,hb⟩:=hn _ (E5 ck.2);rw[hb]at h1;cases h1
 ·have h1:=hf k (Jp.2 ⟨hk,ck⟩);rw[he,KP cj]at h1;obtain⟨b,hb⟩:=hn _ (E5 cj.2);rw[hb]at h1;cases h1
 ·rw[Qse ck,Qse cj]at he;exact Zva (Jp.2 ⟨hk,ck⟩) (Jp.2 ⟨hj,cj⟩) (by omega)
noncomputable def KU {α:Type} (m:List (Nat×α)) (bk:Nat->Nat) (n:Nat):Option Nat:= @dite _ (∃k∈m.map (·.1),bk k=n) (Classical.propDecidable _) (fun h=>some (Classical.choose h)) (fun _=>none)
theorem Q98 {α:Type} {m:List (Nat×α)} {bk:Nat->Nat} (hinj:∀k∈m.map (·.1),∀j∈m.map (·.1),bk k=bk j->k=j) {k:Nat} (hk:k∈m.map (·.1)):KU m bk (bk k)=some k:=by
 unfold KU;have h:∃j∈m.map (·.1),bk j=bk k:=⟨k,hk,rfl⟩;rw[dif_pos h];have:=Classical.choose_spec h;rw[hinj _ this.1 k hk this.2]
theorem Q0q {α:Type} {m:List (Nat×α)} {bk:Nat->Nat} {n:Nat} (h:∀k∈m.map (·.1),n≠bk k):KU m bk n=none:=by
 unfold KU;rw[dif_neg];rintro⟨k,hk,he⟩;exact h k hk he.symm
theorem Qz2:∀(ids:List Nat) {v:TV} {x:Value},TVR ρ w v x->TVR ρ w (HD ids v) x
 |[],_,_,h=>h
 |_::l,_,_,h=>Qz2 l (TV.kill_TVR h)
theorem Qwe:∀(ids:List Nat) {v:TV},TV.wf aB aC v->TV.wf aB aC (HD ids v)
 |[],_,h=>h
 |_::l,_,h=>Qwe l (TV.kill_wf h)
theorem Qbl {id j:Nat} {a:AC} (h:AC.free j a):AC.free j (a.kill id):=by
 cases a with
 |own i w n=>simp only[AC.kill];cases Nat.beq i id<;>first|exact h|trivial
 |rptr i n s=>simp only[AC.kill];cases Nat.beq i id<;>first|exact h|trivial
 |_=>trivial
theorem Zcc {id j:Nat} {v:TV} (h:TV.free j v):TV.free j (v.kill id):=by
 cases v with
 |v g cs=>
  intro a ha;simp only[List.mem_map]at ha;obtain⟨b,hb,rfl⟩:=ha;exact Qbl (h b hb)
 |tup ps=>
  intro p hp a ha;simp only[List.mem_map]at hp;obtain⟨q,hq,rfl⟩:=hp;simp only[List.mem_map]at ha;obtain⟨b,hb,rfl⟩:=ha;exact Qbl (h q hq b hb)
 |dead=>trivial
theorem Qw7 {j:Nat}:∀(ids:List Nat) {v:TV},TV.free j v->TV.free j (HD ids v)
 |[],_,h=>h
 |_::l,_,h=>Qw7 l (Zcc h)
theorem Q9e:∀(ids:List Nat) (v:TV),∀id∈ids,TV.free id (HD ids v)
 |[],_,id,h=>by simp at h
 |i::l,v,id,h=>by
  simp only[List.mem_cons]at h;by_cases e:id∈l
  ·exact Q9e l (v.kill i) id e
  ·have:id=i:=h.resolve_right e;subst this;exact Qw7 l (TV.kill_free id v)
theorem Qy9:∀(ids:List Nat) (b:Box),(Dj ids b).ty=b.ty
 |[],_=>rfl
 |_::l,b=>by rw[Dj,Qy9 l];rfl
theorem Qsc:∀(ids:List Nat) {b:Box} {xs:List Value},CL (CC ρ w) b.cells xs->CL (CC ρ w) (Dj ids b).cells xs
 |[],_,_,h=>h
 |i::l,b,_,h=>Qsc l (b:=b.kill i) h.kill
theorem Quw:∀(ids:List Nat) {b:Box},(∀a∈b.cells,AC.wf aB aC a)->∀a∈(Dj ids b).cells,AC.wf aB aC a
 |[],_,h=>h
 | i :: l, b, h => Quw l (b := b.kill i) (fun a ha => by
  simp only[Box.kill,List.mem_map]at ha;obtain⟨c,hc,rfl⟩:=ha;exact AC.kill_wf (h c hc))
theorem Q6p {j:Nat}:∀(ids:List Nat) {b:Box},(∀a∈b.cells,AC.free j a)->∀a∈(Dj ids b).cells,AC.free j a
 |[],_,h=>h
 | i :: l, b, h => Q6p l (b := b.kill i) (fun a ha => by
  simp only[Box.kill,List.mem_map]at ha;obtain⟨c,hc,rfl⟩:=ha;exact Qbl (h c hc))
theorem Q6b:∀(ids:List Nat) (b:Box),∀id∈ids,∀a∈(Dj ids b).cells,AC.free id a
 |[],_,id,h=>by simp at h
 |i::l,b,id,h=>by
  simp only[List.mem_cons]at h;by_cases e:id∈l
  ·exact Q6b l (b.kill i) id e
  ·have:id=i:=h.resolve_right e;subst this;exact Q6p l (b := b.kill id) (fun a ha => by
    simp only[Box.kill,List.mem_map]at ha;obtain⟨c,hc,rfl⟩:=ha;exact AC.kill_free id c)
end
end Go.Bm
namespace Go.Bm
open Go.RowKit
section
variable {P:Program} {C:Cfg} {ρ:Env} {w:World} {R:Type} {Z:Base} {tm:List TV} {aB:List (Nat×Box)} {aC:List (Nat×Row)} {tmps:Array Value}
theorem Q2p {k:Nat} {b:Box} (h:Ab aB k=some b):Eh aB k=b.cells:=by unfold Eh;rw[h]
def I1 (ρ:Env) (keys ids:List Nat):Env:=⟨fun c=>ρ.bx (nth 0 keys (c-base)),fun c=>ρ.rv (nth 0 ids (c-base)),fun c=>ρ.wd (nth 0 ids (c-base)),ρ.im⟩
def KD (w:World) (ρ:Env) (keys ids:List Nat):Nat->Prop:=fun b=>b<w.heap.size/\(∀k∈keys,ρ.bx k≠b)/\∀id∈ids,(ρ.rv id).ownBlock≠some b
theorem Qnh (hR:RelE Z tm aB aC ρ tmps w) {args:List TV} {xs:List Value} (h1:xs.length=args.length)
  (h2:∀(i:Nat) (a:TV) (x:Value),args[i]? =some a->xs[i]? =some x->TVR ρ w a x) (hwf:∀v∈args,TV.wf aB aC v) {keys ids:List Nat} (hkd:keys.Nodup) (hidd:ids.Nodup)
  (hin:∀v∈args,TV.inK keys ids v=true) (hbin:∀k∈keys,Ak (AC.inK keys ids) (Eh aB k)=true) {mb:List (Nat×Box)} {mr:List (Nat×Row)}
  (hmb:Di aB (fun k=>base+pos keys k) (fun i=>base+pos ids i) base keys=some mb) (hmr:F8 aC base ids=some mr):
  RelE (EH (KD w ρ keys ids) w (I1 ρ keys ids) mb) (args.map (TV.ren (fun k=>base+pos keys k) (fun i=>base+pos ids i))) mb mr (I1 ρ keys ids) xs.toArray w:=by
 obtain⟨b1,b2⟩:=KQ hmb;obtain⟨r1,r2⟩:=W4 hmr;have eb:∀k,k∈keys->(I1 ρ keys ids).bx (base+pos keys k)=ρ.bx k:=fun k hk=>by
  show ρ.bx (nth 0 keys (base+pos keys k-base))=_;rw[Nat.add_sub_cancel_left,(DV hk).2]
 have er:∀i,i∈ids->(I1 ρ keys ids).rv (base+pos ids i)=ρ.rv i/\(I1 ρ keys ids).wd (base+pos ids i)=ρ.wd i:=fun i hi=>by
  constructor
  ·show ρ.rv (nth 0 ids (base+pos ids i-base))=_;rw[Nat.add_sub_cancel_left,(DV hi).2]
  ·show ρ.wd (nth 0 ids (base+pos ids i-base))=_;rw[Nat.add_sub_cancel_left,(DV hi).2]
 have wb:∀k,k∈keys->(∃b,Ab aB k=some b)->∃b,Ab mb (base+pos keys k)=some b:=fun k hk _=>by
  obtain⟨x,_,q⟩:=b1 (pos keys k) (DV hk).1;exact⟨_,q⟩
 have wr:∀i r,i∈ids->Ab aC i=some r->∃r',Ab mr (base+pos ids i)=some r'/\r'.n=r.n/\r'.w=r.w:=fun i r hi hr=>by
  obtain⟨x,q1,q⟩:=r1 (pos ids i) (DV hi).1;rw[(DV hi).2,hr]at q1;simp at q1;subst q1;exact⟨_,q,rfl,rfl⟩
 have lb:∀c x,Ab mb c=some x->∃i x0,i<keys.length/\c=base+i/\Ab aB (nth 0 keys i)=some x0/\x=⟨x0.ty,x0.cells.map (AC.ren (fun k=>base+pos keys k) (fun i=>base+pos ids i))⟩:=by
  intro c x hc;obtain⟨i,hi,rfl⟩:=b2 c x hc;obtain⟨x0,q1,q2⟩:=b1 i hi;rw[hc]at q2;simp at q2;exact⟨i,x0,hi,rfl,q1,q2⟩
 have lr:∀c x,Ab mr c=some x->∃i,i<ids.length/\c=base+i/\Ab aC (nth 0 ids i)=some x:=by
  intro c x hc;obtain⟨i,hi,rfl⟩:=r2 c x hc;obtain⟨x0,q1,q2⟩:=r1 i hi;rw[hc]at q2;simp at q2;subst q2;exact⟨i,hi,rfl,q1⟩
 have xb:∀i,(I1 ρ keys ids).bx (base+i)=ρ.bx (nth 0 keys i):=fun i=>by
  show ρ.bx (nth 0 keys (base+i-base))=_;rw[Nat.add_sub_cancel_left]
 have xr:∀i,(I1 ρ keys ids).rv (base+i)=ρ.rv (nth 0 ids i):=fun i=>by
  show ρ.rv (nth 0 ids (base+i-base))=_;rw[Nat.add_sub_cancel_left]
 have xw:∀i,(I1 ρ keys ids).wd (base+i)=ρ.wd (nth 0 ids i):=fun i=>by
  show ρ.wd (nth 0 ids (base+i-base))=_;rw[Nat.add_sub_cancel_left]
 have nthk:∀i j,i<keys.length->j<keys.length->nth 0 keys i=nth 0 keys j->i=j:=fun i j hi hj e=>by rw[<-Iw hkd hi,<-Iw hkd hj,e]
 have nthi:∀i j,i<ids.length->j<ids.length->nth 0 ids i=nth 0 ids j->i=j:=fun i j hi hj e=>by rw[<-Iw hidd hi,<-Iw hidd hj,e]
 refine⟨by simp[h1],fun i v hi=> ?_,fun v hv=> ?_,fun k b hk a ha=> ?_,fun k b hk=> ?_,fun k k' b b' hk hk' he=> ?_,fun id r hr=> ?_,fun id id' r r' g hr hr' hg hg'=> ?_,fun k b id r hk hr=> ?_,fun b hb=>⟨(hR.ib b hb).1,fun k bo hk=> ?_,fun id r hr=> ?_⟩,Fr.refl _ _,fun k h=>h.1,fun b h=>h,fun b h=> .inl h,fun k b hk=> ?_⟩
 ·simp only[List.getElem?_map,Option.map_eq_some_iff]at hi;obtain⟨a,ha,rfl⟩:=hi;have hil:i<xs.length:=by rw[h1];exact(List.getElem?_eq_some_iff.1 ha).1
  have e:xs.toArray.getD i undef=xs[i]:=by simp[Array.getD,hil]
  rw[e];exact Qsv (Kp:=(· ∈keys)) (Ip:=(· ∈ids)) eb er rfl (TV.nm_of_inK (hin a (List.mem_of_getElem? ha))) (h2 i a _ ha (List.getElem?_eq_getElem hil))
 ·simp only[List.mem_map]at hv;obtain⟨a,ha,rfl⟩:=hv;exact Q4a (Kp:=(· ∈keys)) (Ip:=(· ∈ids)) wb wr (TV.nm_of_inK (hin a ha)) (hwf a ha)
 ·obtain⟨i,x0,hi,rfl,q1,rfl⟩:=lb k b hk;simp only[List.mem_map]at ha;obtain⟨c,hc,rfl⟩:=ha;have hin':=hbin _ (E5 hi);rw[Q2p q1]at hin';exact Tp (Kp:=(· ∈keys)) (Ip:=(· ∈ids)) wb wr (AC.nm_of_inK (Ax.1 hin' c hc)) (hR.wb _ x0 q1 c hc)
 ·obtain⟨i,x0,hi,rfl,q1,rfl⟩:=lb k b hk;obtain⟨arr,p1,p2,p3⟩:=hR.bx _ x0 q1;have hin':=hbin _ (E5 hi);rw[Q2p q1]at hin';refine⟨arr,by rw[xb];exact p1,Qs (Kp:=(· ∈keys)) (Ip:=(· ∈ids)) eb er rfl (fun c hc=>AC.nm_of_inK (Ax.1 hin' c hc)) p2,?_⟩;rw[xb];exact fun hf=>hf.2.1 _ (E5 hi) rfl
 ·obtain⟨i,x0,hi,rfl,q1,_⟩:=lb k b hk;obtain⟨j,y0,hj,rfl,q2,_⟩:=lb k' b' hk';rw[xb,xb]at he;rw[nthk i j hi hj (hR.bi _ _ _ _ q1 q2 he)]
 ·obtain⟨i,hi,rfl,q1⟩:=lr id r hr;obtain⟨p1,p2,p0,ys,p3,p4⟩:=hR.ro _ r q1;exact⟨p1,by rw[xw];exact p2,fun g hg hf=>hf.2.2 _ (E5 hi) (by rw[xr]at hg;exact hg),ys,by rw[xr];exact p3,p4⟩
 ·obtain⟨i,hi,rfl,q1⟩:=lr id r hr;obtain⟨j,hj,rfl,q2⟩:=lr id' r' hr';rw[xr]at hg hg';rw[nthi i j hi hj (hR.ri _ _ _ _ g q1 q2 hg hg')]
 ·obtain⟨i,x0,hi,rfl,q1,_⟩:=lb k b hk;obtain⟨j,hj,rfl,q2⟩:=lr id r hr;rw[xr,xb];exact hR.br _ _ _ _ q1 q2
 ·obtain⟨i,x0,hi,rfl,q1,_⟩:=lb k bo hk;rw[xb];exact(hR.ib b hb).2.1 _ _ q1
 ·obtain⟨i,hi,rfl,q1⟩:=lr id r hr;rw[xr];exact(hR.ib b hb).2.2 _ _ q1
 ·simp only[EH,Option.map_eq_some_iff]at hk;obtain⟨bo,hbo,e⟩:=hk;exact⟨e,bo,hbo⟩
noncomputable def EC (ρ ρ2:Env) (mb':List (Nat×Box)) (mr':List (Nat×Row)) (bk bi:Nat->Nat):Env:=
 ⟨fun n=>match KU mb' bk n with|some k=>ρ2.bx k|none=>ρ.bx n,fun n=>match KU mr' bi n with|some k=>ρ2.rv k|none=>ρ.rv n,fun n=>match KU mr' bi n with|some k=>ρ2.wd k|none=>ρ.wd n,ρ2.im⟩
theorem Qds (hR:RelE Z tm aB aC ρ tmps w) {keys ids:List Nat} (hkd:keys.Nodup) (hidd:ids.Nodup) {mb mb':List (Nat×Box)} {mr mr':List (Nat×Row)}
  (hmb:Di aB (fun k=>base+pos keys k) (fun i=>base+pos ids i) base keys=some mb) (hmr:F8 aC base ids=some mr) {v:TV} {x:Value} {ρ2:Env} {w':World}
  (hR2:RelE (EH (KD w ρ keys ids) w (I1 ρ keys ids) mb) [v] mb' mr' ρ2 #[x] w') {d:Nat}
  (hb':(mb'.map (·.1)).Nodup) (hr':(mr'.map (·.1)).Nodup) (hfb:∀k∈Bd keys mb',Ab aB (Bx keys (Bd keys mb') d k)=none) (hfr:∀k∈Bd ids mr',Ab aC (Bx ids (Bd ids mr') d k)=none):
  let bk:=Bx keys (Bd keys mb') d
  let bi:=Bx ids (Bd ids mr') d
  RelE Z (tm.map (HD ids)) (LB bk bi mb' ((Dx keys aB).map fun p=>(p.1,Dj ids p.2))) (Ko bi mr' (Dx ids aC)) (EC ρ ρ2 mb' mr' bk bi) tmps w'/\
   TVR (EC ρ ρ2 mb' mr' bk bi) w' (v.ren bk bi) x/\TV.wf (LB bk bi mb' ((Dx keys aB).map fun p=>(p.1,Dj ids p.2))) (Ko bi mr' (Dx ids aC)) (v.ren bk bi):=by
 intro bk bi;obtain⟨b1,b2⟩:=KQ hmb;obtain⟨r1,r2⟩:=W4 hmr;have hkb:∀k∈keys,∃b,Ab aB k=some b:=fun k hk=>by
  obtain⟨x,q,_⟩:=b1 (pos keys k) (DV hk).1;rw[(DV hk).2]at q;exact⟨x,q⟩
 have hir:∀k∈ids,∃b,Ab aC k=some b:=fun k hk=>by
  obtain⟨x,q,_⟩:=r1 (pos ids k) (DV hk).1;rw[(DV hk).2]at q;exact⟨x,q⟩
 have injb:∀k∈mb'.map (·.1),∀j∈mb'.map (·.1),bk k=bk j->k=j:=Qxq hkd hkb hfb;have injr:∀k∈mr'.map (·.1),∀j∈mr'.map (·.1),bi k=bi j->k=j:=Qxq hidd hir hfr
 have hkeep:∀i,i<keys.length->(∃b,Ab mb' (base+i)=some b)/\ρ2.bx (base+i)=ρ.bx (nth 0 keys i):=by
  intro i hi;obtain⟨x0,_,q⟩:=b1 i hi;obtain ⟨p1, bo, p2⟩ := hR2.k0 (base + i) (ρ.bx (nth 0 keys i)) (by
   simp only[EH,q,Option.map_some];show some (ρ.bx (nth 0 keys (base+i-base)))=_;rw[Nat.add_sub_cancel_left])
  exact⟨⟨bo,p2⟩,p1⟩
 have bkin:∀i,i<keys.length->bk (base+i)=nth 0 keys i:=fun i hi=>by
  have:=KP (names:=keys) (fresh:=Bd keys mb') (d:=d) (k:=base+i) ⟨by omega,by omega⟩;rw[Nat.add_sub_cancel_left]at this;exact this
 have biin:∀i,i<ids.length->bi (base+i)=nth 0 ids i:=fun i hi=>by
  have:=KP (names:=ids) (fresh:=Bd ids mr') (d:=d) (k:=base+i) ⟨by omega,by omega⟩;rw[Nat.add_sub_cancel_left]at this;exact this
 have imb:∀k∈mb'.map (·.1),(∃i,i<keys.length/\k=base+i/\bk k=nth 0 keys i)\/(Ab aB (bk k)=none):=by
  intro k hk;by_cases hc:base<=k/\k-base<keys.length
  ·refine .inl ⟨k-base,hc.2,by omega,?_⟩;have:=bkin (k-base) hc.2;rw[show base+(k-base)=k from by omega]at this;exact this
  ·exact .inr (hfb k (Jp.2 ⟨hk,hc⟩))
 have imr:∀k∈mr'.map (·.1),(∃i,i<ids.length/\k=base+i/\bi k=nth 0 ids i)\/(Ab aC (bi k)=none):=by
  intro k hk;by_cases hc:base<=k/\k-base<ids.length
  ·refine .inl ⟨k-base,hc.2,by omega,?_⟩;have:=biin (k-base) hc.2;rw[show base+(k-base)=k from by omega]at this;exact this
  ·exact .inr (hfr k (Jp.2 ⟨hk,hc⟩))
 have nob:∀n b,Ab aB n=some b->n∉keys->∀k∈mb'.map (·.1),n≠bk k:=by
  rintro n b hn hnk k hk rfl;rcases imb k hk with⟨i,hi,_,e⟩|e
  ·exact hnk (by rw[e];exact E5 hi)
  ·rw[hn]at e;cases e
 have nor:∀n b,Ab aC n=some b->n∉ids->∀k∈mr'.map (·.1),n≠bi k:=by
  rintro n b hn hnk k hk rfl;rcases imr k hk with⟨i,hi,_,e⟩|e
  ·exact hnk (by rw[e];exact E5 hi)
  ·rw[hn]at e;cases e
 have ebx:∀k,(∃b,Ab mb' k=some b)->(EC ρ ρ2 mb' mr' bk bi).bx (bk k)=ρ2.bx k:=fun k hk=>by
  simp only[EC,Q98 injb (Ma.2 hk)]
 have erv:∀k,(∃b,Ab mr' k=some b)->(EC ρ ρ2 mb' mr' bk bi).rv (bi k)=ρ2.rv k/\(EC ρ ρ2 mb' mr' bk bi).wd (bi k)=ρ2.wd k:=fun k hk=>by
  constructor<;>simp only[EC,Q98 injr (Ma.2 hk)]
 have obx:∀n,(∃b,Ab aB n=some b)->(EC ρ ρ2 mb' mr' bk bi).bx n=ρ.bx n:=by
  rintro n ⟨b,hn⟩;by_cases hnk:n∈keys
  ·obtain⟨p1,p2⟩:=DV hnk;obtain⟨q1,q2⟩:=hkeep _ p1;have:=ebx (base+pos keys n) q1;rw[bkin _ p1,p2,q2,p2]at this;exact this
  ·simp only[EC,Q0q (nob n b hn hnk)]
 have orv:∀n,(∃b,Ab aC n=some b)->n∉ids->(EC ρ ρ2 mb' mr' bk bi).rv n=ρ.rv n/\(EC ρ ρ2 mb' mr' bk bi).wd n=ρ.wd n:=by
  rintro n ⟨b,hn⟩ hnk;constructor<;>simp only[EC,Q0q (nor n b hn hnk)]
 have hsz:=hR2.fr.size;have fbx:∀n b,Ab aB n=some b->n∉keys->KD w ρ keys ids (ρ.bx n):=fun n b hn hnk=>
  ⟨hR.bxlt hn,fun k hk e=>by obtain⟨b',hb'⟩:=hkb k hk;exact hnk (by rw[<-hR.bi k n b' b hb' hn e];exact hk),fun id hid=>by obtain⟨r,hr⟩:=hir id hid;exact hR.br n b id r hn hr⟩
 have frv:∀n r g,Ab aC n=some r->n∉ids->(ρ.rv n).ownBlock=some g->KD w ρ keys ids g:=fun n r g hn hnk hg=>
  ⟨(hR.rwlt hn hg).2,fun k hk e=>by obtain⟨b',hb'⟩:=hkb k hk;exact hR.br k b' n r hb' hn (by rw[hg,e]),fun id hid e=>by obtain⟨r',hr'⟩:=hir id hid;exact hnk (by rw[<-hR.ri id n r' r g hr' hn e hg];exact hid)⟩
 have fim:∀b,ρ.im b->KD w ρ keys ids b:=fun b hb=>
  ⟨(hR.ib b hb).1,fun k hk=>by obtain⟨b',hb'⟩:=hkb k hk;exact(hR.ib b hb).2.1 k b' hb',fun id hid=>by obtain⟨r,hr⟩:=hir id hid;exact(hR.ib b hb).2.2 id r hr⟩
 have fz:∀b,Z.F b->KD w ρ keys ids b:=fun b hb=>
  ⟨hR.fs b hb,fun k hk e=>by obtain⟨b',hb'⟩:=hkb k hk;obtain⟨_,_,_,q⟩:=hR.bx k b' hb';exact q (e▸hb),fun id hid e=>by obtain⟨r,hr⟩:=hir id hid;exact(hR.rwlt hr e).1 hb⟩
 have hold:∀b,KD w ρ keys ids b->w'.heap[b]? =w.heap[b]? :=fun b hb=>hR2.fr.block b hb;have him:∀b,ρ.im b->ρ2.im b:=fun b hb=>hR2.i0 b hb;have him2:∀b,ρ2.im b->ρ.im b\/ ¬KD w ρ keys ids b:=fun b hb=>hR2.i1 b hb
 have hbn:∀k∈mb'.map (·.1),Ab ((Dx keys aB).map fun p=>(p.1,Dj ids p.2)) (bk k)=none:=by
  intro k hk;rw[FJ (Dj ids),J1];rcases imb k hk with⟨i,hi,_,e⟩|e
  ·rw[if_pos (by rw[e];exact E5 hi)];rfl
  ·split
   ·rfl
   ·rw[e];rfl
 have hrn:∀k∈mr'.map (·.1),Ab (Dx ids aC) (bi k)=none:=by
  intro k hk;rw[J1];rcases imr k hk with⟨i,hi,_,e⟩|e
  ·rw[if_pos (by rw[e];exact E5 hi)]
  ·split
   ·rfl
   ·exact e
 obtain⟨gb1,gb2⟩:=Tu (rk:=bk) (g:=fun b:Box=>(⟨b.ty,b.cells.map (AC.ren bk bi)⟩:Box)) hb' injb hbn;obtain⟨gr1,gr2⟩:=Tu (rk:=bi) (g:=fun b:Row=>b) hr' injr hrn;rw[ZU,Zak];generalize hB:Ho bk (fun b:Box=>(⟨b.ty,b.cells.map (AC.ren bk bi)⟩:Box)) mb' ((Dx keys aB).map fun p=>(p.1,Dj ids p.2))=B' at gb1 gb2⊢;generalize hRr:Ho bi (fun b:Row=>b) mr' (Dx ids aC)=R' at gr1 gr2⊢;have caseB:∀n b,Ab B' n=some b->(∃k b0,Ab mb' k=some b0/\n=bk k/\b=⟨b0.ty,b0.cells.map (AC.ren bk bi)⟩)\/(n∉keys/\∃b0,Ab aB n=some b0/\b=Dj ids b0):=by
  intro n b hn;by_cases hc:∃k∈mb'.map (·.1),n=bk k
  ·obtain⟨k,hk,rfl⟩:=hc;obtain⟨b0,hb0⟩:=Ma.1 hk;have:=gb1 k b0 hb0;rw[hn]at this;simp at this;exact .inl ⟨k,b0,hb0,rfl,this⟩
  ·rw[gb2 n (fun k hk e=>hc ⟨k,hk,e⟩),FJ (Dj ids),J1]at hn;split at hn
   ·simp at hn
   ·rename_i hnk;simp only[Option.map_eq_some_iff]at hn;obtain⟨b0,h1,h2⟩:=hn;exact .inr ⟨hnk,b0,h1,h2.symm⟩
 have caseR:∀n r,Ab R' n=some r->(∃k,Ab mr' k=some r/\n=bi k)\/(n∉ids/\Ab aC n=some r):=by
  intro n r hn;by_cases hc:∃k∈mr'.map (·.1),n=bi k
  ·obtain⟨k,hk,rfl⟩:=hc;obtain⟨b0,hb0⟩:=Ma.1 hk;have:=gr1 k b0 hb0;rw[hn]at this;simp at this;subst this;exact .inl ⟨k,hb0,rfl⟩
  ·rw[gr2 n (fun k hk e=>hc ⟨k,hk,e⟩),J1]at hn;split at hn
   ·simp at hn
   ·rename_i hnk;exact .inr ⟨hnk,hn⟩
 have oldB:∀n b,Ab aB n=some b->∃b',Ab B' n=some b':=by
  intro n b hn;by_cases hnk:n∈keys
  ·obtain⟨p1,p2⟩:=DV hnk;obtain⟨⟨bo,q1⟩,_⟩:=hkeep _ p1;have:=gb1 _ bo q1;rw[bkin _ p1,p2]at this;exact⟨_,this⟩
  ·rw[gb2 n (nob n b hn hnk),FJ (Dj ids),J1,if_neg hnk,hn];exact⟨_,rfl⟩
 have oldR:∀n r,Ab aC n=some r->n∉ids->Ab R' n=some r:=by
  intro n r hn hnk;rw[gr2 n (nor n r hn hnk),J1,if_neg hnk,hn]
 let Q:AC->Prop:=fun a=>AC.wf aB aC a/\∀id∈ids,AC.free id a
 have hagree:∀a,Q a->a.agree ρ (EC ρ ρ2 mb' mr' bk bi):=by
  rintro a ⟨ha,hf⟩;have hp:∀l:List AC,(∀a∈l,AC.wfP aB a)->∀a∈l,a.agreeP ρ (EC ρ ρ2 mb' mr' bk bi):=by
   intro l hl c hc;have:=hl c hc;cases c<;>first|exact obx _ this|trivial
  cases a with
  |ptr k o=>exact obx k ha
  |bsl k o=>exact obx k ha
  |own id _ _=>obtain⟨r,h1,_⟩:=ha;exact orv id ⟨r,h1⟩ (fun hm=>hf id hm rfl)
  |rptr id _ _=>obtain⟨r,h1,_⟩:=ha;exact orv id ⟨r,h1⟩ (fun hm=>hf id hm rfl)
  |clo f fs cs=>exact⟨hp fs ha.1,hp cs ha.2⟩
  |_=>trivial
 have hcc:∀(a:AC) (y:Value),Q a->CC ρ w a y->CC (EC ρ ρ2 mb' mr' bk bi) w' a y:=fun a y hq hy=>CC.mono (ρ':=EC ρ ρ2 mb' mr' bk bi) him (fun b hb=>hold b (fim b hb)) a y (hagree a hq) hy;have hwfQ:∀a,Q a->AC.wf B' R' a:=by
  rintro a ⟨ha,hf⟩;cases a with
  |ptr k o=>obtain⟨b,hb⟩:=ha;exact oldB k b hb
  |bsl k o=>obtain⟨b,hb⟩:=ha;exact oldB k b hb
  |own id _ _=>obtain⟨r,h1,h2⟩:=ha;exact⟨r,oldR id r h1 (fun hm=>hf id hm rfl),h2⟩
  |rptr id _ _=>obtain⟨r,h1,h2⟩:=ha;exact⟨r,oldR id r h1 (fun hm=>hf id hm rfl),h2⟩
  |vptr=>exact ha
  |clo f fs cs=>exact⟨fun c hc=>AC.wfP_mono oldB (ha.1 c hc),fun c hc=>AC.wfP_mono oldB (ha.2 c hc)⟩
  |_=>trivial
 have newwf:∀a,AC.wf mb' mr' a->AC.wf B' R' (a.ren bk bi):=fun a ha=>
  Tp (Kp:=fun k=>∃b,Ab mb' k=some b) (Ip:=fun i=>∃r,Ab mr' i=some r) (fun k _ ⟨b,hb⟩=>⟨_,gb1 k b hb⟩) (fun i r _ hr=>⟨r,gr1 i r hr,rfl,rfl⟩) (AC.nm_of_wf ha) ha
 have fTV:∀v∈tm.map (HD ids),TV.wf aB aC v/\∀id∈ids,TV.free id v:=by
  intro v hv;simp only[List.mem_map]at hv;obtain⟨u,hu,rfl⟩:=hv;exact⟨Qwe ids (hR.wt u hu),fun id hid=>Q9e ids u id hid⟩
 have qTV:∀v∈tm.map (HD ids),(match v with| .v _ cs=>∀a∈cs,Q a| .tup ps=>∀p∈ps,∀a∈p.2,Q a| .dead=>True):=by
  intro v hv;obtain⟨h1,h2⟩:=fTV v hv;cases v with
  |dead=>trivial
  |v g cs=>exact fun a ha=>⟨h1 a ha,fun id hid=>h2 id hid a ha⟩
  |tup ps=>exact fun p hp a ha=>⟨h1 p hp a ha,fun id hid=>h2 id hid p hp a ha⟩
 have qB:∀n b0,Ab aB n=some b0->∀a∈(Dj ids b0).cells,Q a:=fun n b0 hn a ha=>⟨Quw ids (hR.wb n b0 hn) a ha,fun id hid=>Q6b ids b0 id hid a ha⟩;have hvwf:TV.wf mb' mr' v:=hR2.wt v (by simp);refine⟨⟨by simpa using hR.tl,fun i v hi=> ?_,fun v hv=> ?_,fun n b hn a ha=> ?_,fun n b hn=> ?_,fun n n' b b' hn hn' he=> ?_,fun n r hn=> ?_,fun n n' r r' g hn hn' hg hg'=> ?_,fun n b m r hn hm=> ?_,fun b hb=>⟨(hR2.ib b hb).1,fun n bo hn=> ?_,fun n r hn=> ?_⟩,?_,?_,fun b hb=>him b (hR.i0 b hb),fun b hb=> ?_,fun k b hk=> ?_⟩,?_,?_⟩
 ·have hv:=List.mem_of_getElem? hi;simp only[List.getElem?_map,Option.map_eq_some_iff]at hi;obtain⟨u,hu,rfl⟩:=hi;exact TVR.mono2 hcc (qTV _ hv) (Qz2 ids (hR.tv i u hu))
 ·have:=qTV v hv;cases v with
  |dead=>trivial
  |v g cs=>exact fun a ha=>hwfQ a (this a ha)
  |tup ps=>exact fun p hp a ha=>hwfQ a (this p hp a ha)
 ·rcases caseB n b hn with⟨k,b0,h1,rfl,rfl⟩|⟨hnk,b0,h1,rfl⟩
  ·simp only[List.mem_map]at ha;obtain⟨c,hc,rfl⟩:=ha;exact newwf c (hR2.wb k b0 h1 c hc)
  ·exact hwfQ a (qB n b0 h1 a ha)
 ·rcases caseB n b hn with⟨k,b0,h1,rfl,rfl⟩|⟨hnk,b0,h1,rfl⟩
  ·obtain⟨arr,q1,q2,q3⟩:=hR2.bx k b0 h1;refine⟨arr,by rw[ebx k ⟨b0,h1⟩];exact q1,Qs (Kp:=fun k=>∃b,Ab mb' k=some b) (Ip:=fun i=>∃r,Ab mr' i=some r) ebx erv rfl (fun c hc=>AC.nm_of_wf (hR2.wb k b0 h1 c hc)) q2,?_⟩;rw[ebx k ⟨b0,h1⟩];exact fun hf=>q3 (fz _ hf)
  ·obtain⟨arr,q1,q2,q3⟩:=hR.bx n b0 h1;rw[obx n ⟨b0,h1⟩];refine⟨arr,by rw[hold _ (fbx n b0 h1 hnk),Qy9];exact q1,?_,q3⟩;exact(Qsc ids q2).mono fun a ha y hy=>hcc a y (qB n b0 h1 a ha) hy
 ·rcases caseB n b hn with⟨k,b0,h1,rfl,_⟩|⟨hnk,b0,h1,_⟩<;>rcases caseB n' b' hn' with⟨k',b0',h1',rfl,_⟩|⟨hnk',b0',h1',_⟩
  ·rw[ebx k ⟨b0,h1⟩,ebx k' ⟨b0',h1'⟩]at he;rw[hR2.bi k k' _ _ h1 h1' he]
  ·rw[ebx k ⟨b0,h1⟩,obx n' ⟨b0',h1'⟩]at he;obtain⟨_,_,_,q3⟩:=hR2.bx k b0 h1;exact absurd (he▸fbx n' b0' h1' hnk') q3
  ·rw[obx n ⟨b0,h1⟩,ebx k' ⟨b0',h1'⟩]at he;obtain⟨_,_,_,q3⟩:=hR2.bx k' b0' h1';exact absurd (he▸fbx n b0 h1 hnk) q3
  ·rw[obx n ⟨b0,h1⟩,obx n' ⟨b0',h1'⟩]at he;exact hR.bi n n' _ _ h1 h1' he
 ·rcases caseR n r hn with⟨k,h1,rfl⟩|⟨hnk,h1⟩
  ·obtain⟨q1,q2,q0,ys,q3,q4⟩:=hR2.ro k r h1;obtain⟨e1,e2⟩:=erv k ⟨r,h1⟩;rw[e1,e2];exact⟨q1,q2,fun g hg hf=>q0 g hg (fz g hf),ys,q3,q4⟩
  ·obtain⟨q1,q2,q0,ys,q3,q4⟩:=hR.ro n r h1;obtain⟨e1,e2⟩:=orv n ⟨r,h1⟩ hnk;rw[e1,e2];exact⟨q1,q2,q0,ys,K4 q3 fun g hg=>hold g (frv n r g h1 hnk hg),q4.mono him (fun b hb=>hold b (fim b hb))⟩
 ·rcases caseR n r hn with⟨k,h1,rfl⟩|⟨hnk,h1⟩<;>rcases caseR n' r' hn' with⟨k',h1',rfl⟩|⟨hnk',h1'⟩
  ·rw[(erv k ⟨r,h1⟩).1]at hg;rw[(erv k' ⟨r',h1'⟩).1]at hg';rw[hR2.ri k k' _ _ g h1 h1' hg hg']
  ·rw[(erv k ⟨r,h1⟩).1]at hg;rw[(orv n' ⟨r',h1'⟩ hnk').1]at hg';obtain⟨_,_,q0,_⟩:=hR2.ro k r h1;exact absurd (frv n' r' g h1' hnk' hg') (q0 g hg)
  ·rw[(orv n ⟨r,h1⟩ hnk).1]at hg;rw[(erv k' ⟨r',h1'⟩).1]at hg';obtain⟨_,_,q0,_⟩:=hR2.ro k' r' h1';exact absurd (frv n r g h1 hnk hg) (q0 g hg')
  ·rw[(orv n ⟨r,h1⟩ hnk).1]at hg;rw[(orv n' ⟨r',h1'⟩ hnk').1]at hg';exact hR.ri n n' _ _ g h1 h1' hg hg'
 ·rcases caseB n b hn with⟨k,b0,h1,rfl,_⟩|⟨hnk,b0,h1,_⟩<;>rcases caseR m r hm with⟨k',h1',rfl⟩|⟨hmk,h1'⟩
  ·rw[ebx k ⟨b0,h1⟩,(erv k' ⟨r,h1'⟩).1];exact hR2.br k b0 k' r h1 h1'
  ·rw[ebx k ⟨b0,h1⟩,(orv m ⟨r,h1'⟩ hmk).1];intro e;obtain⟨_,_,_,q3⟩:=hR2.bx k b0 h1;exact q3 (frv m r _ h1' hmk e)
  ·rw[obx n ⟨b0,h1⟩,(erv k' ⟨r,h1'⟩).1];intro e;obtain⟨_,_,q0,_⟩:=hR2.ro k' r h1';exact q0 _ e (fbx n b0 h1 hnk)
  ·rw[obx n ⟨b0,h1⟩,(orv m ⟨r,h1'⟩ hmk).1];exact hR.br n b0 m r h1 h1'
 ·rcases caseB n bo hn with⟨k,b0,h1,rfl,_⟩|⟨hnk,b0,h1,_⟩
  ·rw[ebx k ⟨b0,h1⟩];exact(hR2.ib b hb).2.1 k b0 h1
  ·rw[obx n ⟨b0,h1⟩];rcases him2 b hb with hb2|hb2
   ·exact(hR.ib b hb2).2.1 n b0 h1
   ·exact fun e=>hb2 (e▸fbx n b0 h1 hnk)
 ·rcases caseR n r hn with⟨k,h1,rfl⟩|⟨hnk,h1⟩
  ·rw[(erv k ⟨r,h1⟩).1];exact(hR2.ib b hb).2.2 k r h1
  ·rw[(orv n ⟨r,h1⟩ hnk).1];rcases him2 b hb with hb2|hb2
   ·exact(hR.ib b hb2).2.2 n r h1
   ·exact fun e=>hb2 (frv n r b h1 hnk e)
 ·exact hR.fr.trans ⟨hR2.fr.os,hR2.fr.tape,hR2.fr.output,hR2.fr.size,fun k hk=>hold k (fz k hk)⟩
 ·exact fun k hk=>Nat.lt_of_lt_of_le (hR.fs k hk) hsz
 ·rcases him2 b hb with hb2|hb2
  ·exact hR.i1 b hb2
  ·exact .inr fun hf=>hb2 (fz b hf)
 ·obtain⟨q1,bo,q2⟩:=hR.k0 k b hk;exact⟨by rw[obx k ⟨bo,q2⟩];exact q1,oldB k bo q2⟩
 ·have htv:TVR ρ2 w' v x:=by simpa using hR2.tv 0 v rfl
  exact Qsv (Kp:=fun k=>∃b,Ab mb' k=some b) (Ip:=fun i=>∃r,Ab mr' i=some r) ebx erv rfl (TV.nm_of_wf hvwf) htv
 ·exact Q4a (Kp:=fun k=>∃b,Ab mb' k=some b) (Ip:=fun i=>∃r,Ab mr' i=some r) (fun k _ ⟨b,hb⟩=>⟨_,gb1 k b hb⟩) (fun i r _ hr=>⟨r,gr1 i r hr,rfl,rfl⟩) (TV.nm_of_wf hvwf) hvwf
theorem YZ {α:Type} {l:List (Nat×α)} {k:Nat} (h:HG l k=true):Ab l k=none:=by
 unfold HG at h;split at h
 ·cases h
 ·assumption
theorem Z7q (hspec:Ai P C) (hR:RelE Z tm aB aC ρ tmps w) {o:Oper} {a:Act} {f:FuncId} {args:List TV} {xs:List Value} (h1:xs.length=args.length)
  (h2:∀(i:Nat) (a:TV) (x:Value),args[i]? =some a->xs[i]? =some x->TVR ρ w a x) (h3:execOp a.eval o=callFunc f xs.toArray) (hwf:∀v∈args,TV.wf aB aC v) {K:TV->St->Option R} {r:R}
  (h:A1 C o.dst (.callM f args) ⟨tm,aB,aC⟩ K=some r) {next:Act->World->Prop} {Q:Exit->Act->World->Prop}
  (hnext:∀(v:TV) (tm':List TV) (boxes':List (Nat×Box)) (rows':List (Nat×Row)) (ρ':Env) (x:Value) (w':World),K v ⟨tm',boxes',rows'⟩=some r->RelE Z tm' boxes' rows' ρ' tmps w'->TVR ρ' w' v x->TV.wf boxes' rows' v->next (a.put o.dst x) w'):
  o.wp P a w next Q:=by
 simp only[A1]at h;split at h
 ·rename_i g hg;have hsp:=hspec.1 f g hg;simp only[A4]at h;generalize hk:K3 aB 4 (AZ (cat AC.keys (cat TV.cellsOf args)) [])=keys at h;generalize hi:NI aB (cat TV.cellsOf args) keys=ids at h;clear hk hi;cases hc:(Ak (TV.inK keys ids) args&&Ak (fun k=>Ak (AC.inK keys ids) (Eh aB k)) keys&&Bz keys&&Bz ids)<;>rw[hc]at h
  ·simp at h
  ·simp only[cond_true]at h;simp only[Bool.and_eq_true]at hc;obtain⟨⟨⟨c1,c2⟩,c3⟩,c4⟩:=hc;split at h
   ·rename_i mb mr hmb hmr;have hkd:=Iu.1 c3;have hidd:=Iu.1 c4;obtain⟨v,⟨mb',mr'⟩,hv,hpc⟩:=hsp.run h;have hent:=Qnh hR h1 h2 hwf hkd hidd (fun v hv=>Ax.1 c1 v hv) (fun k hk=>Ax.1 c2 k hk) hmb hmr;refine RT h3 ((hpc _ w _ xs hent).mono ?_);rintro e w' ⟨x,ρ2,he,hR2⟩;dsimp only at hv;cases hc2:(Ak (fun p:Nat×Box=>DK mb' p.1) mb&&Bz (mb'.map (·.1))&&Bz (mr'.map (·.1))&&Ak (fun k=>HG aB (Bx keys (Bd keys mb') (o.dst.getD 0) k)) (Bd keys mb')&&Ak (fun k=>HG aC (Bx ids (Bd ids mr') (o.dst.getD 0) k)) (Bd ids mr')&&Nat.ble (Bd keys mb').length 100&&Nat.ble (Bd ids mr').length 100)<;>rw[hc2]at hv
    ·simp at hv
    ·simp only[cond_true]at hv;simp only[Bool.and_eq_true]at hc2;obtain⟨⟨⟨⟨⟨⟨_,d2⟩,d3⟩,d4⟩,d5⟩,_⟩,_⟩:=hc2;obtain⟨e1,e2,e3⟩:=Qds hR hkd hidd hmb hmr hR2 (d:=o.dst.getD 0) (Iu.1 d2) (Iu.1 d3) (fun k hk=>YZ (Ax.1 d4 k hk)) (fun k hk=>YZ (Ax.1 d5 k hk));exact⟨x,he,hnext _ _ _ _ _ x w' hv e1 e2 e3⟩
   ·simp at h
 ·simp at h
theorem RelE.cong {boxes':List (Nat×Box)} (h:RelE Z tm aB aC ρ tmps w) (hl:∀k,Ab boxes' k=Ab aB k):RelE Z tm boxes' aC ρ tmps w:=by
 have ha:∀a,AC.wf aB aC a->AC.wf boxes' aC a:=fun a=>AC.wf_mono (fun k b hk=>⟨b,by rw[hl];exact hk⟩) (fun k r hk=>⟨r,hk,rfl,rfl⟩);exact⟨h.tl,h.tv,fun v hv=>TV.wf_mono ha (h.wt v hv),fun k b hk a ha'=>ha a (h.wb k b (by rw[<-hl];exact hk) a ha'),
  fun k b hk=>h.bx k b (by rw[<-hl];exact hk),fun k k' b b' hk hk'=>h.bi k k' b b' (by rw[<-hl];exact hk) (by rw[<-hl];exact hk'),h.ro,h.ri,
  fun k b id r hk=>h.br k b id r (by rw[<-hl];exact hk),fun b hb=>⟨(h.ib b hb).1,fun k bo hk=>(h.ib b hb).2.1 k bo (by rw[<-hl];exact hk),(h.ib b hb).2.2⟩,
  h.fr,h.fs,h.i0,h.i1,fun k b hk=>⟨(h.k0 k b hk).1,by rw[hl];exact(h.k0 k b hk).2⟩⟩
theorem Q2o {keys:List Nat} (hkd:keys.Nodup):∀{m l:List (Nat×Box)},(m.map (·.1)).Nodup->(∀k∈m.map (·.1),base<=k/\k-base<keys.length)->(∀k∈keys,∃b,Ab l k=some b)->
  (∀k b,Ab m k=some b->Ab (Cg keys m l) (nth 0 keys (k-base))=some b)/\(∀n,(∀k∈m.map (·.1),n≠nth 0 keys (k-base))->Ab (Cg keys m l) n=Ab l n)
 |[],l,_,_,_=>⟨fun k b h=>by simp[Ab]at h,fun n _=>rfl⟩
 |(j,c)::m,l,hd,hi,hn=>by
  simp only[List.map_cons,List.nodup_cons]at hd;have hj:=hi j (by simp);have hne:∀k∈m.map (·.1),nth 0 keys (j-base)≠nth 0 keys (k-base):=fun k hk e=>by
   have hk':=hi k (by simp at hk⊢;exact .inr hk);have e':=congrArg (pos keys) e;rw[Iw hkd hj.2,Iw hkd hk'.2]at e';have:k=j:=by omega
   subst this;exact hd.1 hk
  obtain⟨y,hy⟩:=hn _ (E5 hj.2);obtain ⟨h1, h2⟩ := Q2o hkd (m := m) (l := upd l (nth 0 keys (j - base)) c) hd.2 (fun k hk => hi k (by simp at hk ⊢; exact .inr hk)) (fun k hk => by
   by_cases e:k=nth 0 keys (j-base)
   ·subst e;exact⟨c,Er _ _ _ _ hy⟩
   ·rw[C4 _ _ _ _ e];exact hn k hk)
  refine⟨fun k b hk=> ?_,fun n hnn=> ?_⟩
  ·simp only[Ab]at hk;simp only[Cg];cases hb:Nat.beq j k<;>rw[hb]at hk
   ·exact h1 k b hk
   ·have:=Nat.eq_of_beq_eq_true hb;subst this;simp at hk;subst hk;rw[h2 _ hne];exact Er _ _ _ _ hy
  ·simp only[Cg];rw[h2 n (fun k hk=>hnn k (by simp at hk⊢;exact .inr hk))];exact C4 _ _ _ _ (hnn j (by simp))
theorem Z3i {rk ri:Nat->Nat} {a:AC} (h:a.calm=true):a.ren rk ri=a:=by cases a<;>simp[AC.calm]at h<;>rfl
theorem PU {rk ri:Nat->Nat}:∀{l:List AC},Ak AC.calm l=true->l.map (AC.ren rk ri)=l
 |[],_=>rfl
 |a::l,h=>by
  rw[Ax]at h;simp only[List.map_cons];rw[Z3i (h a (by simp)),PU (Ax.2 fun x hx=>h x (by simp[hx]))]
theorem Q2k {a:AC} (h:a.plain=true):a.calm=true:=by cases a<;>simp[AC.plain]at h<;>rfl
theorem Qg2 {rk ri:Nat->Nat} {v:TV} (h:v.plainB=true):v.ren rk ri=v:=by
 cases v with
 |dead=>rfl
 |v g cs=>
  simp only[TV.plainB,Ax]at h;simp only[TV.ren];rw[PU (Ax.2 fun a ha=>Q2k (h a ha))]
 |tup ps=>
  simp only[TV.plainB,Ax]at h;simp only[TV.ren];congr 1
  conv=>rhs;rw[<-List.map_id ps]
  apply List.map_congr_left;intro p hp;rw[PU (Ax.2 fun a ha=>Q2k (h p hp a ha))];rfl
theorem SQ {α:Type} {l:List (Nat×α)} {k:Nat} (h:DK l k=true):∃b,Ab l k=some b:=by
 unfold DK at h;split at h
 ·rename_i b hb;exact⟨b,hb⟩
 ·cases h
theorem Zjf {keys:List Nat} (hkd:keys.Nodup) {mb mb':List (Nat×Box)} (hmb:Di aB (fun k=>base+pos keys k) (fun i=>base+pos [] i) base keys=some mb)
  (h1:∀p∈mb,DK mb' p.1=true) (h2:∀p∈mb',DK mb p.1=true) (h3:(mb'.map (·.1)).Nodup) (h4:∀p∈mb',Ak AC.calm p.2.cells=true) (bi:Nat->Nat) (d:Nat) (k:Nat):
  Ab (Cg keys mb' aB) k=Ab (LB (Bx keys [] d) bi mb' ((Dx keys aB).map fun p=>(p.1,Dj [] p.2))) k:=by
 obtain⟨b1,b2⟩:=KQ hmb;have hin:∀k∈mb'.map (·.1),base<=k/\k-base<keys.length:=by
  intro k hk;simp only[List.mem_map]at hk;obtain⟨p,hp,rfl⟩:=hk;obtain⟨b,hb⟩:=SQ (h2 p hp);obtain⟨i,hi,e⟩:=b2 _ _ hb;omega
 have hall:∀i,i<keys.length->∃b,Ab mb' (base+i)=some b:=by
  intro i hi;obtain⟨x,_,q⟩:=b1 i hi;exact SQ (h1 _ (NH q))
 have hkb:∀k∈keys,∃b,Ab aB k=some b:=fun k hk=>by
  obtain⟨x,q,_⟩:=b1 (pos keys k) (DV hk).1;rw[(DV hk).2]at q;exact⟨x,q⟩
 have hbk:∀k∈mb'.map (·.1),Bx keys [] d k=nth 0 keys (k-base):=fun k hk=>KP (hin k hk);obtain⟨u1,u2⟩:=Q2o (l:=aB) hkd h3 hin hkb;have hdel:∀n,Ab ((Dx keys aB).map fun p=>(p.1,Dj [] p.2)) n=if n∈keys then none else Ab aB n:=by
  intro n;rw[FJ,J1];split
  ·rfl
  ·cases Ab aB n<;>rfl
 have hinj:∀k∈mb'.map (·.1),∀j∈mb'.map (·.1),Bx keys [] d k=Bx keys [] d j->k=j:=by
  intro k hk j hj e;rw[hbk k hk,hbk j hj]at e;have e':=congrArg (pos keys) e;rw[Iw hkd (hin k hk).2,Iw hkd (hin j hj).2]at e';have:=hin k hk;have:=hin j hj;omega
 rw[ZU];obtain ⟨v1, v2⟩ := Tu (rk := Bx keys [] d) (g := fun b : Box => (⟨b.ty, b.cells.map (AC.ren (Bx keys [] d) bi)⟩ : Box)) (m := mb') (l := (Dx keys aB).map fun p => (p.1, Dj [] p.2)) h3 hinj (fun k hk => by
  rw[hdel,hbk k hk,if_pos (E5 (hin k hk).2)])
 by_cases hk:k∈keys
 ·obtain⟨hp,hn⟩:=DV hk;obtain⟨b,hb⟩:=hall _ hp;have e1:=u1 _ b hb;have e2:=v1 _ b hb;rw[hbk _ (Ma.2 ⟨b,hb⟩)]at e2;rw[show base+pos keys k-base=pos keys k from by omega,hn]at e1 e2;rw[e1,e2];have:=h4 _ (NH hb);rw[PU this]
 ·rw[u2 k (fun j hj e=>hk (by rw[e];exact E5 (hin j hj).2)),v2 k (fun j hj e=>hk (by rw[e,hbk j hj];exact E5 (hin j hj).2)),hdel,if_neg hk]
theorem Z7c (hspec:Ai P C) (hR:RelE Z tm aB aC ρ tmps w) {o:Oper} {a:Act} {f:FuncId} {args:List TV} {xs:List Value} (h1:xs.length=args.length)
  (h2:∀(i:Nat) (a:TV) (x:Value),args[i]? =some a->xs[i]? =some x->TVR ρ w a x) (h3:execOp a.eval o=callFunc f xs.toArray) (hwf:∀v∈args,TV.wf aB aC v) {K:TV->St->Option R} {r:R}
  (h:A1 C o.dst (.callD f args) ⟨tm,aB,aC⟩ K=some r) {next:Act->World->Prop} {Q:Exit->Act->World->Prop}
  (hnext:∀(v:TV) (tm':List TV) (boxes':List (Nat×Box)) (rows':List (Nat×Row)) (ρ':Env) (x:Value) (w':World),K v ⟨tm',boxes',rows'⟩=some r->RelE Z tm' boxes' rows' ρ' tmps w'->TVR ρ' w' v x->TV.wf boxes' rows' v->next (a.put o.dst x) w'):
  o.wp P a w next Q:=by
 simp only[A1]at h;split at h
 ·rename_i g hg;have hsp:=hspec.1 f g hg;simp only[A4]at h;generalize hk:AZ (cat AC.keys (cat TV.cellsOf args)) []=keys at h;clear hk;cases hc:(Ak (TV.inK keys []) args&&Ak (fun k=>Ak AC.calm (Eh aB k)) keys&&Bz keys)<;>rw[hc]at h
  ·simp at h
  ·simp only[cond_true]at h;simp only[Bool.and_eq_true]at hc;obtain⟨⟨c1,c2⟩,c3⟩:=hc;have c2':Ak (fun k=>Ak (AC.inK keys []) (Eh aB k)) keys=true:=by
    rw[Ax]at c2⊢;intro k hk;have:=c2 k hk;rw[Ax]at this⊢;intro b hb;have:=this b hb;cases b<;>simp[AC.calm]at this<;>rfl
   split at h
   ·rename_i mb hmb;have hkd:=Iu.1 c3;obtain⟨v,⟨mb',mr'⟩,hv,hpc⟩:=hsp.run h;have hent:=Qnh hR h1 h2 hwf hkd List.nodup_nil (fun v hv=>Ax.1 c1 v hv) (fun k hk=>Ax.1 c2' k hk) hmb (show F8 aC base []=some []from rfl);refine RT h3 ((hpc _ w _ xs hent).mono ?_);rintro e w' ⟨x,ρ2,he,hR2⟩;cases mr' with
    |cons _ _=>simp at hv
    |nil=>
     dsimp only at hv;cases hc2:(Ak (fun p:Nat×Box=>DK mb' p.1) mb&&Ak (fun p:Nat×Box=>DK mb p.1) mb'&&Bz (mb'.map (·.1))&&Ak (fun p:Nat×Box=>Ak AC.calm p.2.cells) mb'&&v.plainB)<;>rw[hc2]at hv
     ·simp at hv
     ·simp only[cond_true]at hv;simp only[Bool.and_eq_true]at hc2;obtain⟨⟨⟨⟨d1,d2⟩,d3⟩,d4⟩,d5⟩:=hc2;have hfr:Bd keys mb'=[]:=by
       apply List.eq_nil_iff_forall_not_mem.2;intro k hk;obtain⟨q1,q2⟩:=Jp.1 hk;simp only[List.mem_map]at q1;obtain⟨p,hp,rfl⟩:=q1;obtain⟨b,hb⟩:=SQ (Ax.1 d2 p hp);obtain⟨i,hi,e⟩:=(KQ hmb).2 _ _ hb;exact q2 (by omega)
      obtain⟨e1,e2,e3⟩:=Qds hR hkd List.nodup_nil hmb (show F8 aC base []=some []from rfl) hR2 (d:=o.dst.getD 0) (Iu.1 d3) List.nodup_nil (fun k hk=>by rw[hfr]at hk;simp at hk) (fun k hk=>by simp[Bd]at hk);rw[hfr]at e1 e2 e3;have hlk:=Zjf hkd hmb (Ax.1 d1) (Ax.1 d2) (Iu.1 d3) (Ax.1 d4) (Bx [] (Bd [] ([]:List (Nat×Row))) (o.dst.getD 0)) (o.dst.getD 0);have e1':=e1.cong hlk;have htm:tm.map (HD [])=tm:=by
       conv=>rhs;rw[<-List.map_id tm]
       rfl
      rw[htm]at e1';rw[Qg2 d5]at e2;exact⟨x,he,hnext _ _ _ _ _ x w' hv e1' e2 (JJ d5)⟩
   ·simp at h
 ·simp at h
theorem Zpi {keys ids:List Nat} {v:TV} (h:v.plainB=true):TV.inK keys ids v=true:=by
 cases v with
 |dead=>rfl
 |v g cs=>
  simp only[TV.plainB,TV.inK]at h⊢;rw[Ax]at h⊢;intro a ha;have:=h a ha;cases a<;>simp[AC.plain]at this<;>rfl
 |tup ps=>
  simp only[TV.plainB,TV.inK]at h⊢;rw[Ax]at h⊢;intro p hp;have:=h p hp;rw[Ax]at this⊢;intro a ha;have:=this a ha;cases a<;>simp[AC.plain]at this<;>rfl
theorem Q8g {rk ri:Nat->Nat}:∀{args:List TV},Ak TV.plainB args=true->args.map (TV.ren rk ri)=args
 |[],_=>rfl
 |a::l,h=>by
  simp only[Ak]at h;obtain⟨h1,h2⟩:=cond_none' h;simp only[List.map_cons];rw[Qg2 h1,Q8g h2]
 where cond_none' {c p:Bool} (h:cond c p false=true):c=true/\p=true:=by cases c<;>simp at h;exact⟨rfl,h⟩
theorem Qt6 (x:Nat):x.blt 0=false:=rfl
theorem Zvh (j:Nat) (r:Row):Bd [] [(j,r)]=[j]:=by
 have hblt:(base.ble j&&(j-base).blt 0)=false:=by
  rw[Qt6,Bool.and_false]
 unfold Bd;simp only[List.length_nil,hblt,cond_false];rfl
theorem Z6x (j d:Nat):Bx [] [j] d j=HH d:=by
 have hblt:(base.ble j&&(j-base).blt 0)=false:=by
  rw[Qt6,Bool.and_false]
 unfold Bx HH;simp only[List.length_nil,hblt,cond_false,pos,Nat.beq_refl,cond_true,Nat.add_zero]
theorem Zqs (hspec:Ai P C) (hR:RelE Z tm aB aC ρ tmps w) {o:Oper} {a:Act} {f:FuncId} {args:List TV} {xs:List Value} (h1:xs.length=args.length)
  (h2:∀(i:Nat) (a:TV) (x:Value),args[i]? =some a->xs[i]? =some x->TVR ρ w a x) (h3:execOp a.eval o=callFunc f xs.toArray) (hwf:∀v∈args,TV.wf aB aC v) {K:TV->St->Option R} {r:R}
  (h:A1 C o.dst (.callF f args) ⟨tm,aB,aC⟩ K=some r) {next:Act->World->Prop} {Q:Exit->Act->World->Prop}
  (hnext:∀(v:TV) (tm':List TV) (boxes':List (Nat×Box)) (rows':List (Nat×Row)) (ρ':Env) (x:Value) (w':World),K v ⟨tm',boxes',rows'⟩=some r->RelE Z tm' boxes' rows' ρ' tmps w'->TVR ρ' w' v x->TV.wf boxes' rows' v->next (a.put o.dst x) w'):
  o.wp P a w next Q:=by
 simp only[A1]at h;split at h
 ·rename_i g hg;have hsp:=hspec.1 f g hg;cases hpl:Ak TV.plainB args<;>rw[hpl]at h
  ·simp at h
  simp only[cond_true]at h;obtain⟨v,⟨mb',mr'⟩,hv,hpc⟩:=hsp.run h;have hent:=Qnh hR h1 h2 hwf List.nodup_nil List.nodup_nil (keys:=[]) (ids:=[]) (fun v hv=>Zpi (Ax.1 hpl v hv)) (fun k hk=>by simp at hk) (show Di aB _ _ base []=some []from rfl) (show F8 aC base []=some []from rfl);rw[Q8g hpl]at hent;refine RT h3 ((hpc _ w _ xs hent).mono ?_);rintro e w' ⟨x,ρ2,he,hR2⟩;have htm:tm.map (HD [])=tm:=by
   conv=>rhs;rw[<-List.map_id tm]
   rfl
  have hbx:(Dx [] aB).map (fun p=>(p.1,Dj [] p.2))=aB:=by
   conv=>rhs;rw[<-List.map_id aB]
   rfl
  cases mb' with
  |cons _ _=>simp at hv
  |nil=>
  have hlv:(mr'.map (·.1)).Nodup->(∀k∈Bd [] mr',Ab aC (Bx [] (Bd [] mr') (o.dst.getD 0) k)=none)->_:=fun d1 d2=>
   Qds hR List.nodup_nil List.nodup_nil (show Di aB _ _ base []=some []from rfl) (show F8 aC base []=some []from rfl) hR2 (d:=o.dst.getD 0) (by simp) d1 (fun k hk=>by simp[Bd]at hk) d2
  cases mr' with
  |nil=>
   dsimp only at hv;cases hvp:v.plainB<;>rw[hvp]at hv
   ·simp at hv
   simp only[cond_true]at hv;obtain⟨e1,e2,e3⟩:=hlv (by simp) (fun k hk=>by simp[Bd]at hk);rw[htm,hbx]at e1;rw[Qg2 hvp]at e2;exact⟨x,he,hnext _ _ _ _ _ x w' hv e1 e2 (JJ hvp)⟩
  |cons p l=>
   obtain⟨k,rw0⟩:=p;cases l with
   |cons _ _=>simp at hv
   |nil=>
    dsimp only at hv;split at hv
    ·rename_i j w0 n0;cases hjk:Nat.beq j k<;>rw[hjk]at hv
     ·simp at hv
     simp only[cond_true]at hv;have hjk:=Nat.eq_of_beq_eq_true hjk;subst hjk;split at hv
     ·simp at hv
     rename_i hnone;simp only[A4]at hv;have hf:=Zvh j rw0;have hb:=Z6x j (o.dst.getD 0);obtain ⟨e1, e2, e3⟩ := hlv (by simp) (fun k hk => by
      rw[hf]at hk⊢;simp at hk;subst hk;rw[hb];exact hnone)
     rw[htm,hbx]at e1;rw[hbx]at e3;have hwv:=hR2.wt (.v false [.own j w0 n0]) (by simp) (.own j w0 n0) (by simp);obtain⟨r1,hr1,hn1,hw1⟩:=hwv;simp only[Ab,Nat.beq_refl,cond_true,Option.some.injEq]at hr1;subst hr1;have hren:TV.ren (Bx [] (Bd ([]:List Nat) ([]:List (Nat×Box))) (o.dst.getD 0)) (Bx [] (Bd [] [(j,rw0)]) (o.dst.getD 0)) (.v false [.own j w0 n0])= .c (.own (HH (o.dst.getD 0)) rw0.ks.length rw0.l.length):=by
      simp only[TV.ren,List.map_cons,List.map_nil,AC.ren,hf,hb];rw[<-hw1,<-hn1]
     have hins:Ko (Bx [] (Bd [] [(j,rw0)]) (o.dst.getD 0)) [(j,rw0)] (Dx [] aC)=ins aC (HH (o.dst.getD 0)) rw0:=by
      simp only[Ko,hf,hb,Dx]
     have e1':=e1;rw[hins]at e1';have e2':=e2;rw[hren]at e2';have e3':=e3;rw[hren,hins]at e3';exact⟨x,he,hnext _ _ _ _ _ x w' hv e1' e2' e3'⟩
    ·simp at hv
 ·simp at h
end
end Go.Bm
namespace Go.Bm
open Go.RowKit
section
variable {P:Program} {C:Cfg} {ρ:Env} {w:World} {R:Type} {Z:Base} {tm:List TV} {aB:List (Nat×Box)} {aC:List (Nat×Row)} {tmps:Array Value}
theorem Zz5 {g:Bool} {sz off:Nat} {cells:List AC} {v:TV} (hv:Dm g sz cells off=some v) (hb:∀a∈cells,AC.wf aB aC a):TV.wf aB aC v:=by
 unfold Dm at hv;cases g
 ·simp only[cond_false]at hv;split at hv
  ·rename_i c hc;simp at hv;subst hv;intro c' hc';simp at hc';subst hc';exact hb _ (List.mem_of_getElem? hc)
  ·simp at hv
 ·simp only[cond_true]at hv;cases hbb:Nat.ble (off+sz) cells.length<;>rw[hbb]at hv
  ·simp at hv
  ·simp at hv;subst hv;intro c hc;exact hb c (List.mem_of_mem_drop (List.mem_of_mem_take hc))
theorem Zi4 {a a':TV} (hno:a.hasOwn=false) (hr:a.res aC=some a'):a=a':=by
 have hl:∀(cs cs':List AC),cs.any AC.isOwn=false->EU aC cs=some cs'->cs=cs':=by
  intro cs;induction cs with
  |nil=>intro cs' _ h;simp[EU]at h;rw[h]
  |cons b cs ih=>
   intro cs' hno h;simp only[List.any_cons,Bool.or_eq_false_iff]at hno;simp only[EU]at h;split at h
   ·rename_i b' hb';split at h
    ·rename_i l' hl';simp at h;subst h;rw[ih _ hno.2 hl'];have h1:=hno.1;cases b<;>simp only[AC.res]at hb'<;>first|(simp at hb';done)|(simp[AC.isOwn]at h1;done)|(simp at hb';subst hb';rfl)
    ·simp at h
   ·simp at h
 cases a with
 |dead=>simp[TV.res]at hr
 |tup=>simp[TV.res]at hr
 |v g cs=>
  simp only[TV.res]at hr;split at hr
  ·rename_i l h;simp at hr;subst hr;rw[hl _ _ hno h]
  ·simp at hr
theorem Zuc {t e:TypeId} {i:TypeInfo} {z:Value} (ht:P.underlying t=some (.slice e)) (hi:P.info? e=some i) (hz:i.zero=some z) {kl kc:IntKind} {n:Nat} (hb:n*i.bytes<=140737488355328) (hn:n<=140737488355328):
  ∃(w':World) (arr:Array Value),(Instr.makeSlice t (.int kl (n:Int)) (.int kc (n:Int))).run P w= .ok (.slice (some ⟨w.heap.size,0,none⟩) n n) w'/\w'=w.alloc (.cells arr e)/\
   arr.toList=(List.range (n*i.size)).map fun j=>z.cells[j%z.cells.size]! :=by
 have e1:((n*i.bytes:Nat):Int)=(n:Int)*(i.bytes:Int):=Int.natCast_mul _ _;have e2:(i.bytes:Int)*(n:Int)<=281474976710656:=by rw[Int.mul_comm];omega
 have h:=run_make w t e i z ht hi hz kl kc (n:Int) (n:Int) (by omega) (Int.le_refl _) e2 (by omega);rw[Int.toNat_natCast]at h;exact⟨_,madeCells z.cells (n*i.size),h,rfl,by simp[madeCells]⟩
theorem VC (hspec:Ai P C) (hR:RelE Z tm aB aC ρ tmps w) {o:Oper} {a:Act} {p:Prim} (hp:IJ P ρ w a.eval o p) (hwf:Prim.wf aB aC p) (hna:Prim.isApp (some p)=false) {K:TV->St->Option R} {r:R}
  (h:A1 C o.dst p ⟨tm,aB,aC⟩ K=some r) {next:Act->World->Prop} {Q:Exit->Act->World->Prop}
  (hnext:∀(v:TV) (tm':List TV) (boxes':List (Nat×Box)) (rows':List (Nat×Row)) (ρ':Env) (x:Value) (w':World),K v ⟨tm',boxes',rows'⟩=some r->RelE Z tm' boxes' rows' ρ' tmps w'->TVR ρ' w' v x->TV.wf boxes' rows' v->next (a.put o.dst x) w'):
  o.wp P a w next Q:=by
 cases p with
 |val v=>
  obtain⟨x,h1,h2⟩:=hp;exact Hi h1 (hnext v _ _ _ ρ x w h hR h2 hwf)
 |load g sz key off=>
  obtain⟨t,h1,h2,h3⟩:=hp;simp only[A1]at h;split at h
  ·rename_i b hk;split at h
   ·rename_i v hv;obtain⟨arr,q1,q2,q3⟩:=hR.bx key b hk;obtain ⟨x, q4, q5⟩ := TG (b := ρ.bx key) (o := 0) h1 h2 hv q2 (fun j y hj => by
     simp only[Nat.zero_add];rw[cell_of_row w _ j arr b.ty (0,0) q1];simpa using hj)
    rw[Nat.zero_add]at q4;rw[q4]at h3;refine Hi h3 (hnext v _ _ _ ρ x w h hR q5 ?_);have hb:=hR.wb key b hk;unfold Dm at hv;cases g
    ·simp only[cond_false]at hv;split at hv
     ·rename_i c hc;simp at hv;subst hv;intro c' hc';simp at hc';subst hc';exact hb _ (List.mem_of_getElem? hc)
     ·simp at hv
    ·simp only[cond_true]at hv;cases hbb:Nat.ble (off+sz) b.cells.length<;>rw[hbb]at hv
     ·simp at hv
     ·simp at hv;subst hv;intro c hc;exact hb c (List.mem_of_mem_drop (List.mem_of_mem_take hc))
   ·simp at h
  ·simp at h
 |store key off cs=>
  obtain⟨t,x,h1,h2,h3⟩:=hp;simp only[A1]at h;split at h
  ·rename_i b hk;cases hb:Nat.ble (off+cs.length) b.cells.length<;>rw[hb]at h
   ·simp at h
   ·simp only[cond_true,A4]at h;have hle:=Nat.le_of_ble_eq_true hb;obtain⟨arr,q1,q2,q3⟩:=hR.bx key b hk;have hlen:=h2.length;rw[hlen]at h1 hle;have q4:=Q8f h1 q1 (by rw[<-Array.length_toList,<-q2.length];exact hle) h2.one;rw[q4]at h3;refine Qs5 h3 (hnext .dead _ _ _ ρ undef _ h (hR.store hk ?_ ?_) trivial trivial)
    ·intro c hc;rw[FF _ _ _ (by rw[hlen];exact hle)]at hc;simp only[List.mem_append]at hc;rcases hc with(hc|hc)|hc
     ·exact hR.wb key b hk c (List.mem_of_mem_take hc)
     ·exact hwf.2 c hc
     ·exact hR.wb key b hk c (List.mem_of_mem_drop hc)
    ·exact q2.splice off h2
  ·simp at h
 |new ty cs=>
  obtain⟨arr,h1,h2⟩:=hp;simp only[A1]at h;split at h
  ·rename_i d hd;split at h
   ·simp at h
   ·rename_i hn;simp only[A4]at h;refine Hi h2 (hnext _ _ _ _ _ _ _ h (hR.new hn hwf h1) ?_ ?_)
    ·refine TVR.c' ?_;simp only[CC,BA]
    ·intro c hc;simp at hc;subst hc;exact⟨_,Eo _ _ _ hn⟩
  ·simp at h
 |newS ty n cs=>
  obtain⟨arr,h1,h2⟩:=hp;simp only[A1]at h;split at h
  ·rename_i d hd;split at h
   ·simp at h
   ·rename_i hn;simp only[A4]at h;refine Hi h2 (hnext _ _ _ _ _ _ _ h (hR.new hn hwf h1) ?_ ?_)
    ·refine TVR.c' ?_;simp only[CC,BA]
    ·intro c hc;simp at hc;subst hc;exact⟨_,Eo _ _ _ hn⟩
  ·simp at h
 |rload g sz id idx sub=>
  obtain⟨t,b,h1,h2,hb,h3⟩:=hp;obtain⟨r0,hr0,hlt⟩:=hwf;simp only[A1,hr0]at h;split at h
  ·rename_i v hv;obtain⟨q1,q2,_,xs,q3,q4⟩:=hR.ro id r0 hr0;have hget:r0.l[idx]? =some r0.l[idx]:=List.getElem?_eq_getElem hlt;have hcl:=q4.2.2 idx _ hget;have hf:r0.f idx=r0.l[idx]:=by
    show AO r0.ks (nth [] r0.l idx)=_;rw[BR,List.getD,hget];exact q4.2.1 _ (List.getElem_mem hlt)
   have hrd:Q8 w b (HO (ρ.rv id)+idx*r0.w) (cut xs (idx*r0.w) r0.w):=by
    intro j y hj;simp only[cut,List.getElem?_take]at hj;split at hj
    ·rw[List.getElem?_drop]at hj;have:=Pg q3 hb (idx*r0.w+j) y hj;rw[<-Nat.add_assoc]at this;exact this
    ·simp at hj
   rw[hf]at hv;obtain⟨x,q5,q6⟩:=TG (b:=b) (o:=HO (ρ.rv id)+idx*r0.w) (ρ:=ρ) h1 h2 hv (hcl.mono fun _ _ _ hh=>IW hh) hrd;rw[<-q2,Nat.add_assoc]at q5;rw[q5]at h3;exact Hi h3 (hnext v _ _ _ ρ x w h hR q6 (Zz5 hv (Zmz hcl)))
  ·simp at h
 |rstore id idx sub cs=>
  obtain⟨t,x,b,h1,h2,hb,h3⟩:=hp;obtain⟨r0,hr0,hlt⟩:=hwf;simp only[A1,hr0]at h;cases hc:(Nat.ble (sub+cs.length) r0.w&&Ak AC.plain cs)<;>rw[hc]at h
  ·simp at h
  ·simp only[cond_true]at h;split at h
   ·rename_i c hfit;simp only[A4]at h;simp only[Bool.and_eq_true]at hc;have hle:=Nat.le_of_ble_eq_true hc.1;obtain⟨q1,q2,_,xs,q3,q4⟩:=hR.ro id r0 hr0;have hget:r0.l[idx]? =some r0.l[idx]:=List.getElem?_eq_getElem hlt;have hf:r0.f idx=r0.l[idx]:=by
     show AO r0.ks (nth [] r0.l idx)=_;rw[BR,List.getD,hget];exact q4.2.1 _ (List.getElem_mem hlt)
    rw[hf]at hfit;rcases q3.2 with⟨e1,e2⟩|⟨g',oo,cap,cur,e1,e3,e4,e5,e6,e7⟩
    ·have:idx<r0.n:=hlt;omega
    ·have hbg:b=g':=by rw[e1]at hb;simp[Value.ownBlock]at hb;exact hb.symm
     subst hbg;have hlen:=h2.length;have hxs:=q4.1;have hbound:idx*r0.w+sub+cs.length<=r0.n*r0.w:=by
      have:idx*r0.w+r0.w<=r0.n*r0.w:=by
       calc idx*r0.w+r0.w=(idx+1)*r0.w:=by rw[Nat.add_mul,Nat.one_mul]
        _<=r0.n*r0.w:=Nat.mul_le_mul_right _ hlt
      omega
     have hcapb:r0.n*r0.w<=cap*r0.w:=Nat.mul_le_mul_right _ e4;rw[q2]at h3;rw[hlen]at h1 hle hbound;have hoff:HO (ρ.rv id)=oo:=by rw[e1];rfl
     rw[hoff]at h3;have q5:=Q8f (off:=oo+(idx*r0.w+sub)) h1 e3 (by omega) h2.one;rw[q5]at h3;have hcurlen:oo+cap*r0.w<=cur.toList.length:=by rw[Array.length_toList];exact e6
     have hsd:(splice cur.toList (oo+(idx*r0.w+sub)) x.cells.toList).drop oo=splice (cur.toList.drop oo) (idx*r0.w+sub) x.cells.toList:=by
      rw[FF _ _ _ (by omega),FF _ _ _ (by rw[List.length_drop];omega),List.append_assoc,List.drop_append_of_le_length (by rw[List.length_take];omega),List.drop_take,show oo+(idx*r0.w+sub)-oo=idx*r0.w+sub from by omega,List.drop_drop,List.append_assoc];congr 2;rw[Nat.add_assoc]
     have htk:((splice cur.toList (oo+(idx*r0.w+sub)) x.cells.toList).drop oo).take (r0.n*r0.w)=splice xs (idx*r0.w+sub) x.cells.toList:=by
      rw[hsd];have hLl:cap*r0.w<=(cur.toList.drop oo).length:=by rw[List.length_drop];omega
      generalize cur.toList.drop oo=L at e7 hLl⊢;rw[FF _ _ _ (by omega),FF _ _ _ (by rw[hxs];exact hbound),<-e7];apply List.ext_getElem?;intro j;simp only[List.getElem?_take,List.getElem?_append,List.length_take,List.length_append,List.getElem?_drop];by_cases hj:j<r0.n*r0.w
      ·rw[if_pos hj];by_cases j1:j<idx*r0.w+sub
       ·rw[if_pos (by omega),if_pos (by omega),if_pos (by omega),if_pos (by omega),if_pos (by omega),if_pos (by omega),if_pos hj]
       ·by_cases j2:j<idx*r0.w+sub+x.cells.toList.length
        ·rw[if_pos (by omega),if_neg (by omega),if_pos (by omega),if_neg (by omega)];congr 1;omega
        ·rw[if_neg (by omega),if_neg (by omega),if_pos (by omega)];congr 1;omega
      ·rw[if_neg hj,if_neg (by omega),if_neg (by omega)]
     have hng: ¬ρ.im b:=fun hi=>(hR.ib b hi).2.2 id r0 hr0 hb;have hold:∀k,k≠b->(w.setRow b (splice cur.toList (oo+(idx*r0.w+sub)) x.cells.toList).toArray).heap[k]? =w.heap[k]? :=fun k hk=>setRow_other w b k _ hk;have hmono:∀(a:AC) (y:Value),CP ρ.im w a y->CP ρ.im (w.setRow b (splice cur.toList (oo+(idx*r0.w+sub)) x.cells.toList).toArray) a y:=fun a y hh=>CP.mono (fun _ h=>h) (fun k hk=>hold k (fun e=>hng (e▸hk))) a y hh;have hnew:CL (CP ρ.im w) c (splice (cut xs (idx*r0.w) r0.w) sub x.cells.toList)/\AO r0.ks c=c:=
      Ub hfit (((q4.2.2 idx _ hget).mono fun _ _ _ hh=>IW hh).splice sub h2)
     have hturn:=hR.turnRow (id:=id) hr0 (r':=⟨r0.ty,r0.ks,r0.l.set idx c⟩) (v':=ρ.rv id)
      (xs:=splice xs (idx*r0.w+sub) x.cells.toList) (w':=w.setRow b (splice cur.toList (oo+(idx*r0.w+sub)) x.cells.toList).toArray)
      ⟨rfl,rfl,rfl,by simp,fun k _ hk=>hold k (fun e=>hk (by rw[e,hb]))⟩ rfl
      ⟨by simp only[Row.n,Row.w,List.length_set];rw[LM];exact hxs, .inr ⟨b,oo,cap,_,by simp only[Row.n,List.length_set];exact e1,setRow_heap w b cur _ r0.ty _ e3,by simp only[Row.n,List.length_set];exact e4,e5,by simp only[List.size_toArray];rw[LM];exact hcurlen,by simp only[Row.n,List.length_set];exact htk⟩⟩
      ⟨by simp only[List.length_set];rw[LM];exact hxs,fun c' hc'=>by
       rcases List.mem_or_eq_of_mem_set hc' with hc'|rfl
       ·exact q4.2.1 c' hc'
       ·exact hnew.2,fun i c' hi=>by
       simp only[List.getElem?_set]at hi;by_cases hii:idx=i
       ·subst hii;rw[if_pos rfl,if_pos hlt]at hi;simp at hi;subst hi;have e:=Zxx xs x.cells.toList idx r0.w sub r0.n hlt hxs (by omega);show CL _ c (cut _ (idx*r0.w) r0.w);rw[e];exact hnew.1.mono fun a _ y hh=>hmono a y hh
       ·rw[if_neg hii]at hi;have hin:i<r0.n:=(List.getElem?_eq_some_iff.1 hi).1;have e:=Zij xs x.cells.toList idx i r0.w sub r0.n hlt (fun e=>hii e.symm) hxs (by omega);show CL _ c' (cut _ (i*r0.w) r0.w);rw[e];exact(q4.2.2 i c' hi).mono fun a _ y hh=>hmono a y hh⟩
      (.inl rfl) (.inl ⟨rfl,by simp[Row.n]⟩)
     exact Qs5 h3 (hnext .dead _ _ _ _ undef _ h hturn trivial trivial)
   ·simp at h
 |newRow el ks l=>
  obtain⟨arr,h1,h2,h3,h4⟩:=hp;simp only[A1]at h;split at h
  ·rename_i d hd;split at h
   ·simp at h
   ·rename_i hn;simp only[A4]at h;have hb:Below w.heap.size w (w.alloc (.cells arr el)):=(Below.refl _ _).alloc (Nat.le_refl _) _;have hrow:RowC ρ.im (w.alloc (.cells arr el)) ks l arr.toList:=h3.mono (fun _ h=>h) (fun b hb'=>Below.heap_alloc w _ b (hR.ib b hb').1);have hadd:=hR.addRow (d:=C.rowAs d) hn (r:=⟨el,ks,l⟩) (v':= .slice (some ⟨w.heap.size,0,none⟩) l.length l.length) (xs:=arr.toList) (w':=w.alloc (.cells arr el)) hb h1
     ⟨h3.1, .inr ⟨w.heap.size,0,l.length,arr,rfl,heap_alloc_new w _,Nat.le_refl _,h2,by rw[<-Array.length_toList,Nat.zero_add];exact Nat.le_of_eq h3.1.symm,by
      show List.take (l.length*ks.length) _=_;rw[<-h3.1,List.drop_zero,List.take_length]⟩⟩ hrow
     (fun g hg=>by simp[Value.ownBlock]at hg;omega)
    refine Hi h4 (hnext _ _ _ _ _ _ _ h hadd ?_ ?_)
    ·exact TVR.c' ⟨by simp only[BA],by simp only[BA], .inr ⟨_,_,_,rfl⟩⟩
    ·intro c hc;simp at hc;subst hc;exact⟨_,Eo _ _ _ hn,rfl,rfl⟩
  ·simp at h
 |newView el ks l=>
  obtain⟨arr,h1,h2,h3,h4⟩:=hp;simp only[A1]at h;have hb:Below w.heap.size w (w.alloc (.cells arr el)):=(Below.refl _ _).alloc (Nat.le_refl _) _;have hrow:RowC ρ.im (w.alloc (.cells arr el)) ks l arr.toList:=h3.mono (fun _ h=>h) (fun b hb'=>Below.heap_alloc w _ b (hR.ib b hb').1);have hg:=hR.growIm (im':=fun b=>ρ.im b\/b=w.heap.size) hb (fun b h=> .inl h) (fun b h=>h.imp id fun e=>by subst e;exact⟨Nat.le_refl _,Nl (heap_alloc_new w _)⟩);refine Hi h4 (hnext _ _ _ _ _ _ _ h hg ?_ ?_)
  ·refine TVR.c' ?_;have hown:D8 (w.alloc (.cells arr el)) el ks.length (.slice (some ⟨w.heap.size,0,none⟩) l.length l.length) l.length arr.toList:=
    ⟨h3.1, .inr ⟨w.heap.size,0,l.length,arr,rfl,heap_alloc_new w _,Nat.le_refl _,h2,by rw[<-Array.length_toList,Nat.zero_add];exact Nat.le_of_eq h3.1.symm,by rw[List.drop_zero,<-h3.1,List.take_length]⟩⟩
   exact IW (Qcv hown (hrow.mono (fun _ h=> .inl h) (fun _ _=>rfl)) (fun g hg=> .inr (by simp[Value.ownBlock]at hg;exact hg.symm)))
  ·intro c hc;simp at hc;subst hc;trivial
 |make el ks bytes n z=>
  obtain⟨t,i,zv,kl,kc,h1,h2,h3,h4,h5,h6,h7,h8,h9,h10⟩:=hp;subst h5;simp only[A1]at h;split at h
  ·rename_i d hd;split at h
   ·simp at h
   ·rename_i hn;cases hc:(decide (0<=n)&&decide (n*(i.bytes:Int)<=140737488355328))<;>rw[hc]at h
    ·simp at h
    ·simp only[cond_true,A4]at h;simp only[Bool.and_eq_true,decide_eq_true_eq]at hc;have hn0:((n.toNat:Nat):Int)=n:=Int.toNat_of_nonneg hc.1;have hzl:zv.cells.toList.length=ks.length:=by
      rw[<-h9.length,<-h8];exact QW _ _
     have hb1:n.toNat*i.bytes<=140737488355328:=by
      have h2:=hc.2;rw[<-hn0]at h2;have e1:((n.toNat*i.bytes:Nat):Int)=(n.toNat:Int)*(i.bytes:Int):=Int.natCast_mul _ _;omega
     have hnm:n.toNat<=n.toNat*i.bytes:=Nat.le_mul_of_pos_right _ h7;obtain⟨w',arr,p1,p2,p3⟩:=Zuc (P:=P) (w:=w) (t:=t) (e:=el) (i:=i) (z:=zv) h1 h2 h3 (kl:=kl) (kc:=kc) (n:=n.toNat) hb1 (by omega);rw[hn0]at p1;rw[p1]at h10;subst p2;have hsz:zv.cells.size=ks.length:=by rw[<-Array.length_toList];exact hzl
     have hal:arr.toList.length=n.toNat*ks.length:=by rw[p3,h4,hsz];simp[hsz]
     have hcut:∀j,j<n.toNat->cut arr.toList (j*ks.length) ks.length=zv.cells.toList:=by
      intro j hj;have hle:j*ks.length+ks.length<=n.toNat*ks.length:=by
       calc j*ks.length+ks.length=(j+1)*ks.length:=by rw[Nat.add_mul,Nat.one_mul]
        _<=n.toNat*ks.length:=Nat.mul_le_mul_right _ hj
      apply List.ext_getElem?;intro q;simp only[cut,List.getElem?_take,List.getElem?_drop];by_cases hq:q<ks.length
      ·rw[if_pos hq,p3,h4,hsz];rw[List.getElem?_map,List.getElem?_range (by omega)];simp only[Option.map_some];rw[show(j*ks.length+q)%ks.length=q from by rw[Nat.mul_comm,Nat.mul_add_mod];exact Nat.mod_eq_of_lt hq];have:q<zv.cells.size:=by rw[hsz];exact hq
       rw[getElem!_pos zv.cells q this,Array.getElem?_toList,Array.getElem?_eq_getElem this]
      ·rw[if_neg hq,List.getElem?_eq_none (by rw[hzl];omega)]
     have hb:Below w.heap.size w (w.alloc (.cells arr el)):=(Below.refl _ _).alloc (Nat.le_refl _) _;have hrow0:RowC ρ.im w ks (List.replicate n.toNat z) arr.toList:=by
      refine⟨by rw[hal];simp,fun c hc=> ?_,fun j c hj=> ?_⟩
      ·rw[List.mem_replicate]at hc;rw[hc.2];exact h8
      ·rw[List.getElem?_replicate]at hj;split at hj
       ·rename_i hjl;simp at hj;subst hj;rw[hcut j hjl];exact h9
       ·simp at hj
     have hrow:RowC ρ.im (w.alloc (.cells arr el)) ks (List.replicate n.toNat z) arr.toList:=hrow0.mono (fun _ h=>h) (fun b hb'=>Below.heap_alloc w _ b (hR.ib b hb').1);have hlr:(List.replicate n.toNat z).length=n.toNat:=by simp
     have hadd:=hR.addRow (d:=d) hn (r:=⟨el,ks,List.replicate n.toNat z⟩) (v':= .slice (some ⟨w.heap.size,0,none⟩) n.toNat n.toNat) (xs:=arr.toList) (w':=w.alloc (.cells arr el)) hb h6
      ⟨by simp only[Row.n,Row.w,hlr];exact hal, .inr ⟨w.heap.size,0,n.toNat,arr,by simp only[Row.n,hlr],heap_alloc_new w _,by simp only[Row.n,hlr];exact Nat.le_refl _,by simp only[maxLen];omega,by rw[<-Array.length_toList,Nat.zero_add];exact Nat.le_of_eq hal.symm,by
       simp only[Row.n,hlr];show List.take (n.toNat*ks.length) _=_;rw[<-hal,List.drop_zero,List.take_length]⟩⟩ hrow
      (fun g hg=>by simp[Value.ownBlock]at hg;omega)
     refine Hi h10 (hnext _ _ _ _ _ _ _ h hadd ?_ ?_)
     ·exact TVR.c' ⟨by simp only[BA],by simp only[BA], .inr ⟨_,_,_,by rw[hlr]⟩⟩
     ·intro c hc;simp at hc;subst hc;exact⟨_,Eo _ _ _ hn,by simp[Row.n],rfl⟩
  ·simp at h
 |cutR id a=>
  simp only[A1]at h;split at h
  ·rename_i r0 hr0;have hle:Nat.ble a r0.l.length=true:=by
    cases hb:Nat.ble a r0.l.length
    ·rw[hb]at h;simp at h
    ·rfl
   rw[hle]at h;simp only[cond_true]at h;have hle:a<=r0.n:=Nat.le_of_ble_eq_true hle;simp only[A4]at h;obtain⟨q1,q2,_,xs,q3,q4⟩:=hR.ro id r0 hr0;have hlen:(r0.l.drop a).length=r0.n-a:=by simp[Row.n]
   have key : ∃ ad cap, ρ.rv id = .slice ad r0.n cap /\ r0.n <= cap /\ (let v' : Value := .slice (if cap = a then ad else ad.map (·.add (a * ρ.wd id))) (r0.n - a) (cap - a)
     v'.ownBlock=(ρ.rv id).ownBlock/\D8 w r0.ty r0.w v' (r0.n-a) (xs.drop (a*r0.w))/\((v'= .slice none 0 0/\r0.n-a=0)\/∃g o c,v'= .slice (some ⟨g,o,none⟩) (r0.n-a) c)):=by
    have hxl:(xs.drop (a*r0.w)).length=(r0.n-a)*r0.w:=by rw[List.length_drop,q3.1,Nat.sub_mul]
    rcases q3.2 with⟨e1,e2⟩|⟨g,oo,cap,cur,e1,e3,e4,e5,e6,e7⟩
    ·refine⟨none,0,by rw[e1,e2],by omega,?_⟩;have ha:a=0:=by omega
     subst ha;rw[e1,e2];refine⟨rfl,⟨by simpa [e2]using hxl, .inl ⟨rfl,rfl⟩⟩, .inl ⟨rfl,rfl⟩⟩
    ·refine⟨_,cap,e1,e4,?_⟩;rw[e1,q2];by_cases hca:cap=a
     ·have hna:r0.n=a:=by omega
      simp only[hca,if_true];refine⟨rfl,⟨hxl, .inr ⟨g,oo,a-a,cur,rfl,e3,by omega,by omega,by simp;omega,?_⟩⟩, .inr ⟨g,oo,_,rfl⟩⟩;rw[hna,Nat.sub_self,Nat.zero_mul,List.take_zero];symm;apply List.eq_nil_of_length_eq_zero;rw[hxl,hna,Nat.sub_self,Nat.zero_mul]
     ·simp only[hca,if_false,Option.map_some,Addr.add_lit];refine⟨rfl,⟨hxl, .inr ⟨g,oo+a*r0.w,cap-a,cur,rfl,e3,by omega,by omega,?_,?_⟩⟩, .inr ⟨g,oo+a*r0.w,_,rfl⟩⟩
      ·rw[Nat.sub_mul];have:a*r0.w<=cap*r0.w:=Nat.mul_le_mul_right _ (by omega);omega
      ·rw[<-e7,List.drop_take,List.drop_drop,<-Nat.sub_mul]
   obtain⟨ad,cap,k1,k2,k3,k4,k5⟩:=key;have hrun:=hp ad r0.n cap k1 k2 hle;have hRk:=hR.kill id;have hrow:RowC ρ.im w r0.ks (r0.l.drop a) (xs.drop (a*r0.w)):=by
    refine⟨by rw[List.length_drop,q3.1,List.length_drop,<-Nat.sub_mul],fun c hc=>q4.2.1 c (List.mem_of_mem_drop hc),fun i c hi=> ?_⟩;rw[List.getElem?_drop]at hi;have:=q4.2.2 (a+i) c hi;have e:cut (xs.drop (a*r0.w)) (i*r0.ks.length) r0.ks.length=cut xs ((a+i)*r0.ks.length) r0.ks.length:=by
     simp only[cut,List.drop_drop,Nat.add_mul]
    rw[e];exact this
   have hturn:=hRk.turnRow (id:=id) hr0 (r':=⟨r0.ty,r0.ks,r0.l.drop a⟩) (v':=_) (xs:=xs.drop (a*r0.w)) (w':=w) ⟨rfl,rfl,rfl,Nat.le_refl _,fun _ _ _=>rfl⟩ rfl (by simp only[Row.n,hlen];exact k4) hrow (.inl k3)
    (.inr ⟨fun v hv=>by
     simp only[List.mem_map]at hv;obtain⟨u,_,rfl⟩:=hv;exact TV.kill_free id u,fun k b hk a' ha'=>by
     rw[FJ]at hk;cases hl:Ab aB k with
     |none=>rw[hl]at hk;simp at hk
     |some b'=>
      rw[hl]at hk;simp at hk;subst hk;simp only[Box.kill,List.mem_map]at ha';obtain⟨u,_,rfl⟩:=ha';exact AC.kill_free id u⟩)
   refine Hi hrun (hnext _ _ _ _ _ _ _ h hturn ?_ ?_)
   ·refine TVR.c' ⟨by simp only[BA],by simpa using q2,?_⟩;rw[hlen];exact k5
   ·intro c hc;simp at hc;subst hc;exact⟨_,Er _ _ _ _ hr0,by simp[Row.n],rfl⟩
  ·simp at h
 |append e ks bytes s x=>
  obtain⟨t,ty,i,z,sv,xv,h1,h2,h3,h4,h5,h6,h7,h8,h9⟩:=hp;subst h5;simp only[A1]at h;split at h
  ·rename_i m hsrc;obtain⟨ad,c,news,rfl,hrow,hnews⟩:=Z4p hR hsrc h8;split at h
   ·
    split at h
    ·rename_i d hd;split at h
     ·simp at h
     ·rename_i hn;cases hb:(Nat.ble 1 ks.length&&Nat.ble 1 i.bytes)<;>rw[hb]at h
      ·simp at h
      ·simp only[cond_true]at h;simp only[Bool.and_eq_true]at hb;have hw1:=Nat.le_of_ble_eq_true hb.1;have hby:=Nat.le_of_ble_eq_true hb.2;cases hbb:Nat.ble (m.length*i.bytes) 140737488355328<;>rw[hbb]at h
       ·simp at h
       ·simp only[cond_true,A4]at h;have hbound:=Nat.le_of_ble_eq_true hbb;have hm:m.length<=m.length*i.bytes:=Nat.le_mul_of_pos_right _ (by omega);simp only[CC,CP]at h7;subst h7;obtain⟨v',w',q1,q2,q3,q4⟩:=Q7u (P:=P) (ty:=ty) (c:=c) h1 h2 h3 h4 h6 (by omega) (Qm3 w e ks.length) hrow.1 hnews (hrow.one (by omega)) (by simp only[maxLen];omega) (by simpa using hbound);rw[q1]at h9;simp only[Nat.zero_add,List.nil_append]at q2;have hbel:Below w.heap.size w w':=⟨q3.os,q3.tape,q3.output,q3.size,fun k hk=>q3.block k hk (by simp[Value.ownBlock])⟩;have hadd:=hR.addRow (d:=d) hn (r:=⟨e,ks,m⟩) (v':=v') (xs:=news) (w':=w') hbel (by show 0<ks.length;omega) q2
         (hrow.mono (fun _ h => h) (fun b hb' => hbel.block b (hR.ib b hb').1)) (fun g' hg' => by
          rcases q4 with q4|q4
          ·rw[q4]at hg';simp[Value.ownBlock]at hg'
          ·rw[q4]at hg';simp at hg';omega)
        refine Hi h9 (hnext _ _ _ _ _ _ _ h hadd ?_ ?_)
        ·refine TVR.c' ⟨by simp only[BA],by simp only[BA],?_⟩;rcases q2.2 with⟨e1,e2⟩|⟨g',oo,cap,cur,e1,_⟩
         ·exact .inl ⟨e1,e2⟩
         ·exact .inr ⟨g',oo,cap,e1⟩
        ·intro c hc;simp at hc;subst hc;exact⟨_,Eo _ _ _ hn,rfl,rfl⟩
    ·simp at h
   ·
    rename_i id w1 n1;split at h
    ·rename_i r0 hr0;cases hb:(CT ks r0.ks&&Nat.beq r0.ty e&&Nat.ble 1 i.bytes)<;>rw[hb]at h
     ·simp at h
     ·simp only[cond_true]at h;simp only[Bool.and_eq_true]at hb;have e1:=IK hb.1.1;have e2:=Nat.eq_of_beq_eq_true hb.1.2;have hby:=Nat.le_of_ble_eq_true hb.2;subst e1 e2;cases hbb:Nat.ble ((r0.l++m).length*i.bytes) 140737488355328<;>rw[hbb]at h
      ·simp at h
      ·simp only[cond_true,A4]at h;have hbound:=Nat.le_of_ble_eq_true hbb;rw[List.length_append]at hbound;have hm:r0.l.length+m.length<=(r0.l.length+m.length)*i.bytes:=Nat.le_mul_of_pos_right _ (by omega);obtain⟨q1,q2,_,xs,q3,q4⟩:=hR.ro id r0 hr0;obtain⟨c1,c2,c3⟩:=h7;subst c1;obtain⟨v',w',p1,p2,p3,p4⟩:=Q7u (P:=P) (ty:=ty) (c:=c) h1 h2 h3 h4 h6 q1 q3 hrow.1 hnews (hrow.one q1) (by simp only[maxLen,Row.n];omega) hbound;rw[p1]at h9;have hRk:=hR.kill id;have himb:∀b,ρ.im b->w'.heap[b]? =w.heap[b]? :=fun b hb'=>p3.block b (hR.ib b hb').1 (fun e=>(hR.ib b hb').2.2 id r0 hr0 e.symm);have happ:=(q4.append hrow).mono (fun _ h=>h) himb;have hturn:=hRk.turnRow (id:=id) hr0 (r':=⟨r0.ty,r0.ks,r0.l++m⟩) (v':=v') (xs:=xs++news) (w':=w') p3 rfl (by simpa [Row.n]using p2) happ
        (Qz p4 (fun x=>x) (fun x g' hg'=>by rw[x]at hg';simp at hg';omega))
        (.inr ⟨fun v hv=>by
         simp only[List.mem_map]at hv;obtain⟨u,_,rfl⟩:=hv;exact TV.kill_free id u,fun k b hk a' ha'=>by
         rw[FJ]at hk;cases hl:Ab aB k with
         |none=>rw[hl]at hk;simp at hk
         |some b'=>
          rw[hl]at hk;simp at hk;subst hk;simp only[Box.kill,List.mem_map]at ha';obtain⟨u,_,rfl⟩:=ha';exact AC.kill_free id u⟩)
       refine Hi h9 (hnext _ _ _ _ _ _ _ h hturn ?_ ?_)
       ·refine TVR.c' ⟨by simp only[BA],by simpa using q2,?_⟩;rcases p2.2 with⟨e1,e2⟩|⟨g',oo,cap,cur,e1,_⟩
        ·exact .inl ⟨e1,by simpa [Row.n]using e2⟩
        ·exact .inr ⟨g',oo,cap,by simpa [Row.n]using e1⟩
       ·intro c hc;simp at hc;subst hc;exact⟨_,Er _ _ _ _ hr0,by simp[Row.n],rfl⟩
    ·simp at h
   ·simp at h
  ·simp at h
 |call f args=>
  obtain⟨xs,h1,h2,h3⟩:=hp;simp only[A1]at h;split at h
  ·rename_i g hg;split at h
   ·rename_i as has;obtain⟨hal,hag⟩:=Q2q has;have hsp:=hspec.1 f g hg;obtain⟨v,mem',hv,hpc⟩:=hsp.run h;split at hv
    ·cases hb0:((!(args.any TV.hasOwn)||v.flat)&&v.plainB)<;>rw[hb0]at hv
     ·simp at hv
     ·simp only[cond_true]at hv;simp only[Bool.and_eq_true]at hb0
      let im2:Nat->Prop:=fun b=>ρ.im b\/(args.any TV.hasOwn=true/\∃id r0,Ab aC id=some r0/\(ρ.rv id).ownBlock=some b)
      have himl:∀b,im2 b->b<w.heap.size:=by
       rintro b (hb'|⟨_,id,r0,hr0,hb'⟩)
       ·exact(hR.ib b hb').1
       ·exact(hR.rwlt hr0 hb').2
      have hown:∀(i:Nat) (a0:TV),args[i]? =some a0->args.any TV.hasOwn=false->a0.hasOwn=false:=by
       intro i a0 ha0 hno;cases hh:a0.hasOwn
       ·rfl
       ·exact absurd (List.any_eq_true.2 ⟨a0,List.mem_of_getElem? ha0,hh⟩) (by rw[hno];simp)
      have harg:∀(i:Nat) (a':TV) (x:Value),as[i]? =some a'->xs[i]? =some x->TVR {ρ with im:=im2} w a' x:=by
       intro i a' x ha' hx;obtain⟨_,a0,ha0,hr0⟩:=hag i a' ha';have hcp0:∀(a:AC) (y:Value),CP ρ.im w a y->CP im2 w a y:=fun a y hh=>CP.mono (fun _ h=> .inl h) (fun _ _=>rfl) a y hh;cases hany:args.any TV.hasOwn
       ·have hno:=hown i a0 ha0 hany;have hpl:a0=a':=Zi4 hno hr0;subst hpl;exact Q52 (hag i a0 ha').1 (fun a y _ hh=>hcp0 a y hh) (h2 i a0 x ha0 hx)
       ·refine Z7p (aB:=aB) ?_ hr0 (hwf a0 (List.mem_of_getElem? ha0)) (h2 i a0 x ha0 hx);intro b b' y hb' hy hwb;cases b<;>simp only[AC.res]at hb'<;>try (simp at hb';done)
        case own id w1 n1=>
         split at hb'
         ·rename_i r0 hr0';simp at hb';subst hb';obtain⟨q1,q2,_,ys,q3,q4⟩:=hR.ro id r0 hr0';obtain⟨c1,c2,c3⟩:=hy;subst c1;exact Qcv q3 (q4.mono (fun _ h=> .inl h) (fun _ _=>rfl)) (fun g hg=> .inr ⟨hany,id,r0,hr0',hg⟩)
         ·simp at hb'
        all_goals
         simp at hb';subst hb';exact hcp0 _ _ hy
      have hbase:RelE (EH (fun b=>b<w.heap.size) w {ρ with im:=im2} []) as [] [] {ρ with im:=im2} xs.toArray w:=by
       refine⟨by simp[hal,h1],fun i a hi=> ?_,fun a ha=> ?_,fun k b hk=>by simp[Ab]at hk,fun k b hk=>by simp[Ab]at hk,fun k k' b b' hk=>by simp[Ab]at hk,fun id r hr=>by simp[Ab]at hr,
        fun id id' r r' g hr=>by simp[Ab]at hr,fun k b id r hk=>by simp[Ab]at hk,fun b hb=>⟨himl b hb,fun k bo hk=>by simp[Ab]at hk,fun id r hr=>by simp[Ab]at hr⟩,Fr.refl _ _,fun _ h=>h,fun _ h=>h,fun b h=> .inl h,fun k b hk=>by simp[EH,Ab]at hk⟩
       ·have hil:i<xs.length:=by rw[h1,<-hal];exact(List.getElem?_eq_some_iff.1 hi).1
        have e:xs.toArray.getD i undef=xs[i]:=by simp[Array.getD,hil]
        rw[e];exact harg i a _ hi (List.getElem?_eq_getElem hil)
       ·obtain⟨i,hi⟩:=List.getElem?_of_mem ha;exact JJ (hag i a hi).1
      refine RT h3 ((hpc _ w _ xs hbase).mono ?_);rintro e w' ⟨x,ρ',he,hR2⟩;have hbel:Below w.heap.size w w':=⟨hR2.fr.os,hR2.fr.tape,hR2.fr.output,hR2.fr.size,fun k hk=>hR2.fr.block k hk⟩;have htv:TVR ρ' w' v x:=by simpa using hR2.tv 0 v rfl
      by_cases hany:args.any TV.hasOwn=true
      ·have hflat:v.flat=true:=by have:=hb0.1;rw[hany]at this;simpa using this
       have hR':RelE Z tm aB aC ρ tmps w':=hR.growIm (im':=ρ.im) hbel (fun _ h=>h) (fun _ h=> .inl h);exact⟨x,he,hnext v _ _ _ ρ x w' hv hR' (Zi3 hflat htv) (JJ hb0.2)⟩
      ·have hR' : RelE Z tm aB aC { ρ with im := ρ'.im } tmps w' := hR.growIm hbel (fun b hb => hR2.i0 b (.inl hb)) (fun b hb => by
        rcases hR2.i1 b hb with hb'|hb'
        ·rcases hb' with hb'|⟨hb',_⟩
         ·exact .inl hb'
         ·exact absurd hb' hany
        ·exact .inr ⟨Nat.not_lt.1 hb',(hR2.ib b hb).1⟩)
       exact⟨x,he,hnext v _ _ _ _ x w' hv hR' (Q52 (ρ:=ρ') (ρ2:={ρ with im:=ρ'.im}) hb0.2 (fun _ _ _ h=>h) htv) (JJ hb0.2)⟩
    ·simp at hv
   ·simp at h
  ·simp at h
 |callM f args=>
  obtain⟨xs,h1,h2,h3⟩:=hp;exact Z7q hspec hR h1 h2 h3 hwf h hnext
 |callD f args=>
  obtain⟨xs,h1,h2,h3⟩:=hp;exact Z7c hspec hR h1 h2 h3 hwf h hnext
 |callF f args=>
  obtain⟨xs,h1,h2,h3⟩:=hp;exact Zqs hspec hR h1 h2 h3 hwf h hnext
 |appD e ks bytes s x=>simp[Prim.isApp]at hna
theorem Zp3 (hspec:Ai P C) (hR:RelE Z tm aB aC ρ tmps w) {o:Oper} {a:Act} {p:Prim} (hp:IJ P ρ w a.eval o p) (hwf:Prim.wf aB aC p) {K:TV->St->Option R} {r:R}
  (h:A1 C o.dst p ⟨tm,aB,aC⟩ K=some r) {next:Act->World->Prop} {Q:Exit->Act->World->Prop}
  (hnext:∀(v:TV) (tm':List TV) (boxes':List (Nat×Box)) (rows':List (Nat×Row)) (ρ':Env) (x:Value) (w':World),K v ⟨tm',boxes',rows'⟩=some r->RelE Z tm' boxes' rows' ρ' tmps w'->TVR ρ' w' v x->TV.wf boxes' rows' v->next (a.put o.dst x) w'):
  o.wp P a w next Q:=by
 cases hna:Prim.isApp (some p)
 ·exact VC hspec hR hp hwf hna h hnext
 ·cases p<;>simp[Prim.isApp]at hna
  rename_i e ks bytes s x;by_cases hnil:s= .nilSl
  ·subst hnil;simp only[A1]at h;split at h
   ·rename_i m hm;split at h
    ·rename_i d hd;have h':A1 C o.dst (.append e ks bytes .nilSl x) ⟨tm,aB,aC⟩ (fun v s=>K v ⟨s.tmps.map (TV.kill d),s.aB.map fun p=>(p.1,p.2.kill d),s.aC⟩)=some r:=by
      simp only[A1,hm,hd];split at h
      ·simp at h
      ·rename_i hn;simp only[A4]at h⊢;exact h
     refine VC hspec hR (p:= .append e ks bytes .nilSl x) hp hwf rfl h' ?_;intro v tm' boxes' rows' ρ' y w' hK hR' hv hvw;refine hnext _ _ _ _ ρ' y w' hK (hR'.kill d) hv ?_;have hlk:∀k,Ab (boxes'.map fun p=>(p.1,p.2.kill d)) k=(Ab boxes' k).map (Box.kill d):=fun k=>FJ (Box.kill d) boxes' k;exact TV.wf_mono (fun a=>AC.wf_mono (fun k b hk=>⟨b.kill d,by rw[hlk,hk];rfl⟩) (fun k r hk=>⟨r,hk,rfl,rfl⟩)) hvw
    ·simp at h
   ·simp at h
  ·have h':A1 C o.dst (.append e ks bytes s x) ⟨tm,aB,aC⟩ K=some r:=by
    simp only[A1]at h⊢;split at h
    ·split at h
     ·exact h
     ·exact absurd rfl hnil
     ·simp at h
    ·simp at h
   exact VC hspec hR (p:= .append e ks bytes s x) hp hwf rfl h' hnext
end
end Go.Bm
namespace Go.Bm
open Go.RowKit
section
variable {P:Program} {C:Cfg} {R:Type}
theorem Qlt (op:BinOp) (k:IntKind) (a b:Int) (K:AC->Option R):GD op k a b K=(GD op k a b some).bind K:=by
 cases op<;>simp only[GD,Option.bind_some]
 all_goals first|(cases decide (b=0)<;>rfl)|(cases decide (b<0)<;>rfl)
theorem NR {i:Int}:∀(n k:Nat) {R S:Type} (f:Nat->Option R) (K:R->Option S),Hc i n k (fun j=>(f j).bind K)=(Hc i n k f).bind K
 |0,k,_,_,f,K=>rfl
 |n+1,k,_,_,f,K=>by
  simp only[Hc];rw[NR n (k+1) f K];cases decide (i=(k:Int))<;>rfl
theorem YR (g:Int->Int->Int) (k:IntKind):∀(l:List TV) (a:Int) (K:Prim->Option R),FQ g k a l K=(FQ g k a l some).bind K
 |[],a,K=>by simp[FQ]
 |t::l,a,K=>by
  unfold FQ;split
  ·rename_i k' b;cases kEq k k'
   ·rfl
   ·exact YR g k l (g a b) K
  ·rfl
theorem Z27 (b:Builtin) (ats:List TypeId) (args:List TV) (K:Prim->Option R):K6 P b ats args K=(K6 P b ats args some).bind K:=by
 unfold K6;split
 case h_6=>exact YR _ _ _ _ _
 case h_7=>exact YR _ _ _ _ _
 case h_8=>
  split
  ·split
   ·split
    ·split
     ·cases(Nat.beq _ _&&Nat.beq _ _&&Nat.beq _ _)<;>rfl
     ·rfl
    ·rfl
   ·rfl
  ·rfl
 all_goals
  repeat' split
  all_goals rfl
theorem H2 (c:Bool) (p:Prim) (K:Prim->Option R):cond c (K p) none=(cond c (some p) none).bind K:=by cases c<;>rfl
theorem Px (ev:Operand->TV) (dst:Option Tmp) (o:Op) (K:Prim->Option R):opK P C ev dst o K=(opK P C ev dst o some).bind K:=by
 cases o
 case pick c a b=>
  simp only[opK];split
  ·rename_i g _;cases g<;>rfl
  ·rfl
 case build t parts=>
  simp only[opK];split
  ·cases(Ak _ _)
   ·rfl
   ·simp only[cond_true];split<;>rfl
  ·split
   ·split<;>rfl
   ·rfl
  ·rfl
 case buildSlice t n parts=>
  simp only[opK];split
  ·split
   ·cases(Nat.beq _ _&&Nat.beq _ _&&Nat.ble 1 _&&Nat.ble _ 65536)
    ·rfl
    ·simp only[cond_true];split
     ·split
      ·cases S7 C dst _<;>rfl
      ·cases(Ak AC.isClo _&&Nat.beq _ 1)<;>rfl
     ·rfl
   ·rfl
  ·rfl
 case makeSlice t len cap=>
  simp only[opK];split
  ·split
   ·split
    ·cases(Nat.beq _ _&&Nat.ble 1 _&&Nat.ble 1 _)
     ·rfl
     ·simp only[cond_true];exact H2 _ _ _
    ·rfl
   ·rfl
  ·rfl
 case makeFunc fn a b=>
  simp only[opK];split
  ·split<;>rfl
  ·rfl
 case store t a x=>
  simp only[opK];split
  ·cases(Nat.beq _ _)
   ·rfl
   ·simp only[cond_true];split<;>rfl
  ·rfl
 case binOp op t x y yt=>
  simp only[opK];split
  ·cases(kEq _ _||Ox op)
   ·rfl
   ·simp only[cond_true];rename_i k a k' b _ _;have h2:=Qlt op k a b (fun v=>(some (Prim.val (TV.c v)):Option Prim));rw[Qlt,h2];cases GD op k a b some<;>rfl
  ·split<;>rfl
  ·split<;>rfl
  ·cases(P.eqGuardType P.depth t)
   ·simp only[cond_false];split<;>rfl
   ·rfl
  ·rfl
 case indexAddr t x ix=>
  simp only[opK];split
  ·split
   ·exact NR _ _ (fun j=>some _) K
   ·exact NR _ _ (fun j=>some _) K
   ·exact NR _ _ (fun j=>some _) K
   ·rfl
  ·split
   ·cases(Nat.beq _ _)
    ·rfl
    ·simp only[cond_true];exact H2 _ _ _
   ·cases(Nat.beq _ _)
    ·rfl
    ·simp only[cond_true];exact H2 _ _ _
   ·cases(Nat.beq _ _)
    ·rfl
    ·simp only[cond_true];exact NR _ _ (fun j=>some _) K
   ·rfl
  ·rfl
 case index t x ix=>
  simp only[opK];split
  ·split
   ·rename_i m _;rw[<-NR];congr 1
    funext j
    split<;>rfl
   ·rfl
  ·rfl
 case slice t x lo hi mx=>
  simp only[opK];split
  ·split
   ·cases(Nat.beq _ _)
    ·rfl
    ·simp only[cond_true];split
     ·rfl
     ·exact H2 _ _ _
     ·exact H2 _ _ _
     ·exact H2 _ _ _
   ·split
    ·cases(Nat.beq _ _)
     ·rfl
     ·simp only[cond_true];exact H2 _ _ _
    ·rfl
   ·split
    ·rfl
    ·exact H2 _ _ _
    ·exact H2 _ _ _
    ·exact H2 _ _ _
   ·rfl
  ·rfl
 case call c=>
  simp only[opK];split
  ·exact Z27 _ _ _ _
  ·cases C.pure _<;>rfl
  ·split
   ·cases(Ak _ _&&Ak _ _)<;>rfl
   ·rfl
  ·rfl
 all_goals
  simp only[opK]
  repeat' split
  all_goals rfl
end
end Go.Bm
namespace Go.Bm
open Go.RowKit
section
variable {P:Program} {C:Cfg} {R:Type} {aB:List (Nat×Box)} {aC:List (Nat×Row)}
theorem KK {α:Type} {c:Bool} {p q:α} (h:cond c (some p) none=some q):c=true/\p=q:=by cases c<;>simp at h;exact⟨rfl,h⟩
theorem Tv (k:IntKind) (n:Int):TV.wf aB aC (.c (.int k n)):=by intro a ha;simp at ha;subst ha;trivial
theorem IV (b:Bool):TV.wf aB aC (.c (.bool b)):=by intro a ha;simp at ha;subst ha;trivial
theorem Cs {a:AC} (h:AC.wf aB aC a):TV.wf aB aC (.c a):=by intro b hb;simp at hb;subst hb;exact h
theorem EE {a:AC} (h:TV.wf aB aC (.c a)):AC.wf aB aC a:=h a (by simp)
theorem Qso (v:Value):AC.wf aB aC (Mx v):=by
 unfold Mx;split<;>trivial
theorem Qix:∀(l:List Value) (cs:List AC),Jc l=some cs->∀a∈cs,AC.wf aB aC a
 |[],cs,h=>by simp[Jc]at h;subst h;intro a ha;simp at ha
 |v::l,cs,h=>by
  simp only[Jc]at h;cases hv:v.oneCell'<;>rw[hv]at h
  ·simp at h
  ·simp only[cond_true]at h;split at h
   ·rename_i cs' hc;simp at h;subst h;intro a ha;simp only[List.mem_cons]at ha;rcases ha with rfl|ha
    ·exact Qso v
    ·exact Qix l cs' hc a ha
   ·simp at h
theorem Zok (v:Value):TV.wf aB aC (ofValue v):=by
 unfold ofValue;split
 ·split
  ·rename_i h;exact Qix _ _ h
  ·trivial
 ·trivial
 ·exact Cs (Qso v)
theorem Qm8 {tm:List TV} (h:∀v∈tm,TV.wf aB aC v) (x:Operand):TV.wf aB aC (AY tm x):=by
 cases x with
 |tmp t=>
  simp only[AY,BR,List.getD];cases ht:tm[t]? with
  |none=>trivial
  |some v=>exact h v (List.mem_of_getElem? ht)
 |const v=>exact Zok v
 |global=>trivial
 |func=>trivial
theorem SX {t:TypeId} {cs:List AC} (h:IE P t=some cs):∀a∈cs,AC.wf aB aC a:=by
 unfold IE at h;split at h
 ·split at h
  ·exact Qix _ _ h
  ·simp at h
 ·simp at h
theorem Qvx {z:List AC} (hz:∀a∈z,AC.wf aB aC a):∀n,∀a∈KW z n,AC.wf aB aC a
 |0,a,h=>by simp[KW]at h
 |n+1,a,h=>by
  simp only[KW,List.mem_append]at h;rcases h with h|h
  ·exact hz a h
  ·exact Qvx hz n a h
theorem TV.cells_wf {v:TV} {cs:List AC} (h:v.cells=some cs) (hw:TV.wf aB aC v):∀a∈cs,AC.wf aB aC a:=by
 cases v<;>simp[TV.cells]at h
 subst h;exact hw
theorem RS {α:Type} {x:α}:∀(l:List α) (o:Nat) (vs:List α),x∈splice l o vs->x∈l\/x∈vs
 |l,o,[],h=>by rw[Pu]at h;exact .inl h
 |[],o,_::_,h=>by simp[splice]at h
 |y::l,0,v::vs,h=>by
  simp only[splice,List.mem_cons]at h;rcases h with rfl|h
  ·exact .inr (by simp)
  ·rcases RS l 0 vs h with h|h
   ·exact .inl (by simp[h])
   ·exact .inr (by simp[h])
 |y::l,o+1,v::vs,h=>by
  simp only[splice,List.mem_cons]at h;rcases h with rfl|h
  ·exact .inl (by simp)
  ·rcases RS l o (v::vs) h with h|h
   ·exact .inl (by simp[h])
   ·exact .inr h
theorem SC {place:Nat->Option (Nat×Nat)}:∀(parts:List (Nat×TV)) (z cs:List AC),H7 place z parts=some cs->(∀a∈z,AC.wf aB aC a)->(∀p∈parts,TV.wf aB aC p.2)->∀a∈cs,AC.wf aB aC a
 |[],z,cs,h,hz,_=>by simp[H7]at h;subst h;exact hz
 |(i,v)::parts,z,cs,h,hz,hp=>by
  simp only[H7]at h;split at h
  ·rename_i off size l hpl hl;cases hb:(Nat.beq l.length size&&Nat.ble (off+size) z.length)<;>rw[hb]at h
   ·simp at h
   ·refine SC parts _ _ h (fun a ha=> ?_) (fun p hpm=>hp p (by simp[hpm]));rcases RS _ _ _ ha with ha|ha
    ·exact hz a ha
    ·exact TV.cells_wf hl (hp (i,v) (by simp)) a ha
  ·simp at h
theorem Tf {ev:Operand->TV} (hev:∀x,TV.wf aB aC (ev x)):∀(l:List (Nat×Operand)),∀p∈FK ev l,TV.wf aB aC p.2
 |[],p,h=>by simp[FK]at h
 |x::l,p,h=>by
  simp only[FK,List.mem_cons]at h;rcases h with rfl|h
  ·exact hev _
  ·exact Tf hev l p h
theorem NF {ev:Operand->TV} (hev:∀x,TV.wf aB aC (ev x)):∀(l:List Operand),∀v∈Cu ev l,TV.wf aB aC v
 |[],p,h=>by simp[Cu]at h
 |x::l,p,h=>by
  simp only[Cu,List.mem_cons]at h;rcases h with rfl|h
  ·exact hev _
  ·exact NF hev l p h
theorem P5 {g:Bool} {sz off:Nat} {cells:List AC} {v:TV} (h:Dm g sz cells off=some v) (hc:∀a∈cells,AC.wf aB aC a):TV.wf aB aC v:=by
 unfold Dm at h;cases g
 ·simp only[cond_false]at h;split at h
  ·rename_i c hc';simp at h;subst h;exact Cs (hc _ (List.mem_of_getElem? hc'))
  ·simp at h
 ·simp only[cond_true]at h;cases hbb:Nat.ble (off+sz) cells.length<;>rw[hbb]at h
  ·simp at h
  ·simp at h;subst h;intro c hcm;exact hc c (List.mem_of_mem_drop (List.mem_of_mem_take hcm))
theorem Q5o {t:TypeId} {cs:List AC} {off:Nat} {v:TV} (h:OR P t cs off=some v) (hc:∀a∈cs,AC.wf aB aC a):TV.wf aB aC v:=by
 unfold OR at h;split at h
 ·exact P5 h hc
 ·simp at h
theorem Zlp {op:BinOp} {k:IntKind} {a b:Int} {c:AC} (h:GD op k a b some=some c):AC.wf aB aC c:=by
 cases op<;>simp only[GD]at h
 case quo=>cases hb:decide (b=0)<;>rw[hb]at h<;>simp at h;subst h;trivial
 case rem=>cases hb:decide (b=0)<;>rw[hb]at h<;>simp at h;subst h;trivial
 case shl=>cases hb:decide (b<0)<;>rw[hb]at h<;>simp at h;subst h;trivial
 case shr=>cases hb:decide (b<0)<;>rw[hb]at h<;>simp at h;subst h;trivial
 all_goals (simp at h;subst h;trivial)
theorem U7 (g:Int->Int->Int) (k:IntKind):∀(l:List TV) (a:Int) (p:Prim),FQ g k a l some=some p->Prim.wf aB aC p
 |[],a,p,h=>by simp[FQ]at h;subst h;exact Tv _ _
 |t::l,a,p,h=>by
  unfold FQ at h;split at h
  ·rename_i k' b;cases hk:kEq k k'<;>rw[hk]at h
   ·simp at h
   ·exact U7 g k l _ p h
  ·simp at h
theorem Zjp (k:Kd) (a:AC):(Lh k a).calm=true:=by
 cases k<;>try rfl
 cases a<;>rfl
theorem Q6h:∀(ks:List Kd) (cs:List AC) (j:Nat),Ak AC.calm (Ek ks cs j)=true
 |[],_,_=>rfl
 |k::ks,cs,j=>by simp only[Ek,Ak,Zjp,cond_true];exact Q6h ks cs (j+1)
theorem Q0r {cs:List AC} (h:Ak AC.calm cs=true):∀a∈cs,AC.wf aB aC a:=by
 intro a ha;have:=Ax.1 h a ha;cases a<;>first|trivial|(simp[AC.calm]at this)
theorem Qhx:∀{l:List TV} {as:List AC},IM l=some as->(∀v∈l,TV.wf aB aC v)->∀a∈as,AC.wfP aB a
 |[],as,h,_=>by simp[IM]at h;subst h;intro a ha;simp at ha
 |v::l,as,h,hw=>by
  unfold IM at h;split at h
  ·simp at*
  ·rename_i a l' heq;simp only[List.cons.injEq]at heq;obtain⟨rfl,rfl⟩:=heq;cases hc:a.clOk<;>rw[hc]at h
   ·simp at h
   ·simp only[cond_true]at h;split at h
    ·rename_i r hr;simp at h;subst h;intro b hb;simp only[List.mem_cons]at hb;rcases hb with rfl|hb
     ·have:=hw (.c b) (by simp) b (by simp);cases b<;>first|exact this|trivial
     ·exact Qhx hr (fun v hv=>hw v (by simp[hv])) b hb
    ·simp at h
  ·simp at h
theorem ZR {ev:Operand->TV} (hev:∀x,TV.wf aB aC (ev x)) {dst:Option Tmp} {o:Op} {p:Prim} (h:opK P C ev dst o some=some p):Prim.wf aB aC p:=by
 cases o<;>simp only[opK]at h<;>try (simp at h;done)
 case move x=>simp at h;subst h;exact hev x
 case assign x=>simp at h;subst h;exact hev x
 case pick c a b=>
  split at h
  ·rename_i g _;cases g<;>simp at h<;>subst h
   ·exact hev b
   ·exact hev a
  ·simp at h
 case alloc t=>
  split at h
  ·rename_i cs hz;simp at h;subst h;exact SX hz
  ·simp at h
 case box t x=>
  split at h
  ·rename_i cs hc;simp at h;subst h;exact TV.cells_wf hc (hev x)
  ·simp at h
 case build t parts=>
  split at h
  ·rename_i z fs hz hu;cases hall:(Ak (Lc P) fs.toList)<;>rw[hall]at h
   ·simp at h
   ·simp only[cond_true]at h;split at h
    ·rename_i cs hb;simp at h;subst h;exact SC _ _ _ hb (SX hz) (Tf hev _)
    ·simp at h
  ·rename_i z n el hz hu;split at h
   ·split at h
    ·rename_i cs hb;simp at h;subst h;exact SC _ _ _ hb (SX hz) (Tf hev _)
    ·simp at h
   ·simp at h
  ·simp at h
 case buildSlice t n parts=>
  split at h
  ·split at h
   ·cases hb:(Nat.beq _ _&&Nat.beq _ _&&Nat.ble 1 _&&Nat.ble _ 65536)<;>rw[hb]at h
    ·simp at h
    ·simp only[cond_true]at h;split at h
     ·rename_i hz _ _ cs hbp;split at h
      ·cases hcv:S7 C dst n<;>rw[hcv]at h<;>simp at h<;>subst h<;>trivial
      ·cases hcl:(Ak AC.isClo cs&&Nat.beq _ 1)<;>rw[hcl]at h
       ·simp at h
       ·simp only[cond_true]at h;simp at h;subst h;refine SC _ _ _ hbp (fun a ha=> ?_) (Tf hev _);exact Qvx (SX hz) _ a ha
     ·simp at h
   ·simp at h
  ·simp at h
 case makeSlice t len cap=>
  split at h
  ·split at h
   ·split at h
    ·cases hb:(Nat.beq _ _&&Nat.ble 1 _&&Nat.ble 1 _)<;>rw[hb]at h
     ·simp at h
     ·simp only[cond_true]at h;obtain⟨_,rfl⟩:=KK h;trivial
    ·simp at h
   ·simp at h
  ·simp at h
 case makeFunc fn a b=>
  split at h
  ·split at h
   ·rename_i fs cs hfs hcs;simp at h;subst h;exact Cs ⟨Qhx hfs (NF hev _),Qhx hcs (NF hev _)⟩
   ·simp at h
  ·simp at h
 case load t a=>
  split at h
  ·have ha:=hev a;split at h
   ·rename_i key off hea;simp at h;subst h;rw[hea]at ha;exact EE ha
   ·rename_i cells sub hea;split at h
    ·rename_i v hv;simp at h;subst h;rw[hea]at ha;exact P5 hv (Q0r (EE ha))
    ·simp at h
   ·rename_i id idx sub hea;simp at h;subst h;rw[hea]at ha;exact EE ha
   ·simp at h
  ·simp at h
 case store t a x=>
  split at h
  ·rename_i sz cs hs hc;cases hb:(Nat.beq cs.length sz)<;>rw[hb]at h
   ·simp at h
   ·simp only[cond_true]at h;have ha:=hev a;split at h
    ·rename_i key off hea;simp at h;subst h;rw[hea]at ha;exact⟨EE ha,TV.cells_wf hc (hev x)⟩
    ·rename_i id idx sub hea;simp at h;subst h;rw[hea]at ha;exact EE ha
    ·simp at h
  ·simp at h
 case nilCheck x=>
  have hx:=hev x;split at h
  all_goals first|(simp at h;done)|(rename_i hea;simp at h;subst h;rw[hea]at hx;exact hx)
 case binOp op t x y yt=>
  split at h
  ·cases hk:(kEq _ _||Ox op)<;>rw[hk]at h
   ·simp at h
   ·simp only[cond_true]at h;rename_i k a k' b _ _;rw[Qlt]at h;cases hi:GD op k a b some with
    |none=>rw[hi]at h;simp at h
    |some c=>rw[hi]at h;simp at h;subst h;exact Cs (Zlp hi)
  ·split at h
   ·simp at h;subst h;exact IV _
   ·simp at h;subst h;exact IV _
   ·simp at h
  ·split at h
   ·simp at h;subst h;exact IV _
   ·simp at h;subst h;exact IV _
   ·simp at h
  ·cases hg:P.eqGuardType P.depth t<;>rw[hg]at h
   ·simp only[cond_false]at h;split at h
    ·simp at h;subst h;exact IV _
    ·simp at h;subst h;exact IV _
    ·simp at h
   ·simp at h
  ·simp at h
 case unOp uop t x=>
  split at h
  ·simp at h;subst h;exact Tv _ _
  ·simp at h;subst h;exact IV _
  ·simp at h
 case convert src dst x=>
  split at h
  ·simp at h;subst h;exact Tv _ _
  ·simp at h
 case fieldAddr t x i=>
  split at h
  ·split at h
   ·have hx:=hev x;split at h
    ·rename_i hea;simp at h;subst h;rw[hea]at hx;have q:=EE hx;exact Cs q
    ·rename_i hea;simp at h;subst h;rw[hea]at hx;have q:=EE hx;exact Cs q
    ·rename_i hea;simp at h;subst h;rw[hea]at hx;have q:=EE hx;exact Cs q
    ·simp at h
   ·simp at h
  ·simp at h
 case field t x i=>
  split at h
  ·rename_i f cs hf hea;split at h
   ·rename_i v hp;simp at h;subst h;have hx:=hev x;rw[hea]at hx;exact Q5o hp hx
   ·simp at h
  ·simp at h
 case indexAddr t x ix=>
  split at h
  ·have hx:=hev x;split at h
   ·rename_i hea;obtain⟨j,h1,_⟩:=Hk h;simp at h1;subst h1;rw[hea]at hx;have q:=EE hx;exact Cs q
   ·rename_i hea;obtain⟨j,h1,_⟩:=Hk h;simp at h1;subst h1;rw[hea]at hx;have q:=EE hx;exact Cs q
   ·rename_i hea;obtain⟨j,h1,_⟩:=Hk h;simp at h1;subst h1;rw[hea]at hx;have q:=EE hx;exact Cs q
   ·simp at h
  ·have hx:=hev x;split at h
   ·rename_i m ks l hm hea;cases hb:Nat.beq m ks.length<;>rw[hb]at h
    ·simp at h
    ·simp only[cond_true]at h;obtain⟨_,rfl⟩:=KK h;exact Cs (Q6h _ _ _)
   ·rename_i m id wd n hm hea;cases hb:Nat.beq m wd<;>rw[hb]at h
    ·simp at h
    ·simp only[cond_true]at h;obtain⟨hd,rfl⟩:=KK h;rw[hea]at hx;obtain⟨r,h1,h2,h3⟩:=EE hx;simp at hd;exact Cs ⟨r,h1,by omega⟩
   ·rename_i m key n hm hea;cases hb:Nat.beq m 1<;>rw[hb]at h
    ·simp at h
    ·simp only[cond_true]at h;obtain⟨j,h1,_⟩:=Hk h;simp at h1;subst h1;rw[hea]at hx;have q:=EE hx;exact Cs q
   ·simp at h
  ·simp at h
 case index t x ix=>
  split at h
  ·rename_i i n el cs hi hu hea;split at h
   ·obtain⟨j,h1,_⟩:=Hk h;have hx:=hev x;rw[hea]at hx;split at h1
    ·rename_i v hp;simp at h1;subst h1;exact Q5o hp hx
    ·simp at h1
   ·simp at h
  ·simp at h
 case slice t x lo hi mx=>
  split at h
  ·split at h
   ·rename_i m ks l hm hea;cases hb:Nat.beq m ks.length<;>rw[hb]at h
    ·simp at h
    ·simp only[cond_true]at h;split at h
     ·simp at h;subst h;exact Cs trivial
     all_goals
      obtain⟨_,rfl⟩:=KK h;exact Cs trivial
   ·split at h
    ·cases hb:Nat.beq _ _<;>rw[hb]at h
     ·simp at h
     ·simp only[cond_true]at h;obtain⟨_,rfl⟩:=KK h;trivial
    ·simp at h
   ·split at h
    ·simp at h;subst h;exact Cs trivial
    all_goals
     obtain⟨_,rfl⟩:=KK h;exact Cs trivial
   ·simp at h
  ·simp at h
 case extract t i=>
  have ht:=hev t;split at h
  ·rename_i ps hea;split at h
   ·rename_i g cs hg;simp at h;subst h;rw[hea]at ht;exact ht (g,cs) (List.mem_of_getElem? hg)
   ·simp at h
  ·simp at h
 case call c=>
  split at h
  ·rename_i b hb;have hargs:=NF hev c.args.toList
   revert hargs h
   generalize Cu ev c.args.toList=args;intro h hargs;unfold K6 at h;split at h
   case h_6=>exact U7 _ _ _ _ _ h
   case h_7=>exact U7 _ _ _ _ _ h
   case h_8=>
    rename_i s x
    repeat' split at h
    all_goals try (simp at h;done)
    obtain⟨_,rfl⟩:=KK h;exact⟨EE (hargs _ (by simp)),EE (hargs _ (by simp))⟩
   all_goals
    repeat' split at h
    all_goals first|(simp at h;done)|(simp at h;subst h;exact Tv _ _)
  ·rename_i f hf;cases hp:C.pure f<;>rw[hp]at h<;>simp at h<;>subst h<;>exact NF hev _
  ·rename_i t ht;split at h
   ·rename_i f fs cs hcl;cases hok:(Ak AC.clOk fs&&Ak AC.clOk cs)<;>rw[hok]at h
    ·simp at h
    simp only[cond_true,Option.some.injEq]at h;subst h;simp only[Bool.and_eq_true]at hok;have hv:=hev (.tmp t);rw[hcl]at hv;have hq:=EE hv;have hcw:∀l:List AC,(∀a∈l,AC.wfP aB a)->Ak AC.clOk l=true->∀v∈l.map TV.c,TV.wf aB aC v:=by
     intro l h1 h2 v hv;simp only[List.mem_map]at hv;obtain⟨a,ha,rfl⟩:=hv;have q1:=h1 a ha;have q2:=Ax.1 h2 a ha;cases a<;>first|exact Cs q1|(simp[AC.clOk]at q2;done)|exact Cs trivial
    intro v hv;rcases List.mem_append.1 hv with hv|hv
    ·exact hcw fs hq.1 hok.1 v hv
    ·rcases List.mem_append.1 hv with hv|hv
     ·exact NF hev _ v hv
     ·exact hcw cs hq.2 hok.2 v hv
   ·simp at h
  ·simp at h
end
end Go.Bm
namespace Go.Bm
open Go.RowKit
def Rel (Z:Base) (s:St) (tmps:Array Value) (w:World):Prop:=∃ρ,RelE Z s.tmps s.aB s.aC ρ tmps w
section
variable {P:Program} {C:Cfg} {w:World} {R:Type} {Z:Base}
theorem RelE.put {ρ:Env} {tm:List TV} {aB:List (Nat×Box)} {aC:List (Nat×Row)} {tmps:Array Value} (h:RelE Z tm aB aC ρ tmps w) (d:Nat) {v:TV} {x:Value} (hv:TVR ρ w v x) (hw:TV.wf aB aC v):
  RelE Z (setL tm d v) aB aC ρ (tmps.setIfInBounds d x) w:=by
 rw[H3];refine⟨by simp[h.tl],fun i u hi=> ?_,fun u hu=> ?_,h.wb,h.bx,h.bi,h.ro,h.ri,h.br,h.ib,h.fr,h.fs,h.i0,h.i1,h.k0⟩
 ·rw[List.getElem?_set]at hi;by_cases hid:d=i
  ·subst hid;simp only[if_true]at hi;split at hi
   ·rename_i hlt;simp at hi;subst hi;have:d<tmps.size:=by rw[<-h.tl];exact hlt
    simpa [Array.getD,this]using hv
   ·simp at hi
  ·rw[if_neg hid]at hi;have:=h.tv i u hi;have e:(tmps.setIfInBounds d x).getD i undef=tmps.getD i undef:=by
    simp[Array.getD_eq_getD_getElem?,Array.getElem?_setIfInBounds_ne hid]
   rw[e];exact this
 ·rcases List.mem_or_eq_of_mem_set hu with hu|rfl
  ·exact h.wt u hu
  ·exact hw
theorem RelE.learn {ρ:Env} {tm:List TV} {aB:List (Nat×Box)} {aC:List (Nat×Row)} {tmps:Array Value} (h:RelE Z tm aB aC ρ tmps w) (d:Nat) {v:TV} (hv:TVR ρ w v (tmps.getD d undef)) (hw:TV.wf aB aC v):
  RelE Z (setL tm d v) aB aC ρ tmps w:=by
 rw[H3];refine⟨by simp[h.tl],fun i u hi=> ?_,fun u hu=> ?_,h.wb,h.bx,h.bi,h.ro,h.ri,h.br,h.ib,h.fr,h.fs,h.i0,h.i1,h.k0⟩
 ·rw[List.getElem?_set]at hi;by_cases hid:d=i
  ·subst hid;simp only[if_true]at hi;split at hi
   ·simp at hi;subst hi;exact hv
   ·simp at hi
  ·rw[if_neg hid]at hi;exact h.tv i u hi
 ·rcases List.mem_or_eq_of_mem_set hu with hu|rfl
  ·exact h.wt u hu
  ·exact hw
theorem E4 (s:St) (d:Option Tmp) (v:TV) (K:St->Option R):put s d v K=K (match d with|none=>s|some t=>⟨setL s.tmps t v,s.aB,s.aC⟩):=by
 obtain⟨tm,aB,aC⟩:=s;cases d with
 |none=>rfl
 |some t=>simp only[put,A4]
theorem Qrn {ρ:Env} {tm:List TV} {aB:List (Nat×Box)} {aC:List (Nat×Row)} {a:Act} (h:RelE Z tm aB aC ρ a.tmps w) (x:Operand):TVR ρ w (AY tm x) (a.eval x):=by
 cases x with
 |tmp t=>
  simp only[AY,BR,List.getD,Act.eval];cases ht:tm[t]? with
  |none=>trivial
  |some v=>exact h.tv t v ht
 |const v=>exact Ztg v
 |global=>trivial
 |func=>trivial
theorem SP:∀(l:List Nat) (s:St) (tmps:Array Value),Rel Z s tmps w->∀(K:St->Option R) (r:R),Ia l s K=some r->∃s',K s'=some r/\Rel Z s' tmps w
 |[],s,tmps,hR,K,r,h=>⟨s,h,hR⟩
 |id::l,s,tmps,hR,K,r,h=>by
  obtain⟨tm,aB,aC⟩:=s;simp only[Ia]at h;split at h
  ·rename_i r0 hr0;simp only[A4]at h;obtain⟨ρ,hR⟩:=hR;exact SP l _ tmps ⟨_,hR.freeze hr0⟩ K r h
  ·exact SP l _ tmps hR K r h
theorem Z0m {k o:Nat} {e:TypeId} {s:St} {tmps:Array Value} (hR:Rel Z s tmps w) {K:St->Option R} {r:R} (h:LV P k o e s K=some r):∃s',K s'=some r/\Rel Z s' tmps w:=by
 obtain⟨tm,aB,aC⟩:=s;obtain⟨ρ,hR⟩:=hR;simp only[LV]at h;split at h
 ·rename_i b hk;split at h
  ·rename_i ho;split at h
   ·rename_i ks hks;cases hc:(Nat.ble 1 ks.length&&HG aC (1000000+1000*k+o))<;>rw[hc]at h
    ·simp at h
    ·simp only[cond_true,A4]at h;simp only[Bool.and_eq_true]at hc;exact⟨_,h,_,hR.promB hk ho (YZ hc.2) (Nat.le_of_ble_eq_true hc.1)⟩
   ·simp at h
  ·exact⟨_,h,ρ,hR⟩
 ·exact⟨_,h,ρ,hR⟩
theorem Q63:∀(l:List (Nat×Nat×TypeId)) (s:St) (tmps:Array Value),Rel Z s tmps w->∀(K:St->Option R) (r:R),I3 P l s K=some r->∃s',K s'=some r/\Rel Z s' tmps w
 |[],s,tmps,hR,K,r,h=>⟨s,h,hR⟩
 |(k,o,e)::l,s,tmps,hR,K,r,h=>by
  simp only[I3]at h;obtain⟨s',h',hR'⟩:=Z0m hR h;exact Q63 l s' tmps hR' K r h'
theorem T0:∀(l:List (Nat×TypeId)) (s:St) (tmps:Array Value),Rel Z s tmps w->∀(K:St->Option R) (r:R),I2 P l s K=some r->∃s',K s'=some r/\Rel Z s' tmps w
 |[],s,tmps,hR,K,r,h=>⟨s,h,hR⟩
 |(t,e)::l,s,tmps,hR,K,r,h=>by
  obtain⟨tm,aB,aC⟩:=s;simp only[I2]at h;split at h
  ·rename_i hn;split at h
   ·rename_i ks hrow hks;cases hw:Nat.ble 1 ks.length<;>rw[hw]at h
    ·simp at h
    ·simp only[cond_true,A4]at h;refine T0 l _ tmps ?_ K r h;obtain⟨ρ,hR⟩:=hR;have hadd:=hR.addRow (d:=t) hrow (r:=⟨e,ks,[]⟩) (v':= .slice none 0 0) (xs:=[]) (w':=w) (Below.refl _ _) (Nat.le_of_ble_eq_true hw) (Qm3 w e ks.length) ⟨by simp,by simp,fun i c hi=>by simp at hi⟩ (fun g hg=>by simp[Value.ownBlock]at hg);refine⟨_,hadd.learn t ?_ (Cs ⟨_,Eo _ _ _ hrow,rfl,rfl⟩)⟩;have hv:tmps.getD t undef= .slice none 0 0:=by
      have htl:t<tm.length:=by
       rcases Nat.lt_or_ge t tm.length with hlt|hge
       ·exact hlt
       ·rw[BR,List.getD,List.getElem?_eq_none hge]at hn;simp at hn
      have hslot:tm[t]? =some (.c .nilSl):=by
       rw[BR,List.getD]at hn;rw[List.getElem?_eq_getElem htl]at hn⊢;simpa using hn
      have:=(hR.tv t _ hslot).c;simpa [CC,CP]using this
     rw[hv];exact TVR.c' ⟨by simp only[BA],by simp only[BA], .inl ⟨rfl,rfl⟩⟩
   ·simp at h
  ·exact T0 l _ tmps hR K r h
theorem Qc {s:St} {tmps:Array Value} (hR:Rel Z s tmps w) {K:St->Option R} {r:R} (h:HC P C s K=some r):∃s',K s'=some r/\Rel Z s' tmps w:=by
 unfold HC at h;obtain⟨s',h',ρ,hR'⟩:=Q63 _ s tmps hR _ r h;obtain⟨tm,aB,aC⟩:=s';simp only[A4]at h';refine T0 _ _ tmps ?_ K r h';refine⟨ρ,?_⟩;refine hR'.reBox (g:=fun _ b=>SR P b) (fun _ b=> ?_) fun k b hk=> ?_
 ·unfold SR;split<;>rfl
 ·unfold SR;split
  ·rename_i ks _;exact⟨fun xs h=>Ku ks b.cells xs h,Om ks b.cells (hR'.wb k b hk)⟩
  ·exact⟨fun xs h=>h,hR'.wb k b hk⟩
theorem Zxg {o:Op} {s:St} {tmps:Array Value} (hR:Rel Z s tmps w) {K:St->Option R} {r:R} (h:H1 P C o s K=some r):∃s',K s'=some r/\Rel Z s' tmps w:=by
 unfold H1 at h;obtain⟨s1,h1,hR1⟩:=SP _ s tmps hR _ r h;cases hc:ZP C o<;>rw[hc]at h1
 ·exact⟨s1,h1,hR1⟩
 ·exact Qc hR1 h1
theorem Zl5 {pre:Bool} {ρ:Env} {e:Operand->Value} {o:Oper} {p:Prim} (h:IJ P ρ w e o p):IJ P ρ w e o (p.dr pre):=by
 cases pre<;>cases p<;>first|exact h|(simp only[Prim.dr];cases Ak TV.plainB _<;>exact h)
theorem Qme {pre:Bool} {bx:List (Nat×Box)} {aC:List (Nat×Row)} {p:Prim} (h:Prim.wf bx aC p):Prim.wf bx aC (p.dr pre):=by
 cases pre<;>cases p<;>first|exact h|(simp only[Prim.dr];cases Ak TV.plainB _<;>exact h)
theorem Qr5 (hspec:Ai P C) (hok:∀t∈C.eqOk,P.stoodInHeld t=false) {s:St} {o:Oper} {a:Act} (hR:Rel Z s a.tmps w) {K:Option Prim->St->Option R} {r:R}
  {pre:Bool} (h:(opK P C (AY s.tmps) o.dst o.op fun p=>A1 C o.dst (p.dr pre) s fun v s'=>put s' o.dst v (K (some (p.dr pre))))=some r) {next:Act->World->Prop} {Q:Exit->Act->World->Prop}
  (hnext:∀(po:Option Prim) (s':St) (a':Act) (w':World),K po s'=some r->Rel Z s' a'.tmps w'->a'.defers=a.defers->next a' w'):o.wp P a w next Q:=by
 obtain⟨ρ,hR⟩:=hR;obtain⟨tm,aB,aC⟩:=s;have hev:=fun x=>Qrn hR x;rw[Px]at h;cases hp:opK P C (AY tm) o.dst o.op some with
 |none=>rw[hp]at h;simp at h
 |some p=>
  rw[hp]at h;simp only[Option.bind_some]at h;obtain⟨p',hp',hrun⟩:=Zj3 hok hev (fun f=>rfl) o hp;simp at hp';subst hp';have hwf:=ZR (aB:=aB) (aC:=aC) (fun x=>Qm8 hR.wt x) hp;refine Zp3 hspec hR (Zl5 hrun) (Qme hwf) h ?_;intro v tm' boxes' rows' ρ' x w' hK hR' hv hvw;rw[E4]at hK;refine hnext (some (p'.dr pre)) _ _ w' hK ?_ ?_
  ·cases hd:o.dst with
   |none=>exact⟨ρ',hR'⟩
   |some d=>exact⟨ρ',hR'.put d hv hvw⟩
  ·cases o.dst<;>rfl
theorem ZT (hspec:Ai P C) (hok:∀t∈C.eqOk,P.stoodInHeld t=false) {pre:Bool} {s:St} {o:Oper} {a:Act} (hR:Rel Z s a.tmps w) {K:Option Prim->St->Option R} {r:R}
  (h:((bif pre then H1 P C o.op s else fun K=>K s) fun s=>opK P C (AY s.tmps) o.dst o.op fun p=>A1 C o.dst (p.dr pre) s fun v s'=>put s' o.dst v (K (some (p.dr pre))))=some r) {next:Act->World->Prop} {Q:Exit->Act->World->Prop}
  (hnext:∀(po:Option Prim) (s':St) (a':Act) (w':World),K po s'=some r->Rel Z s' a'.tmps w'->a'.defers=a.defers->next a' w'):o.wp P a w next Q:=by
 cases pre
 ·exact Qr5 hspec hok hR h hnext
 ·obtain⟨s',h',hR'⟩:=Zxg hR h;exact Qr5 hspec hok hR' h' hnext
theorem Q4c (hspec:Ai P C) (hok:∀t∈C.eqOk,P.stoodInHeld t=false) {pre:Bool} {ops:Array Oper} {s:St} {o:Oper} {a:Act} (hR:Rel Z s a.tmps w) {K:Option Prim->St->Option R} {r:R}
  (h:Fk P C pre ops.toList o s K=some r) {next:Act->World->Prop} {Q:Exit->Act->World->Prop}
  (hnext:∀(po:Option Prim) (s':St) (a':Act) (w':World),K po s'=some r->Rel Z s' a'.tmps w'->a'.defers=a.defers->next a' w'):
  if Region.wanted o (yielded ops a.tmps)=true then o.wp P a w next Q else next (a.put o.dst undef) w:=by
 have hskip:∀s':St,Rel Z s' a.tmps w->put s' o.dst (.tup []) (K none)=some r->next (a.put o.dst undef) w:=by
  intro s' hR' hp;rw[E4]at hp;refine hnext none _ _ w hp ?_ (by cases o.dst<;>rfl);obtain⟨ρ,hR'⟩:=hR';cases hd:o.dst with
  |none=>exact⟨ρ,hR'⟩
  |some d=>exact⟨ρ,hR'.put d ⟨#[],rfl,trivial⟩ (fun p hp=>by simp at hp)⟩
 unfold Fk Q6 at h;cases hg:o.guard with
 |none=>
  rw[hg]at h;rw[if_pos (by simp[Region.wanted,hg])];exact ZT hspec hok hR h hnext
 |some jw=>
  obtain⟨j,want⟩:=jw;rw[hg]at h;simp only at h;split at h
  ·rename_i oj hj;split at h
   ·rename_i t ht;split at h
    ·rename_i g hgv;obtain⟨ρ,hRE⟩:=hR;have htl:t<s.tmps.length:=by
      rcases Nat.lt_or_ge t s.tmps.length with hlt|hge
      ·exact hlt
      ·rw[BR,List.getD,List.getElem?_eq_none hge]at hgv;simp at hgv
     have hslot:s.tmps[t]? =some (.c (.bool g)):=by
      rw[BR,List.getD]at hgv;rw[List.getElem?_eq_getElem htl]at hgv⊢;simpa using hgv
     have hval:=(hRE.tv t _ hslot).bool;have hts:t<a.tmps.size:=by rw[<-hRE.tl];exact htl
     have hat:a.tmps[t]? =some (.bool g):=by
      rw[Array.getElem?_eq_getElem hts];rw[Array.getD,dif_pos hts]at hval;simpa using hval
     have hy:yielded ops a.tmps j=some g:=by
      unfold yielded;have hj':ops[j]? =some oj:=by simpa using hj
      simp[hj',ht,hat]
     have hl:∀b,g=b->Rel Z ⟨setL s.tmps t (.c (.bool b)),s.aB,s.aC⟩ a.tmps w:=by
      rintro b rfl;exact⟨ρ,hRE.learn t (by rw[hval];exact TVR.mkBool _) (IV _)⟩
     have hw:Region.wanted o (yielded ops a.tmps)=(g==want):=by
      simp only[Region.wanted,hg,hy];cases g<;>cases want<;>rfl
     cases g
     ·simp only[cond_false]at h;rw[E4]at h;dsimp only at h;have hR':=hl false rfl;cases want
      ·rw[if_pos (by rw[hw];rfl)];simp only[cond_false]at h;exact ZT hspec hok hR' h hnext
      ·rw[if_neg (by rw[hw];simp)];simp only[cond_true]at h;exact hskip _ hR' h
     ·simp only[cond_true]at h;rw[E4]at h;dsimp only at h;have hR':=hl true rfl;cases want
      ·rw[if_neg (by rw[hw];simp)];simp only[cond_false]at h;exact hskip _ hR' h
      ·rw[if_pos (by rw[hw];rfl)];simp only[cond_true]at h;exact ZT hspec hok hR' h hnext
    ·rename_i hgv;obtain⟨ρ,hRE⟩:=hR;have htl:t<s.tmps.length:=by
      rcases Nat.lt_or_ge t s.tmps.length with hlt|hge
      ·exact hlt
      ·rw[BR,List.getD,List.getElem?_eq_none hge]at hgv;simp at hgv
     have hslot:s.tmps[t]? =some (.tup []):=by
      rw[BR,List.getD]at hgv;rw[List.getElem?_eq_getElem htl]at hgv⊢;simpa using hgv
     obtain⟨ys,hys,hval⟩:=hRE.tv t _ hslot;have hts:t<a.tmps.size:=by rw[<-hRE.tl];exact htl
     have hat:a.tmps[t]? =some (.tuple ys):=by
      rw[Array.getElem?_eq_getElem hts];rw[Array.getD,dif_pos hts]at hys;simpa using hys
     have hy:yielded ops a.tmps j=none:=by
      unfold yielded;have hj':ops[j]? =some oj:=by simpa using hj
      simp[hj',ht,hat]
     have hw:Region.wanted o (yielded ops a.tmps)=false:=by
      simp only[Region.wanted,hg,hy];rfl
     rw[if_neg (by rw[hw];simp)];exact hskip _ ⟨ρ,hRE⟩ h
    ·simp at h
   ·simp at h
  ·simp at h
theorem Qyi (hspec:Ai P C) (hok:∀t∈C.eqOk,P.stoodInHeld t=false) {ops:Array Oper} {Q:Exit->Act->World->Prop} {K:St->Option R} {r:R}:
  ∀(l:List Oper) (s:St) (a:Act) (w:World),Rel Z s a.tmps w->Rz P C ops.toList l s K=some r->
  (∀(s':St) (a':Act) (w':World),K s'=some r->Rel Z s' a'.tmps w'->a'.defers=a.defers->Q .normal a' w')->wpList P ops Q l a w
 |[],s,a,w,hR,h,hq=>hq s a w h hR rfl
 |o::l,s,a,w,hR,h,hq=>by
  simp only[Rz]at h;have:=Q4c (next:=wpList P ops Q l) (Q:=Q) hspec hok hR h (fun po s' a' w' hK hR' hd=>Qyi hspec hok l s' a' w' hR' hK (fun s2 a2 w2 h1 h2 h3=>hq s2 a2 w2 h1 h2 (h3.trans hd)));simp only[wpList];split
  ·rename_i hw;rw[if_pos hw]at this;exact .inl this
  ·rename_i hw;rw[if_neg hw]at this;exact this
end
end Go.Bm
namespace Go.Bm
open Go.RowKit
def R8 (s:St) (d:Option Tmp) (v:TV):St:=
 match d with
 |none=>s
 |some t=>⟨setL s.tmps t v,s.aB,s.aC⟩
section
variable {P:Program} {C:Cfg} {w:World} {R:Type} {Z:Base}
theorem Ll (s:St) (d:Option Tmp) (v:TV) (K:St->Option R):put s d v K=K (R8 s d v):=E4 s d v K
def Av (dst:Option Tmp) (p:Prim) (aB:List (Nat×Box)) (aC:List (Nat×Row)):Option (TV×List (Nat×Box)):=
 match p with
 | .val v=>some (v,aB)
 | .load g sz key off=>match Ab aB key with
  |some b=>match Dm g sz b.cells off with
   |some v=>some (v,aB)
   |none=>none
  |none=>none
 | .store key off cs=>match Ab aB key with
  |some b=>if Nat.ble (off+cs.length) b.cells.length then some (.dead,upd aB key ⟨b.ty,splice b.cells off cs⟩)else none
  |none=>none
 | .new ty cs=>match dst with
  |some d=>match Ab aB d with
   |some _=>none
   |none=>some (.c (.ptr d 0),ins aB d ⟨ty,cs⟩)
  |none=>none
 | .newView _ ks l=>some (.c (.view ks l),aB)
 | .rload g sz id idx sub=>match Ab aC id with
  |some r=>match Dm g sz (r.f idx) sub with
   |some v=>some (v,aB)
   |none=>none
  |none=>none
 | .call f args=>match C.spec f with
  |some g=>match G3 aC args with
   |some l=>match g (TV×Mem) l ⟨[],[]⟩ (fun v m=>some (v,m))with
    |some (v,⟨[],[]⟩)=>if((!(args.any TV.hasOwn)||v.flat)&&v.plainB)=true then some (v,aB)else none
    |_=>none
   |none=>none
  |none=>none
 | .callD f args=>match C.spec f with
  |some g=>
   if(Ak (TV.inK (AZ (cat AC.keys (cat TV.cellsOf args)) []) []) args&&Ak (fun k=>Ak AC.calm (Eh aB k)) (AZ (cat AC.keys (cat TV.cellsOf args)) [])&&Bz (AZ (cat AC.keys (cat TV.cellsOf args)) []))=true then
    match Di aB (fun k=>base+pos (AZ (cat AC.keys (cat TV.cellsOf args)) []) k) (fun i=>base+pos [] i) base (AZ (cat AC.keys (cat TV.cellsOf args)) [])with
    |some mb=>match g (TV×Mem) (args.map (TV.ren (fun k=>base+pos (AZ (cat AC.keys (cat TV.cellsOf args)) []) k) (fun i=>base+pos [] i))) ⟨mb,[]⟩ (fun v m=>some (v,m))with
     |some (v,⟨mb',[]⟩)=>
      if(Ak (fun p:Nat×Box=>DK mb' p.1) mb&&Ak (fun p:Nat×Box=>DK mb p.1) mb'&&Bz (mb'.map (·.1))&&Ak (fun p:Nat×Box=>Ak AC.calm p.2.cells) mb'&&v.plainB)=true then
       some (v,Cg (AZ (cat AC.keys (cat TV.cellsOf args)) []) mb' aB)
      else none
     |_=>none
    |none=>none
   else none
  |none=>none
 |_=>none
theorem Z01 (hspec:Ai P C) {dst:Option Tmp} {p:Prim} (hs:Prim.simple (some p)=true) (hna:Prim.isApp (some p)=false) (hnm:Prim.isMk (some p)=false) (s:St) (K:TV->St->Option R):
  A1 C dst p s K=(Av (C:=C) dst p s.aB s.aC).bind fun q=>K q.1 ⟨s.tmps,q.2,s.aC⟩:=by
 obtain⟨tm,aB,aC⟩:=s;cases p<;>simp only[Prim.simple]at hs<;>try (simp at hs;done)
 case appD=>simp[Prim.isApp]at hna
 case callF=>simp[Prim.isMk]at hnm
 case newRow=>simp[Prim.isMk]at hnm
 case val v=>rfl
 case newView e ks l=>rfl
 case rload g sz id idx sub=>
  simp only[A1,Av];cases h1:Ab aC id with
  |none=>rfl
  |some r=>
   dsimp only;cases h2:Dm g sz (r.f idx) sub<;>rfl
 case load g sz key off=>
  simp only[A1,Av];cases h1:Ab aB key with
  |none=>rfl
  |some b=>
   dsimp only;cases h2:Dm g sz b.cells off<;>rfl
 case store key off cs=>
  simp only[A1,Av];cases h1:Ab aB key with
  |none=>rfl
  |some b=>
   dsimp only;cases Nat.ble (off+cs.length) b.cells.length
   ·rfl
   ·simp only[cond_true,A4,if_true,Option.bind_some]
 case new ty cs=>
  simp only[A1,Av];cases dst with
  |none=>rfl
  |some d=>
   dsimp only;cases h1:Ab aB d with
   |some _=>rfl
   |none=>simp only[A4,Option.bind_some]
 case call f args=>
  simp only[A1,Av];cases h1:C.spec f with
  |none=>rfl
  |some g=>
   dsimp only;cases h2:G3 aC args with
   |none=>rfl
   |some l=>
    dsimp only;have hsp:=hspec.1 f g h1;rw[hsp.nat];cases h3:g (TV×Mem) l ⟨[],[]⟩ (fun v m=>some (v,m))with
    |none=>rfl
    |some q=>
     obtain⟨v,⟨mb,mr⟩⟩:=q;simp only[Option.bind_some];cases mb with
     |cons _ _=>rfl
     |nil=>
      cases mr with
      |cons _ _=>rfl
      |nil=>
       dsimp only;cases((!(args.any TV.hasOwn)||v.flat)&&v.plainB)<;>rfl
 case callD f args=>
  simp only[A1,Av];cases h1:C.spec f with
  |none=>rfl
  |some g=>
   dsimp only;simp only[A4];generalize AZ (cat AC.keys (cat TV.cellsOf args)) []=keys;cases hc:(Ak (TV.inK keys []) args&&Ak (fun k=>Ak AC.calm (Eh aB k)) keys&&Bz keys)
   ·simp
   ·simp only[cond_true,if_true];cases h2:Di aB (fun k=>base+pos keys k) (fun i=>base+pos [] i) base keys with
    |none=>rfl
    |some mb=>
     dsimp only;have hsp:=hspec.1 f g h1;rw[hsp.nat];cases h3:g (TV×Mem) (args.map (TV.ren (fun k=>base+pos keys k) (fun i=>base+pos [] i))) ⟨mb,[]⟩ (fun v m=>some (v,m))with
     |none=>rfl
     |some q=>
      obtain⟨v,⟨mb',mr⟩⟩:=q;simp only[Option.bind_some];cases mr with
      |cons _ _=>rfl
      |nil=>
       dsimp only;cases(Ak (fun p:Nat×Box=>DK mb' p.1) mb&&Ak (fun p:Nat×Box=>DK mb p.1) mb'&&Bz (mb'.map (·.1))&&Ak (fun p:Nat×Box=>Ak AC.calm p.2.cells) mb'&&v.plainB)<;>rfl
theorem BL {α:Type} {c:Bool} {p:Option α} {q:α} (h:cond c p none=some q):c=true/\p=some q:=by cases c<;>simp at h;exact⟨rfl,h⟩
def Ym (aC:List (Nat×Row)) (e:TypeId) (ks:List Kd) (bytes id:Nat) (x:AC):Option (TV×List (Nat×Row)):=
 match Gt aC ks x with
 |some m=>match Ab aC id with
  |some r=>if(CT ks r.ks&&Nat.beq r.ty e&&Nat.ble 1 bytes)=true then
    if Nat.ble ((r.l++m).length*bytes) 140737488355328=true then some (.c (.own id r.ks.length (r.l++m).length),upd aC id ⟨e,r.ks,r.l++m⟩)else none
   else none
  |none=>none
 |none=>none
def Qg0 (id:Nat) (tm:List TV) (bx:List (Nat×Box)) (aC:List (Nat×Row)):St:=⟨tm.map (TV.kill id),bx.map fun p=>(p.1,p.2.kill id),aC⟩
def Ql7 (aC:List (Nat×Row)) (e:TypeId) (ks:List Kd) (bytes d:Nat) (x:AC):Option (TV×List (Nat×Row)):=
 match Gt aC ks x with
 |some m=>match Ab aC d with
  |some _=>none
  |none=>if(Nat.ble 1 ks.length&&Nat.ble 1 bytes)=true then
    if Nat.ble (m.length*bytes) 140737488355328=true then some (.c (.own d ks.length m.length),ins aC d ⟨e,ks,m⟩)else none
   else none
 |none=>none
def J_ (dst:Option Tmp):Prim->Option Nat
 | .appD _ _ _ (.own id _ _) _=>some id
 | .appD _ _ _ .nilSl _=>dst
 |_=>none
def JI (dst:Option Tmp) (aC:List (Nat×Row)):Prim->Option (TV×List (Nat×Row))
 | .appD e ks bytes (.own id _ _) x=>Ym aC e ks bytes id x
 | .appD e ks bytes .nilSl x=>match dst with
  |some d=>Ql7 aC e ks bytes d x
  |none=>none
 |_=>none
def mkG (dst:Option Tmp) (p:Prim):Option (TV×Option (Nat×Row)):=
 match p with
 | .newRow e ks l=>match dst with
  |some d=>some (.c (.own (C.rowAs d) ks.length l.length),some (C.rowAs d,⟨e,ks,l⟩))
  |none=>none
 | .callF f args=>match C.spec f with
  |some g=>if Ak TV.plainB args=true then match g (TV×Mem) args ⟨[],[]⟩ (fun v m=>some (v,m))with
    |some (v,⟨[],[]⟩)=>if v.plainB=true then some (v,none)else none
    |some (.v false [.own j _ _],⟨[],[(k,r)]⟩)=>if Nat.beq j k=true then some (.c (.own (HH (dst.getD 0)) r.ks.length r.l.length),some (HH (dst.getD 0),r))else none
    |_=>none
   else none
  |none=>none
 |_=>none
def mkD (dst:Option Tmp) (p:Prim) (aC:List (Nat×Row)):Option (TV×List (Nat×Row)):=
 match mkG (C:=C) dst p with
 |some (v,none)=>some (v,aC)
 |some (v,some (k,r))=>match Ab aC k with
  |some _=>none
  |none=>some (v,ins aC k r)
 |none=>none
def EI (dst:Option Tmp) (p:Prim) (s:St):Option (TV×St):=
 bif Prim.isApp (some p)then match J_ dst p with
  |some id=>(JI dst s.aC p).map fun q=>(q.1,Qg0 id s.tmps s.aB q.2)
  |none=>none
 else bif Prim.isMk (some p)then(mkD (C:=C) dst p s.aC).map fun q=>(q.1,⟨s.tmps,s.aB,q.2⟩)
 else(Av (C:=C) dst p s.aB s.aC).map fun q=>(q.1,⟨s.tmps,q.2,s.aC⟩)
theorem Qti (hspec:Ai P C) {dst:Option Tmp} {p:Prim} (hs:Prim.simple (some p)=true) (s:St) (K:TV->St->Option R):
  A1 C dst p s K=(EI (C:=C) dst p s).bind fun q=>K q.1 q.2:=by
 cases hp:Prim.isApp (some p)with
 |false=>
  cases hk:Prim.isMk (some p)with
  |false=>
   rw[Z01 hspec hs (by rw[hp]) hk];unfold EI;rw[hp,hk];simp only[cond_false];cases Av (C:=C) dst p s.aB s.aC<;>rfl
  |true=>
   obtain⟨tm,aB,aC⟩:=s;unfold EI;rw[hp,hk];simp only[cond_false,cond_true];cases p<;>simp[Prim.isMk]at hk
   case newRow e ks l=>
    simp only[A1,mkD,mkG];cases dst with
    |none=>rfl
    |some d=>
     dsimp only;cases Ab aC (C.rowAs d)with
     |some _=>rfl
     |none=>simp only[A4];rfl
   case callF f args=>
    simp only[A1,mkD,mkG];cases h1:C.spec f with
    |none=>rfl
    |some g=>
     dsimp only;cases h2:Ak TV.plainB args
     ·rfl
     simp only[cond_true,if_true];have hsp:=hspec.1 f g h1;rw[hsp.nat];cases h3:g (TV×Mem) args ⟨[],[]⟩ (fun v m=>some (v,m))with
     |none=>rfl
     |some q=>
      obtain⟨v,⟨mb,mr⟩⟩:=q;simp only[Option.bind_some];cases mb with
      |cons _ _=>cases v<;>rfl
      |nil=>
       cases mr with
       |nil=>
        dsimp only;cases v.plainB<;>rfl
       |cons p l=>
        obtain⟨k,r⟩:=p;cases l with
        |cons _ _=>rfl
        |nil=>
         dsimp only;split
         ·rename_i j w0 n0;cases hjk:Nat.beq j k
          ·simp only[hjk,Bool.false_eq_true,if_false];rfl
          ·simp only[cond_true,hjk,if_true];cases hl:Ab aC (HH (dst.getD 0))with
           |some _=>simp only[hl];rfl
           |none=>simp only[A4,hl];rfl
         ·rename_i hno;cases v with
          |dead=>rfl
          |tup ps=>rfl
          |v g cs=>
           cases g with
           |true=>rfl
           |false=>
            cases cs with
            |nil=>rfl
            |cons a l=>
             cases l with
             |cons _ _=>cases a<;>rfl
             |nil=>cases a<;>first|rfl|exact absurd rfl (hno _ _ _)
 |true=>
  obtain⟨tm,aB,aC⟩:=s;cases p<;>simp[Prim.isApp]at hp
  rename_i e ks bytes sv x;unfold EI;simp only[Prim.isApp,cond_true,A1];cases sv
  case own id w' n=>
   dsimp only[J_,JI,Ym];cases Gt aC ks x with
   |none=>rfl
   |some m=>
    dsimp only;cases Ab aC id with
    |none=>rfl
    |some r=>
     dsimp only;cases(CT ks r.ks&&Nat.beq r.ty e&&Nat.ble 1 bytes)
     ·rfl
     ·simp only[cond_true,if_true];cases Nat.ble ((r.l++m).length*bytes) 140737488355328
      ·rfl
      ·simp only[cond_true,if_true,A4];rfl
  case nilSl=>
   dsimp only[J_,JI];cases dst with
   |none=>cases Gt aC ks x<;>rfl
   |some d=>
    dsimp only[Ql7];cases Gt aC ks x with
    |none=>rfl
    |some m=>
     dsimp only;cases Ab aC d with
     |some _=>rfl
     |none=>
      dsimp only;cases(Nat.ble 1 ks.length&&Nat.ble 1 bytes)
      ·rfl
      ·simp only[cond_true,if_true];cases Nat.ble (m.length*bytes) 140737488355328
       ·rfl
       ·simp only[cond_true,if_true,A4];rfl
  all_goals
   dsimp only[J_];cases Gt aC ks x<;>rfl
theorem Zl2 (hspec:Ai P C) {dst:Option Tmp} {p:Prim} {s:St} {K:TV->St->Option R} {r:R} (h:A1 C dst p s K=some r):∃v s',K v s'=some r:=by
 obtain⟨tm,aB,aC⟩:=s;cases p<;>simp only[A1]at h
 case val v=>exact⟨_,_,h⟩
 case newView e ks l=>exact⟨_,_,h⟩
 case load g sz key off=>
  repeat' split at h
  all_goals first|(simp at h;done)|exact⟨_,_,h⟩
 case store key off cs=>
  split at h
  ·rename_i b _;cases hb:Nat.ble (off+cs.length) b.cells.length<;>rw[hb]at h
   ·simp at h
   ·simp only[cond_true,A4]at h;exact⟨_,_,h⟩
  ·simp at h
 case new ty cs=>
  split at h
  ·split at h
   ·simp at h
   ·simp only[A4]at h;exact⟨_,_,h⟩
  ·simp at h
 case newS ty n cs=>
  split at h
  ·split at h
   ·simp at h
   ·simp only[A4]at h;exact⟨_,_,h⟩
  ·simp at h
 case rload g sz id idx sub=>
  repeat' split at h
  all_goals first|(simp at h;done)|exact⟨_,_,h⟩
 case rstore id idx sub cs=>
  split at h
  ·rename_i r0 _;cases hb:(Nat.ble (sub+cs.length) r0.w&&Ak AC.plain cs)<;>rw[hb]at h
   ·simp at h
   ·simp only[cond_true]at h;split at h
    ·simp only[A4]at h;exact⟨_,_,h⟩
    ·simp at h
  ·simp at h
 case newRow e ks l=>
  split at h
  ·split at h
   ·simp at h
   ·simp only[A4]at h;exact⟨_,_,h⟩
  ·simp at h
 case make e ks bytes n z=>
  split at h
  ·split at h
   ·simp at h
   ·obtain⟨_,h⟩:=BL h;simp only[A4]at h;exact⟨_,_,h⟩
  ·simp at h
 case cutR id a=>
  split at h
  ·obtain⟨_,h⟩:=BL h;simp only[A4]at h;exact⟨_,_,h⟩
  ·simp at h
 case append e ks bytes s x=>
  split at h
  ·split at h
   ·split at h
    ·split at h
     ·simp at h
     ·obtain⟨_,h⟩:=BL h;obtain⟨_,h⟩:=BL h;simp only[A4]at h;exact⟨_,_,h⟩
    ·simp at h
   ·split at h
    ·obtain⟨_,h⟩:=BL h;obtain⟨_,h⟩:=BL h;simp only[A4]at h;exact⟨_,_,h⟩
    ·simp at h
   ·simp at h
  ·simp at h
 case call f args=>
  split at h
  ·rename_i g hg;split at h
   ·obtain⟨v,m,h',_⟩:=(hspec.1 f g hg).run h;split at h'
    ·obtain⟨_,h'⟩:=BL h';exact⟨_,_,h'⟩
    ·simp at h'
   ·simp at h
  ·simp at h
 case callM f args=>
  split at h
  ·rename_i g hg;simp only[A4]at h;obtain⟨_,h⟩:=BL h;split at h
   ·obtain⟨v,m,h',_⟩:=(hspec.1 f g hg).run h;obtain⟨_,h'⟩:=BL h';exact⟨_,_,h'⟩
   ·simp at h
  ·simp at h
 case callF f args=>
  split at h
  ·rename_i g hg;obtain⟨_,h⟩:=BL h;obtain⟨v,m,h',_⟩:=(hspec.1 f g hg).run h;split at h'
   ·obtain⟨_,h'⟩:=BL h';exact⟨_,_,h'⟩
   ·split at h'
    ·obtain⟨_,h'⟩:=BL h';split at h'
     ·simp at h'
     ·simp only[A4]at h';exact⟨_,_,h'⟩
    ·simp at h'
   ·simp at h'
  ·simp at h
 case appD e ks bytes s x=>
  split at h
  ·split at h
   ·split at h
    ·obtain⟨_,h⟩:=BL h;obtain⟨_,h⟩:=BL h;simp only[A4]at h;exact⟨_,_,h⟩
    ·simp at h
   ·split at h
    ·split at h
     ·simp at h
     ·obtain⟨_,h⟩:=BL h;obtain⟨_,h⟩:=BL h;simp only[A4]at h;exact⟨_,_,h⟩
    ·simp at h
   ·simp at h
  ·simp at h
 case callD f args=>
  split at h
  ·rename_i g hg;simp only[A4]at h;obtain⟨_,h⟩:=BL h;split at h
   ·obtain⟨v,m,h',_⟩:=(hspec.1 f g hg).run h;split at h'
    ·obtain⟨_,h'⟩:=BL h';exact⟨_,_,h'⟩
    ·simp at h'
   ·simp at h
  ·simp at h
theorem Q6i (hspec:Ai P C) (dst:Option Tmp) (p:Prim) (s:St) (K:TV->St->Option R):A1 C dst p s K=(A1 C dst p s fun v s'=>some (v,s')).bind fun q=>K q.1 q.2:=by
 obtain⟨tm,aB,aC⟩:=s;cases p<;>simp only[A1,A4]
 case val v=>rfl
 case newView e ks l=>rfl
 case load g sz key off=>
  cases Ab aB key with
  |none=>rfl
  |some b=>
   dsimp only;cases Dm g sz b.cells off<;>rfl
 case store key off cs=>
  cases Ab aB key with
  |none=>rfl
  |some b=>
   dsimp only;cases Nat.ble (off+cs.length) b.cells.length<;>rfl
 case new ty cs=>
  cases dst with
  |none=>rfl
  |some d=>
   dsimp only;cases Ab aB d<;>rfl
 case newS ty n cs=>
  cases dst with
  |none=>rfl
  |some d=>
   dsimp only;cases Ab aB d<;>rfl
 case rload g sz id idx sub=>
  cases Ab aC id with
  |none=>rfl
  |some r=>
   dsimp only;cases Dm g sz (r.f idx) sub<;>rfl
 case rstore id idx sub cs=>
  cases Ab aC id with
  |none=>rfl
  |some r=>
   dsimp only;cases(Nat.ble (sub+cs.length) r.w&&Ak AC.plain cs)
   ·rfl
   ·simp only[cond_true];cases Ik r.ks (splice (r.f idx) sub cs)<;>rfl
 case newRow e ks l=>
  cases dst with
  |none=>rfl
  |some d=>
   dsimp only;cases Ab aC (C.rowAs d)<;>rfl
 case make e ks bytes n z=>
  cases dst with
  |none=>rfl
  |some d=>
   dsimp only;cases Ab aC d with
   |some _=>rfl
   |none=>
    dsimp only;cases(decide (0<=n)&&decide (n*(bytes:Int)<=140737488355328))<;>rfl
 case cutR id a=>
  cases Ab aC id with
  |none=>rfl
  |some r=>
   dsimp only;cases Nat.ble a r.l.length<;>rfl
 case append e ks bytes s x=>
  cases Gt aC ks x with
  |none=>rfl
  |some m=>
   dsimp only;cases s
   case nilSl=>
    dsimp only;cases dst with
    |none=>rfl
    |some d=>
     dsimp only;cases Ab aC d with
     |some _=>rfl
     |none=>
      dsimp only;cases(Nat.ble 1 ks.length&&Nat.ble 1 bytes)
      ·rfl
      ·simp only[cond_true];cases Nat.ble (m.length*bytes) 140737488355328<;>rfl
   case own id w' n=>
    dsimp only;cases Ab aC id with
    |none=>rfl
    |some r=>
     dsimp only;cases(CT ks r.ks&&Nat.beq r.ty e&&Nat.ble 1 bytes)
     ·rfl
     ·simp only[cond_true];cases Nat.ble ((r.l++m).length*bytes) 140737488355328<;>rfl
   all_goals rfl
 case appD e ks bytes s x=>
  cases Gt aC ks x with
  |none=>rfl
  |some m=>
   dsimp only;cases s
   case nilSl=>
    dsimp only;cases dst with
    |none=>rfl
    |some d=>
     dsimp only;cases Ab aC d with
     |some _=>rfl
     |none=>
      dsimp only;cases(Nat.ble 1 ks.length&&Nat.ble 1 bytes)
      ·rfl
      ·simp only[cond_true];cases Nat.ble (m.length*bytes) 140737488355328<;>rfl
   case own id w' n=>
    dsimp only;cases Ab aC id with
    |none=>rfl
    |some r=>
     dsimp only;cases(CT ks r.ks&&Nat.beq r.ty e&&Nat.ble 1 bytes)
     ·rfl
     ·simp only[cond_true];cases Nat.ble ((r.l++m).length*bytes) 140737488355328<;>rfl
   all_goals rfl
 case call f args=>
  cases hg:C.spec f with
  |none=>rfl
  |some g=>
   dsimp only;cases G3 aC args with
   |none=>rfl
   |some l=>
    dsimp only;have hsp:=hspec.1 f g hg;rw[hsp.nat,hsp.nat (TV×St)];cases g (TV×Mem) l ⟨[],[]⟩ (fun v m=>some (v,m))with
    |none=>rfl
    |some q=>
     obtain⟨v,⟨mb,mr⟩⟩:=q;simp only[Option.bind_some];cases mb with
     |cons _ _=>rfl
     |nil=>
      cases mr with
      |cons _ _=>rfl
      |nil=>
       dsimp only;cases((!(args.any TV.hasOwn)||v.flat)&&v.plainB)<;>rfl
 case callM f args=>
  cases hg:C.spec f with
  |none=>rfl
  |some g=>
   dsimp only;have hsp:=hspec.1 f g hg;generalize K3 aB 4 (AZ (cat AC.keys (cat TV.cellsOf args)) [])=keys;generalize NI aB (cat TV.cellsOf args) keys=ids;cases(Ak (TV.inK keys ids) args&&Ak (fun k=>Ak (AC.inK keys ids) (Eh aB k)) keys&&Bz keys&&Bz ids)
   ·rfl
   ·simp only[cond_true];cases Di aB (fun k=>base+pos keys k) (fun i=>base+pos ids i) base keys with
    |none=>cases F8 aC base ids<;>rfl
    |some mb=>
     cases F8 aC base ids with
     |none=>rfl
     |some mr=>
      dsimp only;rw[hsp.nat,hsp.nat (TV×St)];cases g (TV×Mem) (args.map (TV.ren (fun k=>base+pos keys k) (fun i=>base+pos ids i))) ⟨mb,mr⟩ (fun v m=>some (v,m))with
      |none=>rfl
      |some q=>
       obtain⟨v,⟨mb',mr'⟩⟩:=q;simp only[Option.bind_some];cases(Ak (fun p:Nat×Box=>DK mb' p.1) mb&&Bz (mb'.map (·.1))&&Bz (mr'.map (·.1))&&Ak (fun k=>HG aB (Bx keys (Bd keys mb') (dst.getD 0) k)) (Bd keys mb')&&Ak (fun k=>HG aC (Bx ids (Bd ids mr') (dst.getD 0) k)) (Bd ids mr')&&Nat.ble (Bd keys mb').length 100&&Nat.ble (Bd ids mr').length 100)<;>rfl
 case callF f args=>
  cases hg:C.spec f with
  |none=>rfl
  |some g=>
   dsimp only;have hsp:=hspec.1 f g hg;cases Ak TV.plainB args
   ·rfl
   ·simp only[cond_true];rw[hsp.nat,hsp.nat (TV×St)];cases g (TV×Mem) args ⟨[],[]⟩ (fun v m=>some (v,m))with
    |none=>rfl
    |some q=>
     obtain⟨v,⟨mb,mr⟩⟩:=q;simp only[Option.bind_some];cases mb with
     |cons _ _=>rfl
     |nil=>
      cases mr with
      |nil=>dsimp only;cases v.plainB<;>rfl
      |cons p l=>
       obtain⟨k,r⟩:=p;cases l with
       |cons _ _=>rfl
       |nil=>
        dsimp only;split
        ·rename_i j w0 n0;cases Nat.beq j k
         ·rfl
         ·simp only[cond_true];cases Ab aC (HH (dst.getD 0))<;>rfl
        ·rfl
 case callD f args=>
  cases hg:C.spec f with
  |none=>rfl
  |some g=>
   dsimp only;have hsp:=hspec.1 f g hg;generalize AZ (cat AC.keys (cat TV.cellsOf args)) []=keys;cases(Ak (TV.inK keys []) args&&Ak (fun k=>Ak AC.calm (Eh aB k)) keys&&Bz keys)
   ·rfl
   ·simp only[cond_true];cases Di aB (fun k=>base+pos keys k) (fun i=>base+pos [] i) base keys with
    |none=>rfl
    |some mb=>
     dsimp only;rw[hsp.nat,hsp.nat (TV×St)];cases g (TV×Mem) (args.map (TV.ren (fun k=>base+pos keys k) (fun i=>base+pos [] i))) ⟨mb,[]⟩ (fun v m=>some (v,m))with
     |none=>rfl
     |some q=>
      obtain⟨v,⟨mb',mr'⟩⟩:=q;simp only[Option.bind_some];cases mr' with
      |cons _ _=>rfl
      |nil=>
       dsimp only;cases(Ak (fun p:Nat×Box=>DK mb' p.1) mb&&Ak (fun p:Nat×Box=>DK mb p.1) mb'&&Bz (mb'.map (·.1))&&Ak (fun p:Nat×Box=>Ak AC.calm p.2.cells) mb'&&v.plainB)<;>rfl
theorem Te:∀(l:List Nat) (s:St) (K:St->Option R),Ia l s K=(Ia l s some).bind K
 |[],s,K=>rfl
 |id::l,⟨tm,aB,aC⟩,K=>by
  simp only[Ia,A4];cases Ab aC id with
  |none=>exact Te l _ K
  |some r=>exact Te l _ K
theorem Q3i (k o:Nat) (e:TypeId) (s:St) (K:St->Option R):LV P k o e s K=(LV P k o e s some).bind K:=by
 obtain⟨tm,aB,aC⟩:=s;simp only[LV,A4];cases Ab aB k with
 |none=>rfl
 |some b=>
  dsimp only;cases nth .dead b.cells o<;>try rfl
  dsimp only;cases FW P 8 e with
  |none=>rfl
  |some ks=>
   dsimp only;cases(Nat.ble 1 ks.length&&HG aC (1000000+1000*k+o))<;>rfl
theorem Qop:∀(l:List (Nat×Nat×TypeId)) (s:St) (K:St->Option R),I3 P l s K=(I3 P l s some).bind K
 |[],s,K=>rfl
 |(k,o,e)::l,s,K=>by
  simp only[I3];rw[Q3i,Q3i (K:=fun s'=>I3 P l s' some)];cases LV P k o e s some with
  |none=>rfl
  |some s'=>exact Qop l s' K
theorem Qqy:∀(l:List (Nat×TypeId)) (s:St) (K:St->Option R),I2 P l s K=(I2 P l s some).bind K
 |[],s,K=>rfl
 |(t,e)::l,⟨tmps,aB,aC⟩,K=>by
  simp only[I2];split
  ·split
   ·rename_i ks _ _;cases Nat.ble 1 ks.length
    ·rfl
    ·simp only[cond_true,A4];exact Qqy l _ K
   ·rfl
  ·exact Qqy l _ K
theorem Zqx (s:St) (K:St->Option R):HC P C s K=(HC P C s some).bind K:=by
 simp only[HC,A4];rw[Qop]
 conv=>rhs;rw[Qop]
 cases I3 P (cat (fun p:Nat×Box=>bif AR C.ownBut p.1 then []else(C.ownOff p.2.ty).map fun q=>(p.1,q.1,q.2)) s.aB) s some with
 |none=>rfl
 |some s'=>exact Qqy _ _ K
theorem Q1p (o:Op) (s:St) (K:St->Option R):H1 P C o s K=(H1 P C o s some).bind K:=by
 unfold H1;rw[Te]
 conv=>rhs;rw[Te]
 cases Ia (Q89 C (AY s.tmps) o) s some with
 |none=>rfl
 |some s'=>
  simp only[Option.bind_some];cases ZP C o
  ·rfl
  ·exact Zqx s' K
theorem Zu3 (hspec:Ai P C) (pre:Bool) (ops:List Oper) (o:Oper) (s:St) (K:Option Prim->St->Option R):Fk P C pre ops o s K=(Fk P C pre ops o s fun p s'=>some (p,s')).bind fun q=>K q.1 q.2:=by
 have hrun:∀s:St,((bif pre then H1 P C o.op s else fun K=>K s) fun s=>opK P C (AY s.tmps) o.dst o.op fun p=>A1 C o.dst (p.dr pre) s fun v s'=>put s' o.dst v (K (some (p.dr pre))))=
   ((bif pre then H1 P C o.op s else fun K=>K s) fun s=>opK P C (AY s.tmps) o.dst o.op fun p=>A1 C o.dst (p.dr pre) s fun v s'=>put s' o.dst v ((fun p s'=>some (p,s')) (some (p.dr pre)))).bind fun q=>K q.1 q.2:=by
  have h1:∀s:St,(opK P C (AY s.tmps) o.dst o.op fun p=>A1 C o.dst (p.dr pre) s fun v s'=>put s' o.dst v (K (some (p.dr pre))))=(opK P C (AY s.tmps) o.dst o.op fun p=>A1 C o.dst (p.dr pre) s fun v s'=>put s' o.dst v ((fun p s'=>some (p,s')) (some (p.dr pre)))).bind fun q=>K q.1 q.2:=by
   intro s;rw[Px]
   conv=>rhs;rw[Px]
   cases opK P C (AY s.tmps) o.dst o.op some with
   |none=>rfl
   |some p=>
    simp only[Option.bind_some];rw[Q6i hspec]
    conv=>rhs;rw[Q6i hspec]
    cases A1 C o.dst (p.dr pre) s fun v s'=>some (v,s')with
    |none=>rfl
    |some q=>simp only[Option.bind_some,Ll]
  intro s;cases pre
  ·exact h1 s
  ·simp only[cond_true];rw[Q1p]
   conv=>rhs;rw[Q1p]
   cases H1 P C o.op s some with
   |none=>rfl
   |some s'=>exact h1 s'
 have hskip:∀s:St,put s o.dst (.tup []) (K none)=(put s o.dst (.tup []) ((fun p s'=>some (p,s')) none)).bind fun q=>K q.1 q.2:=by
  intro s;simp only[Ll,Option.bind_some]
 unfold Fk Q6;cases o.guard with
 |none=>exact hrun s
 |some jw=>
  obtain⟨j,want⟩:=jw;dsimp only;cases ops[j]? with
  |none=>rfl
  |some oj=>
   dsimp only;cases oj.dst with
   |none=>rfl
   |some t=>
    dsimp only;split
    ·rename_i g _;cases g
     ·simp only[cond_false];rw[E4]
      conv=>rhs;rw[E4]
      cases want
      ·exact hrun _
      ·exact hskip _
     ·simp only[cond_true];rw[E4]
      conv=>rhs;rw[E4]
      cases want
      ·exact hskip _
      ·exact hrun _
    ·exact hskip _
    ·rfl
def BQ (ops:List Oper) (o:Oper) (tm:List TV):Option Bool:=
 match o.guard with
 |none=>some true
 |some (j,want)=>match ops[j]? with
  |some oj=>match oj.dst with
   |some t=>match nth .dead tm t with
    | .c (.bool g)=>some (g==want)
    | .tup []=>some false
    |_=>none
   |none=>none
  |none=>none
def B7 (ops:List Oper) (o:Oper) (s:St):Option (Option Prim×St):=
 match BQ ops o s.tmps with
 |some true=>(opK P C (AY s.tmps) o.dst o.op some).bind fun p=>(EI (C:=C) o.dst (p.dr false) s).bind fun q=>some (some (p.dr false),R8 q.2 o.dst q.1)
 |some false=>some (none,R8 s o.dst (.tup []))
 |none=>none
theorem Q18 {tm:List TV} {t:Nat} {v:TV} (h:nth .dead tm t=v) (hv:v≠ .dead):setL tm t v=tm:=by
 rw[BR,List.getD]at h;rw[H3];cases ht:tm[t]? with
 |none=>rw[ht]at h;simp at h;exact absurd h.symm hv
 |some u=>
  rw[ht]at h;simp at h;subst h;apply List.ext_getElem?;intro i;rw[List.getElem?_set];split
  ·rename_i e;subst e;split
   ·exact ht.symm
   ·rename_i hlt;rw[List.getElem?_eq_none (by omega)]
  ·rfl
theorem Zxh (hspec:Ai P C) {ops:List Oper} {o:Oper} {s:St} {K:Option Prim->St->Option R} {r:R} (h:Fk P C false ops o s K=some r):
  (∃p s',B7 (P:=P) (C:=C) ops o s=some (p,s')/\K p s'=some r)\/(∃p s',K (some p) s'=some r/\Prim.simple (some p)=false):=by
 have hrun:∀s1:St,BQ ops o s.tmps=some true->s1=s->(opK P C (AY s1.tmps) o.dst o.op fun p=>A1 C o.dst (p.dr false) s1 fun v s'=>put s' o.dst v (K (some (p.dr false))))=some r->
   (∃p s',B7 (P:=P) (C:=C) ops o s=some (p,s')/\K p s'=some r)\/(∃p s',K (some p) s'=some r/\Prim.simple (some p)=false):=by
  rintro s1 hw rfl h;rw[Px]at h;cases hp:opK P C (AY s1.tmps) o.dst o.op some with
  |none=>rw[hp]at h;simp at h
  |some p=>
   rw[hp]at h;simp only[Option.bind_some]at h;cases hs:Prim.simple (some (p.dr false))
   ·right;obtain⟨v,s',hk⟩:=Zl2 hspec h;rw[Ll]at hk;exact⟨p.dr false,_,hk,hs⟩
   ·left;rw[Qti hspec hs]at h;cases hm:EI (C:=C) o.dst (p.dr false) s1 with
    |none=>rw[hm]at h;simp at h
    |some q=>
     rw[hm]at h;simp only[Option.bind_some,Ll]at h;refine⟨some (p.dr false),_,?_,h⟩;simp only[B7,hw,hp,Option.bind_some,hm]
 have hskip:∀s1:St,BQ ops o s.tmps=some false->s1=s->put s1 o.dst (.tup []) (K none)=some r->
   (∃p s',B7 (P:=P) (C:=C) ops o s=some (p,s')/\K p s'=some r)\/(∃p s',K (some p) s'=some r/\Prim.simple (some p)=false):=by
  rintro s1 hw rfl h;rw[Ll]at h;exact .inl ⟨none,_,by simp only[B7,hw],h⟩
 unfold Fk Q6 at h;cases hg:o.guard with
 |none=>
  rw[hg]at h;exact hrun s (by simp[BQ,hg]) rfl h
 |some jw=>
  obtain⟨j,want⟩:=jw;rw[hg]at h;simp only at h;split at h
  ·rename_i oj hj;split at h
   ·rename_i t ht;split at h
    ·rename_i g hgv;have hw:BQ ops o s.tmps=some (g==want):=by simp only[BQ,hg,hj,ht,hgv]
     have hself:∀b,g=b->(⟨setL s.tmps t (.c (.bool b)),s.aB,s.aC⟩:St)=s:=by
      rintro b rfl;rw[Q18 hgv (by simp)]
     cases g
     ·simp only[cond_false]at h;rw[E4]at h;dsimp only at h;cases want
      ·exact hrun _ (by rw[hw];rfl) (hself false rfl) h
      ·exact hskip _ (by rw[hw];rfl) (hself false rfl) h
     ·simp only[cond_true]at h;rw[E4]at h;dsimp only at h;cases want
      ·exact hskip _ (by rw[hw];rfl) (hself true rfl) h
      ·exact hrun _ (by rw[hw];rfl) (hself true rfl) h
    ·rename_i hgv;exact hskip _ (by simp only[BQ,hg,hj,ht,hgv]) rfl h
    ·simp at h
   ·simp at h
  ·simp at h
def Ij (P:Program) (C:Cfg) (ops:List Oper) (m:List Nat) (i:Nat) (o:Oper) (s:St):Option (Option Prim×St):=
 if C7 ops m i=true then Fk P C true ops o s fun p s'=>some (p,s')else B7 (P:=P) (C:=C) ops o s
def Pd (P:Program) (C:Cfg) (ops:List Oper) (m:List Nat):List (Nat×Oper×Option Prim)->St->St->Prop
 |[],s,s'=>s=s'
 |(i,o,p)::l,s,s'=>∃s1,Ij P C ops m i o s=some (p,s1)/\Pd P C ops m l s1 s'
theorem Y_ (hspec:Ai P C) {ops:List Oper} {m:List Nat}:∀(l:List Oper) (i:Nat) (s:St) (K:List (Oper×Option Prim)->St->Option R) (r:R),Nk P C ops m l i s K=some r->
  (∃(ps:List (Nat×Oper×Option Prim)) (sf:St),ps.map (·.2.1)=l/\ps.map (·.1)=List.range' i l.length/\Pd P C ops m ps s sf/\K (ps.map (·.2)) sf=some r)\/
  (∃(acc:List (Oper×Option Prim)) (sf:St),K acc sf=some r/\∃(j:Nat) (q:Oper×Option Prim),acc[j]? =some q/\(C7 ops m (i+j)||Prim.simple q.2)=false)
 |[],i,s,K,r,h=> .inl ⟨[],s,rfl,rfl,rfl,h⟩
 |o::l,i,s,K,r,h=>by
  simp only[Nk]at h;have hstep:(∃p s1,Ij P C ops m i o s=some (p,s1)/\Nk P C ops m l (i+1) s1 (fun rest sf=>K ((o,p)::rest) sf)=some r)\/
    (∃p s1,Nk P C ops m l (i+1) s1 (fun rest sf=>K ((o,some p)::rest) sf)=some r/\(C7 ops m i||Prim.simple (some p))=false):=by
   cases hw:C7 ops m i
   ·rw[hw]at h;rcases Zxh hspec h with⟨p,s1,h1,h2⟩|⟨p,s1,h1,h2⟩
    ·exact .inl ⟨p,s1,by unfold Ij;rw[if_neg (by rw[hw];simp)];exact h1,h2⟩
    ·exact .inr ⟨p,s1,h1,by simpa using h2⟩
   ·rw[hw,Zu3 hspec]at h;cases hk:Fk P C true ops o s fun p s'=>some (p,s')with
    |none=>rw[hk]at h;simp at h
    |some q=>
     rw[hk]at h;exact .inl ⟨q.1,q.2,by unfold Ij;rw[if_pos hw];exact hk,h⟩
  rcases hstep with⟨p,s1,h1,h2⟩|⟨p,s1,h1,h2⟩
  ·rcases Y_ hspec l (i+1) s1 _ r h2 with⟨ps,sf,q1,q2,q3,q4⟩|⟨acc,sf,q1,j,q,q2,q3⟩
   ·exact .inl ⟨(i,o,p)::ps,sf,by simp[q1],by simp[q2,List.range'_succ],⟨s1,h1,q3⟩,q4⟩
   ·exact .inr ⟨_,sf,q1,j+1,q,by simp[q2],by rw[show i+(j+1)=i+1+j from by omega];exact q3⟩
  ·rcases Y_ hspec l (i+1) s1 _ r h1 with⟨ps,sf,q1,q2,q3,q4⟩|⟨acc,sf,q1,j,q,q2,q3⟩
   ·exact .inr ⟨_,sf,q4,0,(o,some p),by simp,h2⟩
   ·exact .inr ⟨_,sf,q1,j+1,q,by simp[q2],by rw[show i+(j+1)=i+1+j from by omega];exact q3⟩
end
end Go.Bm
